/- Plain laws of the given program's functions (texts of other seats turned to this one). Conditions: none. -/
import Derived.Test.YtnnipdjbiblekaaWm
import Derived.Test.YtnnipdjbiblekaaPlB
set_option linter.unusedSimpArgs false
set_option linter.unusedVariables false
namespace Go.Vl
open Go


def bitsP (x known : Int) (two : Bool) : Bool := decide (0 < x) && (decide (x ≤ 3) && ((bAndNot .i64 x known == 0) && (two || x != 3)))
def unitP (c : api_Consumer) (u : api_Unit) (known : Int) : Bool := bitsP u.Stored known c.Dual && (bif u.Up then bitsP u.Used known c.Dual && (!c.Live || u.Used == u.Stored) else u.Used == 0)
def poolP (c : api_Consumer) : Bool := decide (0 ≤ c.Pool) && decide (c.Pool ≤ 7)
def FleetOk (f : api_Fleet) : Prop := (f.Slots = 1 ∨ f.Slots = 2) ∧ 1 ≤ f.Consumers.length ∧ f.Consumers.length ≤ 8 ∧ ∀ i, (h : i < f.Consumers.length) → poolP f.Consumers[i] = true
instance (f : api_Fleet) : Decidable (FleetOk f) := by unfold FleetOk; infer_instance
def RightOk (f : api_Fleet) (s : api_Rotation) : Prop := FleetOk f ∧ (s.Known = 1 ∨ s.Known = 3) ∧ bitsP s.Valid s.Known (f.Slots == 2) = true ∧ s.Units.length = f.Consumers.length ∧
  ∀ i, (h : i < s.Units.length) → (h' : i < f.Consumers.length) → unitP f.Consumers[i] s.Units[i] s.Known = true
instance (f : api_Fleet) (s : api_Rotation) : Decidable (RightOk f s) := by unfold RightOk; infer_instance

theorem bits_sp (x k : Int) (t : Bool) : fleet_bits x k t = some (bitsP x k t) := rfl
/-- an index loop over a list, as the walks print it -/
theorem contains_pool {l : List api_Consumer} (hl : l.length ≤ 1000) : slices_ContainsFunc_api_Consumer_at_fleet_Check_1 l = some (decide (¬ ∀ i, (h : i < l.length) → poolP l[i] = true)) := by
  have key : ∀ (m i : Nat), i + m = l.length → ∃ e, iter (slices_IndexFunc_api_Consumer_at_fleet_Check_1_l0 l) (i : Int) = some e ∧ ((e = .inl () ∧ ∀ j, i ≤ j → (h : j < l.length) → poolP l[j] = true) ∨ (∃ j : Nat, e = .inr (j : Int) ∧ i ≤ j ∧ ∃ h : j < l.length, poolP l[j] = false)) := fun m => by
    induction m with
    | zero =>
      intro i h
      refine ⟨.inl (), iter_out ?_, .inl ⟨rfl, fun j h1 h2 => by omega⟩⟩
      unfold slices_IndexFunc_api_Consumer_at_fleet_Check_1_l0
      rw [if_neg (by simp; omega)]
    | succ m ih =>
      intro i h
      have hi : i < l.length := by omega
      by_cases hp : poolP l[i] = true
      · obtain ⟨e, h1, h2⟩ := ih (i + 1) (by omega)
        refine ⟨e, ?_, ?_⟩
        · rw [← h1]
          refine iter_go ?_
          unfold slices_IndexFunc_api_Consumer_at_fleet_Check_1_l0
          rw [if_pos (by simp; omega), idx_lt hi]
          simp only [Option.bind_some, fleet_Check_1]
          have : ¬ (l[i].Pool < 0) ∧ ¬ (7 < l[i].Pool) := by simp [poolP] at hp; omega
          rw [if_neg (by simp [this.1, this.2]), w64 (by omega) (by omega)]; rfl
        · rcases h2 with ⟨h3, h4⟩ | ⟨j, h3, h4, h5⟩
          · exact .inl ⟨h3, fun j h5 h6 => by
              rcases Nat.lt_or_eq_of_le h5 with h7 | h7
              · exact h4 j h7 h6
              · subst h7; exact hp⟩
          · exact .inr ⟨j, h3, by omega, h5⟩
      · refine ⟨.inr (i : Int), iter_out ?_, .inr ⟨i, rfl, Nat.le_refl i, hi, by simpa using hp⟩⟩
        unfold slices_IndexFunc_api_Consumer_at_fleet_Check_1_l0
        rw [if_pos (by simp; omega), idx_lt hi]
        simp only [Option.bind_some, fleet_Check_1]
        have : l[i].Pool < 0 ∨ 7 < l[i].Pool := by simp [poolP] at hp; omega
        rw [if_pos (by simpa using this)]
  obtain ⟨e, h1, h2⟩ := key l.length 0 (by omega)
  unfold slices_ContainsFunc_api_Consumer_at_fleet_Check_1 slices_IndexFunc_api_Consumer_at_fleet_Check_1
  rw [show (0 : Int) = ((0 : Nat) : Int) from rfl, h1]
  rcases h2 with ⟨rfl, h3⟩ | ⟨j, rfl, h3, h4, h5⟩
  · simp only [Option.bind_some]
    congr 1
    have : ∀ i, (h : i < l.length) → poolP l[i] = true := fun i h => h3 i (Nat.zero_le i) h
    simp [this]
  · simp only [Option.bind_some]
    congr 1
    have : ¬ ∀ i, (h : i < l.length) → poolP l[i] = true := fun h => by have := h j h4; rw [h5] at this; cases this
    simp only [this, not_false_iff, decide_true]
    simp
theorem check_sp (f : api_Fleet) : fleet_Check f = some (if FleetOk f then 0 else 36) := by
  unfold fleet_Check
  by_cases h1 : f.Slots = 1 ∨ f.Slots = 2
  · by_cases h2 : 1 ≤ f.Consumers.length
    · by_cases h3 : f.Consumers.length ≤ 8
      · have hc := contains_pool (l := f.Consumers) (by omega)
        have e1 : ¬ (decide ((f.Consumers.length : Int) < 1)) = true := by simp; omega
        have e2 : ¬ (decide (8 < (f.Consumers.length : Int))) = true := by simp; omega
        by_cases h4 : ∀ i, (h : i < f.Consumers.length) → poolP f.Consumers[i] = true
        · have hok : FleetOk f := ⟨h1, h2, h3, h4⟩
          rw [if_pos hok]
          rcases h1 with h1 | h1 <;> simp [h1, e1, e2, hc, h4]
          all_goals (rw [if_neg (by omega), if_neg (by omega)]; simp)
        · have hok : ¬ FleetOk f := fun h => h4 h.2.2.2
          rw [if_neg hok]
          rcases h1 with h1 | h1 <;> simp [h1, e1, e2, hc, h4]
          all_goals (rw [if_neg (by omega), if_neg (by omega)]; simp)
      · have hok : ¬ FleetOk f := fun h => h3 h.2.2.1
        rw [if_neg hok]
        have e1 : ¬ (decide ((f.Consumers.length : Int) < 1)) = true := by simp; omega
        have e2 : (decide (8 < (f.Consumers.length : Int))) = true := by simp; omega
        rcases h1 with h1 | h1 <;> simp only [h1, e1, e2] <;> simp
    · have hok : ¬ FleetOk f := fun h => h2 h.2.1
      rw [if_neg hok]
      have e1 : (decide ((f.Consumers.length : Int) < 1)) = true := by simp; omega
      rcases h1 with h1 | h1 <;> simp only [h1, e1] <;> simp
  · have hok : ¬ FleetOk f := fun h => h1 h.1
    rw [if_neg hok]
    have a1 : (f.Slots != 1) = true := by simp; omega
    have a2 : (f.Slots != 2) = true := by simp; omega
    simp only [a1, a2]; simp
theorem unit_sp (c : api_Consumer) (u : api_Unit) (k : Int) : fleet_unit c u k = some (unitP c u k) := by
  unfold fleet_unit unitP
  simp only [bits_sp, Option.bind_some]
  cases bitsP u.Stored k c.Dual with
  | false => simp
  | true =>
    cases hu : u.Up with
    | false => simp
    | true =>
      cases bitsP u.Used k c.Dual with
      | false => simp
      | true => cases c.Live <;> simp
theorem right_loop (f : api_Fleet) (s : api_Rotation) (hl : s.Units.length = f.Consumers.length) (h8 : f.Consumers.length ≤ 1000) : iter (fleet_Right_l0 s f) 0 =
    some (if ∀ i, (h : i < s.Units.length) → (h' : i < f.Consumers.length) → unitP f.Consumers[i] s.Units[i] s.Known = true then .inl () else .inr false) := by
  rw [iter_all s.Units.length (fun i => if h : i < s.Units.length ∧ i < f.Consumers.length then unitP f.Consumers[i] s.Units[i] s.Known else true) (fun i hi => ?_) ?_]
  · congr 1
    have : (∀ i, i < s.Units.length → (if h : i < s.Units.length ∧ i < f.Consumers.length then unitP f.Consumers[i] s.Units[i] s.Known else true) = true) ↔ ∀ i, (h : i < s.Units.length) → (h' : i < f.Consumers.length) → unitP f.Consumers[i] s.Units[i] s.Known = true :=
      ⟨fun h i h1 h2 => by have := h i h1; rwa [dif_pos ⟨h1, h2⟩] at this, fun h i h1 => by rw [dif_pos ⟨h1, by omega⟩]; exact h i h1 (by omega)⟩
    simp only [this]
  · unfold fleet_Right_l0
    rw [if_neg (by simp)]
  · unfold fleet_Right_l0
    rw [if_pos (by simp; omega), idx_lt hi, idx_lt (by omega : i < f.Consumers.length)]
    simp only [Option.bind_some, unit_sp]
    rw [dif_pos ⟨hi, by omega⟩]
    cases unitP f.Consumers[i] s.Units[i] s.Known with
    | false => simp
    | true => simp; exact w64 (by omega) (by omega)
theorem right_sp (f : api_Fleet) (s : api_Rotation) : fleet_Right f s = some (decide (RightOk f s)) := by
  unfold fleet_Right
  rw [check_sp]
  by_cases hf : FleetOk f
  case neg =>
    have : ¬ RightOk f s := fun h => hf h.1
    simp [hf, this]
  simp only [hf, if_true, Option.bind_some, bits_sp]
  have h8 : f.Consumers.length ≤ 8 := hf.2.2.1
  by_cases hk : s.Known = 1 ∨ s.Known = 3
  case neg =>
    have : ¬ RightOk f s := fun h => hk h.2.1
    have a1 : (s.Known != 1) = true := by simp; omega
    have a2 : (s.Known != 3) = true := by simp; omega
    simp [a1, a2, this]
  cases hb : bitsP s.Valid s.Known (f.Slots == 2) with
  | false =>
    have : ¬ RightOk f s := fun h => by have := h.2.2.1; rw [hb] at this; cases this
    rcases hk with hk | hk <;> simp [hk, this]
  | true =>
    by_cases hl : s.Units.length = f.Consumers.length
    case neg =>
      have : ¬ RightOk f s := fun h => hl h.2.2.2.1
      have hl' : ((s.Units.length : Int) != (f.Consumers.length : Int)) = true := by simp; omega
      rcases hk with hk | hk <;> simp [hk, this, hl']
    have hl' : ((s.Units.length : Int) != (f.Consumers.length : Int)) = false := by simp; omega
    rw [right_loop f s hl (by omega)]
    by_cases hu : ∀ i, (h : i < s.Units.length) → (h' : i < f.Consumers.length) → unitP f.Consumers[i] s.Units[i] s.Known = true
    · have : RightOk f s := ⟨hf, hk, hb, hl, hu⟩
      rw [if_pos hu]
      rcases hk with hk | hk <;> simp [hk, this, hl']
    · have : ¬ RightOk f s := fun h => hu h.2.2.2.2
      rw [if_neg hu]
      rcases hk with hk | hk <;> simp [hk, this, hl']

def fixU (c : api_Consumer) (u : api_Unit) : api_Unit := bif c.Live && u.Up then ⟨u.Up, u.Stored, u.Stored⟩ else u
def unitStep (c : api_Consumer) (u : api_Unit) (kind : Int) (issued : Bool) : Bool × api_Unit :=
  if kind = 4 then (issued && u.Stored == 1, fixU c ⟨u.Up, bif c.Dual then 3 else 2, u.Used⟩)
  else if kind = 7 then (u.Stored == 3, fixU c ⟨u.Up, 2, u.Used⟩)
  else if kind = 5 then (u.Up, ⟨false, u.Stored, 0⟩)
  else if kind = 6 then (!u.Up, ⟨true, u.Stored, u.Stored⟩)
  else (false, fixU c u)
def issuerB (k : Int) : Bool := k == 1 || k == 2 || k == 3 || k == 8
def kindOk (f : api_Fleet) (x : api_Step) : Prop := 1 ≤ x.Kind ∧ x.Kind ≤ 8 ∧ 0 ≤ x.Unit ∧ x.Unit < f.Consumers.length ∧ (issuerB x.Kind = true → x.Unit = 0)
instance (f : api_Fleet) (x : api_Step) : Decidable (kindOk f x) := by unfold kindOk; infer_instance
def okStep (f : api_Fleet) (s : api_Rotation) (x : api_Step) : Bool :=
  if x.Kind = 1 then s.Known == 1 else if x.Kind = 2 then s.Known == 3 && (s.Valid == 1 && f.Slots == 2) else if x.Kind = 3 then s.Known == 3 && s.Valid == 1 else if x.Kind = 8 then s.Valid == 3
  else (unitStep (f.Consumers.getD x.Unit.toNat default) (s.Units.getD x.Unit.toNat default) x.Kind (s.Known == 3)).1
def nextS (f : api_Fleet) (s : api_Rotation) (x : api_Step) : api_Rotation :=
  if x.Kind = 1 then ⟨3, s.Valid, s.Units⟩ else if x.Kind = 2 then ⟨s.Known, 3, s.Units⟩ else if x.Kind = 3 then ⟨s.Known, 2, s.Units⟩ else if x.Kind = 8 then ⟨s.Known, 2, s.Units⟩
  else ⟨s.Known, s.Valid, s.Units.set x.Unit.toNat (unitStep (f.Consumers.getD x.Unit.toNat default) (s.Units.getD x.Unit.toNat default) x.Kind (s.Known == 3)).2⟩
def zeroR : api_Rotation := ⟨0, 0, []⟩
def applyP (f : api_Fleet) (s : api_Rotation) (x : api_Step) : api_Rotation × Int :=
  if ¬ RightOk f s then (zeroR, 36) else if ¬ kindOk f x then (zeroR, 2) else if okStep f s x = false then (zeroR, 37) else (nextS f s x, 0)

theorem and1_2 : bAnd .i64 1 2 = 0 := by decide
theorem and3_2 : bAnd .i64 3 2 = 2 := by decide
theorem or1_2 : bOr .i64 1 2 = 3 := by decide
theorem or3_2 : bOr .i64 3 2 = 3 := by decide
theorem knownB {k : Int} (h : k = 1 ∨ k = 3) : (bAnd .i64 k 2 != 0) = (k == 3) ∧ (bAnd .i64 k 2 == 0) = (k == 1) ∧ bOr .i64 k 2 = 3 := by
  rcases h with rfl | rfl
  · rw [and1_2, or1_2]; decide
  · rw [and3_2, or3_2]; decide
theorem copy_sp {s : api_Rotation} (h0 : 0 < s.Units.length) (h8 : s.Units.length ≤ 1000) : fleet_Copy_own2 s = some s := by
  unfold fleet_Copy_own2 slices_Clone_api_Unit_own0
  rw [ck_t ⟨by omega, h0⟩]; rfl
theorem RightOk.len {f : api_Fleet} {s : api_Rotation} (h : RightOk f s) : 0 < s.Units.length ∧ s.Units.length ≤ 8 := by
  have h1 := h.1.2.1; have h2 := h.1.2.2.1; have h3 := h.2.2.2.1; omega
theorem RightOk.unit {f : api_Fleet} {s : api_Rotation} (h : RightOk f s) {i : Nat} (hi : i < s.Units.length) (hi' : i < f.Consumers.length) : unitP f.Consumers[i] s.Units[i] s.Known = true := h.2.2.2.2 i hi hi'
theorem bitsP_val {x k : Int} {t : Bool} (h : bitsP x k t = true) : (x = 1 ∨ x = 2 ∨ x = 3) ∧ (bAndNot .i64 x k = 0) ∧ (t = true ∨ x ≠ 3) := by
  simp only [bitsP, Bool.and_eq_true, decide_eq_true_eq, beq_iff_eq, Bool.or_eq_true, bne_iff_ne] at h
  exact ⟨by omega, h.2.2.1, h.2.2.2⟩
theorem unitP_stored {c : api_Consumer} {u : api_Unit} {k : Int} (h : unitP c u k = true) : (u.Stored = 1 ∨ u.Stored = 2 ∨ u.Stored = 3) := by
  simp only [unitP, Bool.and_eq_true] at h
  exact (bitsP_val h.1).1

theorem change_sp {f : api_Fleet} {s : api_Rotation} {x : api_Step} {i : Nat} (hx : x.Unit = (i : Int)) (hi : i < s.Units.length) (hi' : i < f.Consumers.length) (b : Bool) :
    steps_change_el1_2 f.Consumers[i] s x.Unit x.Kind b = some ((unitStep f.Consumers[i] s.Units[i] x.Kind b).1, ⟨s.Known, s.Valid, s.Units.set i (unitStep f.Consumers[i] s.Units[i] x.Kind b).2⟩) := by
  have hset : ∀ u : api_Unit, idx (s.Units.set i u) (i : Int) = some u := fun u => by rw [idx_lt (by simpa using hi)]; simp
  have hself : s.Units.set i s.Units[i] = s.Units := List.set_getElem_self hi
  have j0 : ∀ (b : Bool) (u : api_Unit), steps_change_el1_2_j0 f.Consumers[i] x.Unit s (b, s.Units.set i u) = some (b, ⟨s.Known, s.Valid, s.Units.set i (fixU f.Consumers[i] u)⟩) := fun b u => by
    unfold steps_change_el1_2_j0 fixU
    rw [hx]
    simp only [hset, Option.bind_some, Int.toNat_natCast, List.set_set]
    cases hL : f.Consumers[i].Live with
    | false => simp
    | true => cases hU : u.Up <;> simp [hU]
  unfold steps_change_el1_2 unitStep
  rw [hx] at j0 ⊢
  simp only [idx_lt hi, Option.bind_some, Int.toNat_natCast]
  by_cases h4 : x.Kind = 4
  · simp only [h4]
    cases hD : f.Consumers[i].Dual <;> cases b <;> simp [j0]
  · by_cases h7 : x.Kind = 7
    · simp [h7, j0]
    · by_cases h5 : x.Kind = 5
      · simp [h5]
      · by_cases h6 : x.Kind = 6
        · simp [h6]
        · have := j0 false s.Units[i]
          rw [hself] at this
          simp [h4, h5, h6, h7, this]

theorem apply_sp (f : api_Fleet) (s : api_Rotation) (x : api_Step) : steps_Apply f s x = some (applyP f s x) := by
  unfold steps_Apply applyP
  simp only [Option.bind_some, right_sp]
  by_cases hr : RightOk f s
  case neg => simp [hr, zeroR]
  obtain ⟨l0, l8⟩ := hr.len
  have hlen := hr.2.2.2.1
  simp only [hr, decide_true, not_true, if_false]
  have hv : ((decide (x.Kind < 1)) || ((decide (8 < x.Kind)) || ((decide (x.Unit < 0)) || ((decide (((s.Units).length : Int) ≤ x.Unit)) || ((bif (decide (1 ≤ x.Kind)) then ((decide (x.Kind ≤ 3)) || (x.Kind == 8)) else (x.Kind == 8)) && (x.Unit != 0)))))) = decide (¬ kindOk f x) := by
    rw [Bool.eq_iff_iff, decide_eq_true_eq]
    simp only [kindOk, issuerB, Bool.or_eq_true, Bool.and_eq_true, decide_eq_true_eq, beq_iff_eq, bne_iff_ne, cond_eq_ite]
    constructor
    · intro h hk
      obtain ⟨k1, k2, k3, k4, k5⟩ := hk
      rcases h with h | h | h | h | ⟨h, h'⟩
      · omega
      · omega
      · omega
      · omega
      · rw [if_pos k1] at h
        simp only [Bool.or_eq_true, decide_eq_true_eq, beq_iff_eq] at h
        exact h' (k5 (by omega))
    · intro h
      refine Classical.byContradiction fun hn => h ?_
      simp only [not_or, not_and, Int.not_lt, Int.not_le] at hn
      refine ⟨by omega, by omega, by omega, by omega, fun hk => Classical.byContradiction fun hu => ?_⟩
      have := hn.2.2.2.2
      rw [if_pos (by omega)] at this
      simp only [Bool.or_eq_true, decide_eq_true_eq, beq_iff_eq] at this
      exact this (by omega) hu
  rw [hv]
  by_cases hk : kindOk f x
  case neg => simp [hk, zeroR]
  simp only [hk, not_true, decide_false, if_false]
  rw [if_neg (by simp), if_neg (by simp), copy_sp l0 (by omega)]
  obtain ⟨k1, k2, k3, k4, k5⟩ := hk
  obtain ⟨i, hi⟩ : ∃ i : Nat, x.Unit = (i : Int) := ⟨x.Unit.toNat, by omega⟩
  have hi1 : i < s.Units.length := by omega
  have hi2 : i < f.Consumers.length := by omega
  obtain ⟨b1, b2, b3⟩ := knownB hr.2.1
  have hstep : steps_step_o1_2 f s x = some (okStep f s x, nextS f s x) := by
    unfold steps_step_o1_2 okStep nextS
    simp only [b1, b3, Option.bind_some]
    by_cases h1 : x.Kind = 1
    · simp only [h1]
      rcases hr.2.1 with hk | hk <;> simp [hk]
    · by_cases h2 : x.Kind = 2
      · simp [h2]
      · by_cases h3 : x.Kind = 3
        · simp [h3]
        · by_cases h8 : x.Kind = 8
          · simp [h8]
          · have e1 : f.Consumers.getD x.Unit.toNat default = f.Consumers[i] := by rw [hi]; simp [List.getD, hi2]
            have e2 : s.Units.getD x.Unit.toNat default = s.Units[i] := by rw [hi]; simp [List.getD, hi1]
            simp only [h1, h2, h3, h8, if_false, e1, e2]
            rw [if_neg (by simpa using h1), if_neg (by simpa using h2), if_neg (by simpa using h3), if_neg (by simpa using h8)]
            have e3 : idx f.Consumers x.Unit = some f.Consumers[i] := by rw [hi]; exact idx_lt hi2
            rw [e3]
            simp only [Option.bind_some]
            rw [ck_t (by rw [hi]; simp; omega), Option.bind_some, change_sp hi hi1 hi2]
            simp only [Option.bind_some]
            rw [hi]; rfl
  simp only [Option.bind_some, hstep]
  cases okStep f s x <;> simp [zeroR]

theorem st2 {u : api_Unit} (h : u.Stored = 1 ∨ u.Stored = 2 ∨ u.Stored = 3) : (bAnd .i64 u.Stored 2 == 0) = (u.Stored == 1) := by
  rcases h with h | h | h <;> rw [h] <;> decide

/-! The tape -/
def TapeOk (m : make_Tape) : Prop := 0 ≤ m.at_ ∧ m.at_ ≤ 1000000000 ∧ m.L.length ≤ 1000000
theorem next_ex {m : make_Tape} (h : 0 ≤ m.at_ ∧ m.at_ ≤ m.L.length ∧ m.L.length ≤ 1000000) {n : Int} (hn : 0 < n) : ∃ v m', make_Tape_Next m n = some (v, m') ∧ 0 ≤ v ∧ v < n ∧ (0 ≤ m'.at_ ∧ m'.at_ ≤ m'.L.length ∧ m'.L.length ≤ 1000000) := by
  obtain ⟨h1, h2, h3⟩ := h
  unfold make_Tape_Next
  by_cases hb : (m.L.length : Int) ≤ m.at_
  · rw [if_pos (by simpa using hb)]
    exact ⟨0, m, rfl, by omega, hn, h1, h2, h3⟩
  · rw [if_neg (by simpa using hb), idx_toNat h1 (by omega)]
    simp only [Option.bind_some, ck_t (show n ≠ 0 by omega), bAnd16]
    rw [Int.tmod_eq_emod_of_nonneg (Int.emod_nonneg _ (by omega)), w64 (by omega) (by omega)]
    exact ⟨_, _, rfl, Int.emod_nonneg _ (by omega), Int.emod_lt_of_pos _ hn, by simp; omega, by simp; omega, h3⟩
abbrev TOk (m : make_Tape) : Prop := 0 ≤ m.at_ ∧ m.at_ ≤ m.L.length ∧ m.L.length ≤ 1000000
theorem between_ex {m : make_Tape} (h : TOk m) {a b : Int} (hab : a ≤ b) (ha : -1000000 ≤ a) (hb : b ≤ 1000000) : ∃ v m', make_Tape_Between m a b = some (v, m') ∧ a ≤ v ∧ v ≤ b ∧ TOk m' := by
  unfold make_Tape_Between
  rw [w64 (x := b - a) (by omega) (by omega), w64 (x := b - a + 1) (by omega) (by omega)]
  obtain ⟨v, m', h1, h2, h3, h4⟩ := next_ex h (n := b - a + 1) (by omega)
  rw [h1]
  simp only [Option.bind_some]
  rw [w64 (by omega) (by omega)]
  exact ⟨_, _, rfl, by omega, by omega, h4⟩

/-! Fleets, steps, states -/
theorem make_Fleet_ex {m : make_Tape} (h : TOk m) {most : Int} (h1 : 1 ≤ most) (h8 : most ≤ 8) : ∃ f m', make_Fleet m most = some (f, m') ∧ FleetOk f ∧ (f.Consumers.length : Int) ≤ most ∧ (∀ c ∈ f.Consumers, c.Pool = 0 ∨ c.Pool = 1) ∧ TOk m' := by
  unfold make_Fleet
  obtain ⟨sl, m1, e1, s1, s2, t1⟩ := between_ex h (a := 1) (b := 2) (by omega) (by omega) (by omega)
  rw [e1]
  simp only [Option.bind_some]
  obtain ⟨k, m2, e2, k1, k2, t2⟩ := between_ex t1 (a := 1) (b := most) h1 (by omega) (by omega)
  rw [e2]
  simp only [Option.bind_some]
  have key : ∃ e, iter make_Fleet_l0 (k, m2.L, m2.at_, []) = some e ∧ (TOk ⟨e.1, e.2.1⟩ ∧ (e.2.2.length : Int) = k ∧ ∀ c ∈ e.2.2, c.Pool = 0 ∨ c.Pool = 1) := by
    refine iter_ex (fun s => 0 ≤ s.1 ∧ s.1 + (s.2.2.2.length : Int) = k ∧ TOk ⟨s.2.1, s.2.2.1⟩ ∧ ∀ c ∈ s.2.2.2, c.Pool = 0 ∨ c.Pool = 1) (fun s => s.1.toNat) _ ?_ ⟨by simp; omega, by simp, t2, by simp⟩
    rintro ⟨j, L, at_, cs⟩ ⟨g1, g2, g3, g4⟩
    simp only at g1 g2 g3 g4 ⊢
    unfold make_Fleet_l0
    by_cases hj : 0 < j
    · left
      simp only
      rw [if_pos (by simpa using hj)]
      obtain ⟨p, m3, e3, p1, p2, t3⟩ := next_ex g3 (n := 2) (by omega)
      rw [e3]
      simp only [Option.bind_some]
      obtain ⟨q, m4, e4, q1, q2, t4⟩ := next_ex t3 (n := 2) (by omega)
      rw [e4]
      simp only [Option.bind_some]
      obtain ⟨r, m5, e5, r1, r2, t5⟩ := next_ex t4 (n := 2) (by omega)
      rw [e5]
      simp only [Option.bind_some]
      rw [ck_t (by simp; omega), Option.bind_some, w64 (by omega) (by omega)]
      refine ⟨_, rfl, ⟨by simp; omega, by simp; omega, t5, fun c hc => ?_⟩, by simp; omega⟩
      simp only [List.mem_append, List.mem_singleton] at hc
      rcases hc with hc | rfl
      · exact g4 c hc
      · simp; omega
    · right
      simp only
      rw [if_neg (by simpa using hj)]
      exact ⟨_, rfl, g3, by simp; omega, g4⟩
  obtain ⟨e, he, t, hl, hp⟩ := key
  rw [he]
  refine ⟨_, _, rfl, ⟨by simp; omega, by simp; omega, by simp; omega, fun i hi => ?_⟩, by simp; omega, hp, t⟩
  have := hp _ (List.getElem_mem hi)
  unfold poolP
  rcases this with h | h <;> simp [h]

/-! What a step leads to is right -/
theorem an13 : bAndNot .i64 1 3 = 0 := by decide
theorem bits13 {t : Bool} : bitsP 1 3 t = true := by unfold bitsP; rw [an13]; cases t <;> decide
theorem bits3 {t : Bool} : bitsP 2 3 t = true := by unfold bitsP; rw [show bAndNot .i64 2 3 = 0 by decide]; cases t <;> decide
theorem bits33 : bitsP 3 3 true = true := by unfold bitsP; rw [show bAndNot .i64 3 3 = 0 by decide]; decide
theorem bitsP_more {x k : Int} {t : Bool} (h : bitsP x k t = true) (hk : k = 1 ∨ k = 3) : bitsP x 3 t = true := by
  obtain ⟨h1, h2, h3⟩ := bitsP_val h
  rcases h1 with h1 | h1 | h1
  · rw [h1]; exact bits13
  · rw [h1]; exact bits3
  · rcases h3 with h3 | h3
    · rw [h1, h3]; exact bits33
    · exact absurd h1 h3
theorem unitP_iff {c : api_Consumer} {u : api_Unit} {k : Int} : unitP c u k = true ↔ bitsP u.Stored k c.Dual = true ∧ ((u.Up = true ∧ bitsP u.Used k c.Dual = true ∧ (c.Live = true → u.Used = u.Stored)) ∨ (u.Up = false ∧ u.Used = 0)) := by
  unfold unitP
  generalize bitsP u.Stored k c.Dual = A
  generalize bitsP u.Used k c.Dual = B
  cases A <;> cases B <;> cases u.Up <;> cases c.Live <;> simp
theorem unitP_more {c : api_Consumer} {u : api_Unit} {k : Int} (h : unitP c u k = true) (hk : k = 1 ∨ k = 3) : unitP c u 3 = true := by
  rw [unitP_iff] at h ⊢
  obtain ⟨h1, h2⟩ := h
  refine ⟨bitsP_more h1 hk, ?_⟩
  rcases h2 with ⟨a, b, c⟩ | h2
  · exact .inl ⟨a, bitsP_more b hk, c⟩
  · exact .inr h2
theorem unitP_step {c : api_Consumer} {u : api_Unit} {k kind : Int} (h : unitP c u k = true) (hk : k = 1 ∨ k = 3) (hok : (unitStep c u kind (k == 3)).1 = true) : unitP c (unitStep c u kind (k == 3)).2 k = true := by
  have h' := h
  unfold unitP at h
  rw [Bool.and_eq_true] at h
  obtain ⟨hs, hu⟩ := h
  unfold unitStep at hok ⊢
  split at hok
  · rename_i h4
    rw [if_pos h4] at *
    simp only [Bool.and_eq_true, beq_iff_eq] at hok
    obtain ⟨hk3, hst⟩ := hok
    subst hk3
    have hst2 : bitsP (bif c.Dual then 3 else 2) 3 c.Dual = true := by cases c.Dual; exact bits3; exact bits33
    unfold fixU
    cases hup : u.Up with
    | false =>
      rw [hup] at hu
      simp only [Bool.and_false, cond_false] at hu ⊢
      unfold unitP
      simp only [hst2, cond_false, Bool.true_and]; exact hu
    | true =>
      rw [hup] at hu
      simp only [cond_true, Bool.and_eq_true] at hu
      cases hL : c.Live with
      | true => unfold unitP; simp [hst2]
      | false => unfold unitP; simp [hst2, hu.1, hL]
  · split at hok
    · rename_i h4 h7
      rw [if_neg h4, if_pos h7]
      have hst : u.Stored = 3 := by simpa using hok
      have hk3 : k = 3 := by
        rcases hk with hk | hk
        · have := (bitsP_val hs).2.1; rw [hst, hk] at this; exact absurd this (by decide)
        · exact hk
      subst hk3
      unfold fixU
      cases hup : u.Up with
      | false =>
        rw [hup] at hu
        simp only [Bool.and_false, cond_false] at hu ⊢
        unfold unitP
        simp only [bits3, cond_false, Bool.true_and]; exact hu
      | true =>
        rw [hup] at hu
        simp only [cond_true, Bool.and_eq_true] at hu
        cases hL : c.Live with
        | true => unfold unitP; simp [bits3]
        | false => unfold unitP; simp [bits3, hu.1, hL]
    · split at hok
      · rename_i h4 h7 h5
        rw [if_neg h4, if_neg h7, if_pos h5]
        unfold unitP; simp [hs]
      · split at hok
        · rename_i h4 h7 h5 h6
          rw [if_neg h4, if_neg h7, if_neg h5, if_pos h6]
          unfold unitP; simp [hs]
        · cases hok
theorem next_right {f : api_Fleet} {s : api_Rotation} {x : api_Step} (hr : RightOk f s) (hk : kindOk f x) (hok : okStep f s x = true) : RightOk f (nextS f s x) := by
  obtain ⟨hf, hkn, hb, hl, hu⟩ := hr
  obtain ⟨k1, k2, k3, k4, k5⟩ := hk
  unfold okStep at hok
  unfold nextS
  split at hok
  · rename_i h1
    rw [if_pos h1]
    exact ⟨hf, .inr rfl, bitsP_more hb hkn, hl, fun i h h' => unitP_more (hu i h h') hkn⟩
  · rename_i h1
    rw [if_neg h1]
    split at hok
    · rename_i h2
      rw [if_pos h2]
      simp only [Bool.and_eq_true, beq_iff_eq] at hok
      refine ⟨hf, .inr hok.1, ?_, hl, hu⟩
      show bitsP 3 s.Known (f.Slots == 2) = true
      rw [hok.1, hok.2.2]; exact bits33
    · rename_i h2
      rw [if_neg h2]
      split at hok
      · rename_i h3
        rw [if_pos h3]
        simp only [Bool.and_eq_true, beq_iff_eq] at hok
        refine ⟨hf, .inr hok.1, ?_, hl, hu⟩
        show bitsP 2 s.Known (f.Slots == 2) = true
        rw [hok.1]; exact bits3
      · rename_i h3
        rw [if_neg h3]
        split at hok
        · rename_i h8
          rw [if_pos h8]
          have hv : s.Valid = 3 := by simpa using hok
          have hk3 : s.Known = 3 := by
            rcases hkn with hk | hk
            · have := (bitsP_val hb).2.1; rw [hv, hk] at this; exact absurd this (by decide)
            · exact hk
          refine ⟨hf, .inr hk3, ?_, hl, hu⟩
          show bitsP 2 s.Known (f.Slots == 2) = true
          rw [hk3]; exact bits3
        · rename_i h8
          rw [if_neg h8]
          refine ⟨hf, hkn, hb, by simpa using hl, fun i h h' => ?_⟩
          have hi : i < s.Units.length := by simpa using h
          simp only [List.getElem_set]
          split
          · rename_i e
            subst e
            have e1 : f.Consumers.getD x.Unit.toNat default = f.Consumers[x.Unit.toNat] := by simp [List.getD, h']
            have e2 : s.Units.getD x.Unit.toNat default = s.Units[x.Unit.toNat] := by simp [List.getD, hi]
            rw [e1, e2] at hok ⊢
            exact unitP_step (hu _ hi h') hkn hok
          · exact hu i hi h'

theorem start_right {f : api_Fleet} (hf : FleetOk f) : RightOk f ⟨1, 1, List.replicate f.Consumers.length ⟨true, 1, 1⟩⟩ := by
  have b1 : ∀ t, bitsP 1 1 t = true := fun t => by unfold bitsP; rw [show bAndNot .i64 1 1 = 0 by decide]; cases t <;> decide
  refine ⟨hf, .inl rfl, b1 _, by simp, fun i h h' => ?_⟩
  simp only [List.getElem_replicate]
  unfold unitP
  simp [b1]
theorem apply_right {f : api_Fleet} {s : api_Rotation} {x : api_Step} (hr : RightOk f s) (h : (applyP f s x).2 = 0) : RightOk f (applyP f s x).1 ∧ kindOk f x ∧ okStep f s x = true ∧ (applyP f s x).1 = nextS f s x := by
  unfold applyP at h ⊢
  rw [if_neg (by simpa using hr)] at h ⊢
  by_cases hk : kindOk f x
  · rw [if_neg (by simpa using hk)] at h ⊢
    cases ho : okStep f s x with
    | false => rw [ho] at h; simp at h
    | true => rw [if_neg (by simp)]; exact ⟨next_right hr hk ho, hk, rfl, rfl⟩
  · rw [if_pos hk] at h; simp at h

/-! What is sorted and compact -/
theorem compact_ok {zs : List Int} (hs : zs.Pairwise (· ≤ ·)) : (Lib.compact zs).Pairwise (· < ·) ∧ ∀ x, x ∈ Lib.compact zs ↔ x ∈ zs := by
  have key : ∀ m, m ≤ zs.length → (Lib.compactUpTo zs.toArray m).Pairwise (· < ·) ∧ (∀ x, x ∈ Lib.compactUpTo zs.toArray m ↔ x ∈ zs.take m) ∧ ∀ x ∈ Lib.compactUpTo zs.toArray m, ∀ y, zs[m - 1]? = some y → x ≤ y := fun m => by
    induction m with
    | zero => intro _; refine ⟨by simp [Lib.compactUpTo], by simp [Lib.compactUpTo], by simp [Lib.compactUpTo]⟩
    | succ m ih =>
      intro hm
      obtain ⟨i1, i2, i3⟩ := ih (by omega)
      have hmz : m < zs.length := by omega
      have ed : zs.toArray[m]! = zs[m] := by simp [hmz]
      rw [Lib.compactUpTo_succ, ed]
      have htake : ∀ x, x ∈ zs.take (m + 1) ↔ x ∈ zs.take m ∨ x = zs[m] := fun x => by rw [List.take_add_one, List.getElem?_eq_getElem hmz, Option.toList_some, List.mem_append, List.mem_singleton]
      have hle : ∀ x ∈ Lib.compactUpTo zs.toArray m, x ≤ zs[m] := fun x hx => by
        have := (i2 x).1 hx
        obtain ⟨j, hj, e⟩ := List.mem_take_iff_getElem.1 this
        rw [← e]
        exact List.pairwise_iff_getElem.1 hs j m (by omega) hmz (by omega)
      have hy : ∀ y, zs[m + 1 - 1]? = some y → y = zs[m] := fun y h => by simp [hmz] at h; exact h.symm
      cases hk : Lib.keeps zs.toArray m with
      | true =>
        simp only [if_true]
        have hlt : ∀ x ∈ Lib.compactUpTo zs.toArray m, x < zs[m] := fun x hx => by
          simp only [Lib.keeps, decide_eq_true_eq] at hk
          rcases hk with hk | hk
          · subst hk; simp [Lib.compactUpTo] at hx
          · have hm0 : m ≠ 0 := fun e => by subst e; simp [Lib.compactUpTo] at hx
            have hp : m - 1 < zs.length := by omega
            have e1 : zs.toArray[m - 1]! = zs[m - 1] := by simp [hp]
            rw [ed, e1] at hk
            have h1 := i3 x hx zs[m - 1] (List.getElem?_eq_getElem hp)
            have h2 : zs[m - 1] ≤ zs[m] := List.pairwise_iff_getElem.1 hs (m - 1) m hp hmz (by omega)
            omega
        refine ⟨List.pairwise_append.2 ⟨i1, by simp, fun x hx y hy => by simp at hy; subst hy; exact hlt x hx⟩, fun x => ?_, fun x hx y hy' => ?_⟩
        · rw [htake, List.mem_append, i2]; simp
        · rw [hy y hy']
          rw [List.mem_append] at hx
          rcases hx with hx | hx
          · exact hle x hx
          · simp at hx; omega
      | false =>
        simp only [Bool.false_eq_true, if_false, List.append_nil]
        have hm0 : m ≠ 0 := fun e => by subst e; simp [Lib.keeps] at hk
        have hp : m - 1 < zs.length := by omega
        have e0 : zs[m] = zs[m - 1] := by
          simp only [Lib.keeps, decide_eq_false_iff_not, not_or, ne_eq, Decidable.not_not] at hk
          have e1 : zs.toArray[m - 1]! = zs[m - 1] := by simp [hp]
          rw [← ed, ← e1]; exact hk.2
        refine ⟨i1, fun x => ?_, fun x hx y hy' => by rw [hy y hy']; exact hle x hx⟩
        rw [htake, i2]
        constructor
        · exact .inl
        · rintro (h | h)
          · exact h
          · rw [h, e0]; exact List.mem_take_iff_getElem.2 ⟨m - 1, by omega, rfl⟩
  have h := key zs.length (Nat.le_refl _)
  rw [List.take_length] at h
  exact ⟨by simpa [Lib.compact] using h.1, fun x => by simpa [Lib.compact] using h.2.1 x⟩
theorem sorted_merge (l : List Int) : (l.mergeSort fun x y => decide (x ≤ y)).Pairwise (· ≤ ·) := by
  have := List.pairwise_mergeSort (le := fun x y : Int => decide (x ≤ y)) (fun a b c h1 h2 => by simp at h1 h2 ⊢; omega) (fun a b => by simp; omega) l
  exact this.imp fun h => by simpa using h
theorem mem_merge (l : List Int) (x : Int) : x ∈ (l.mergeSort fun x y => decide (x ≤ y)) ↔ x ∈ l := List.mem_mergeSort

/-! Who is served -/
def servesU (s : api_Rotation) (u : api_Unit) : Bool := bAnd .i64 u.Used s.Valid != 0
def servedRaw (f : api_Fleet) (s : api_Rotation) : List Int := ((f.Consumers.zip s.Units).filter fun q => servesU s q.2).map fun q => q.1.Pool
def servedP (f : api_Fleet) (s : api_Rotation) : List Int := if RightOk f s then Lib.compact ((servedRaw f s).mergeSort fun x y => decide (x ≤ y)) else []
theorem servedP_ok {f : api_Fleet} {s : api_Rotation} (hr : RightOk f s) : (servedP f s).Pairwise (· < ·) ∧ ∀ p, p ∈ servedP f s ↔ p ∈ servedRaw f s := by
  unfold servedP
  rw [if_pos hr]
  obtain ⟨h1, h2⟩ := compact_ok (sorted_merge (servedRaw f s))
  exact ⟨h1, fun p => by rw [h2, mem_merge]⟩
theorem served_sp (f : api_Fleet) (s : api_Rotation) : fleet_Served f s = some (servedP f s) := by
  unfold fleet_Served servedP
  rw [right_sp]
  by_cases hr : RightOk f s
  case neg => simp [hr]
  simp only [hr, decide_true, Option.bind_some, if_true]
  rw [if_neg (by simp)]
  obtain ⟨l0, l8⟩ := hr.len
  have hlen := hr.2.2.2.1
  have hz : (f.Consumers.zip s.Units).length = f.Consumers.length := by simp; omega
  have hloop : iter (fleet_Served_l0 f s) (0, []) = some ((f.Consumers.zip s.Units).foldl (fun (a : List Int) q => if servesU s q.2 = true then a ++ [q.1.Pool] else a) []) := by
    refine iter_foldl (f.Consumers.zip s.Units) (fun (a : List Int) q => if servesU s q.2 = true then a ++ [q.1.Pool] else a) id (fun i a => a.length ≤ i) (fun i hi a ha => ?_) (fun a ha => ?_) [] (Nat.le_refl 0)
    · have hi1 : i < f.Consumers.length := by omega
      have hi2 : i < s.Units.length := by omega
      unfold fleet_Served_l0
      simp only
      rw [if_pos (by simp; omega), idx_lt hi1, idx_lt hi2]
      simp only [Option.bind_some, List.getElem_zip, servesU]
      rw [w64 (by omega) (by omega)]
      by_cases hu : (bAnd .i64 s.Units[i].Used s.Valid != 0) = true
      · rw [if_pos hu, if_pos hu, ck_t (by simp; omega)]
        exact ⟨rfl, by simp; omega⟩
      · rw [if_neg hu, if_neg hu]
        exact ⟨rfl, by omega⟩
    · unfold fleet_Served_l0
      simp only
      rw [hz, if_neg (by simp)]; rfl
  have hfold : ∀ (l : List (api_Consumer × api_Unit)) (a : List Int), l.foldl (fun (a : List Int) q => if servesU s q.2 = true then a ++ [q.1.Pool] else a) a = a ++ (l.filter fun q => servesU s q.2).map fun q => q.1.Pool := fun l => by
    induction l with
    | nil => intro a; simp
    | cons q l ih =>
      intro a
      simp only [List.foldl_cons, ih, List.filter_cons]
      split <;> simp
  rw [hloop, hfold]
  simp only [Option.bind_some, List.nil_append]
  have hraw : (servedRaw f s).length ≤ 8 := by
    unfold servedRaw
    rw [List.length_map]
    exact Nat.le_trans (List.length_filter_le _ _) (by omega)
  show (slices_Sort_int_vec0 (servedRaw f s)).bind _ = _
  unfold slices_Sort_int_vec0 slices_Compact_int_eat0_own0
  rw [ck_t (by omega)]
  simp only [Option.bind_some]
  rw [ck_t (by simp; omega)]
  simp only [Option.bind_some]

theorem index_sp {l : List Int} (hl : l.length ≤ 1000000) (x : Int) : slices_Contains_int l x = some (decide (x ∈ l)) := by
  have key : ∀ (m i : Nat), i + m = l.length → ∃ e, iter (slices_Index_int_l0 l x) (i : Int) = some e ∧ ((e = .inl () ∧ ∀ j, i ≤ j → (h : j < l.length) → l[j] ≠ x) ∨ (∃ j : Nat, e = .inr (j : Int) ∧ ∃ h : j < l.length, l[j] = x)) := fun m => by
    induction m with
    | zero =>
      intro i h
      refine ⟨.inl (), iter_out ?_, .inl ⟨rfl, fun j h1 h2 => by omega⟩⟩
      unfold slices_Index_int_l0
      rw [if_neg (by simp; omega)]
    | succ m ih =>
      intro i h
      have hi : i < l.length := by omega
      by_cases hp : l[i] = x
      · refine ⟨.inr (i : Int), iter_out ?_, .inr ⟨i, rfl, hi, hp⟩⟩
        unfold slices_Index_int_l0
        rw [if_pos (by simp; omega), idx_lt hi]
        simp only [Option.bind_some]
        rw [if_pos (by simp [hp])]
      · obtain ⟨e, h1, h2⟩ := ih (i + 1) (by omega)
        refine ⟨e, ?_, ?_⟩
        · rw [← h1]
          refine iter_go ?_
          unfold slices_Index_int_l0
          rw [if_pos (by simp; omega), idx_lt hi]
          simp only [Option.bind_some]
          rw [if_neg (by simpa using fun e => hp e.symm), w64 (by omega) (by omega)]; rfl
        · rcases h2 with ⟨h3, h4⟩ | h3
          · exact .inl ⟨h3, fun j h5 h6 => by
              rcases Nat.lt_or_eq_of_le h5 with h7 | h7
              · exact h4 j h7 h6
              · subst h7; exact hp⟩
          · exact .inr h3
  obtain ⟨e, h1, h2⟩ := key l.length 0 (by omega)
  unfold slices_Contains_int slices_Index_int
  rw [show (0 : Int) = ((0 : Nat) : Int) from rfl, h1]
  rcases h2 with ⟨rfl, h3⟩ | ⟨j, rfl, h4, h5⟩
  · simp only [Option.bind_some]
    have : ¬ x ∈ l := fun h => by obtain ⟨j, hj, e⟩ := List.getElem_of_mem h; exact h3 j (Nat.zero_le j) hj e
    simp [this]
  · simp only [Option.bind_some]
    have : x ∈ l := h5 ▸ List.getElem_mem h4
    simp [this]
theorem holds_loop {l b : List Int} (hl : l.length ≤ 1000000) (hb : b.length ≤ 1000000) : slices_ContainsFunc_int_at_steps_holds_1_b l b = some (decide (¬ ∀ p ∈ l, p ∈ b), b) := by
  have key : ∀ (m i : Nat), i + m = l.length → ∃ e, iter (slices_IndexFunc_int_at_steps_holds_1_b_l0 l) ((i : Int), b) = some e ∧ ((e = .inl b ∧ ∀ j, i ≤ j → (h : j < l.length) → l[j] ∈ b) ∨ (∃ j : Nat, e = .inr ((j : Int), b) ∧ ∃ h : j < l.length, ¬ l[j] ∈ b)) := fun m => by
    induction m with
    | zero =>
      intro i h
      refine ⟨.inl b, iter_out ?_, .inl ⟨rfl, fun j h1 h2 => by omega⟩⟩
      unfold slices_IndexFunc_int_at_steps_holds_1_b_l0
      simp only
      rw [if_neg (by simp; omega)]
    | succ m ih =>
      intro i h
      have hi : i < l.length := by omega
      by_cases hp : l[i] ∈ b
      · obtain ⟨e, h1, h2⟩ := ih (i + 1) (by omega)
        refine ⟨e, ?_, ?_⟩
        · rw [← h1]
          refine iter_go ?_
          unfold slices_IndexFunc_int_at_steps_holds_1_b_l0
          simp only
          rw [if_pos (by simp; omega), idx_lt hi]
          simp only [Option.bind_some, steps_holds_1_cb, index_sp hb]
          rw [if_neg (by simp [hp]), w64 (by omega) (by omega)]; rfl
        · rcases h2 with ⟨h3, h4⟩ | h3
          · exact .inl ⟨h3, fun j h5 h6 => by
              rcases Nat.lt_or_eq_of_le h5 with h7 | h7
              · exact h4 j h7 h6
              · subst h7; exact hp⟩
          · exact .inr h3
      · refine ⟨.inr ((i : Int), b), iter_out ?_, .inr ⟨i, rfl, hi, hp⟩⟩
        unfold slices_IndexFunc_int_at_steps_holds_1_b_l0
        simp only
        rw [if_pos (by simp; omega), idx_lt hi]
        simp only [Option.bind_some, steps_holds_1_cb, index_sp hb]
        rw [if_pos (by simp [hp])]
  obtain ⟨e, h1, h2⟩ := key l.length 0 (by omega)
  unfold slices_ContainsFunc_int_at_steps_holds_1_b slices_IndexFunc_int_at_steps_holds_1_b
  rw [show ((0 : Int), b) = (((0 : Nat) : Int), b) from rfl, h1]
  rcases h2 with ⟨rfl, h3⟩ | ⟨j, rfl, h4, h5⟩
  · simp only [Option.bind_some]
    have : ∀ p ∈ l, p ∈ b := fun p hp => by obtain ⟨j, hj, e⟩ := List.getElem_of_mem hp; exact e ▸ h3 j (Nat.zero_le j) hj
    simp
    exact this
  · simp only [Option.bind_some]
    have : ¬ ∀ p ∈ l, p ∈ b := fun h => h5 (h _ (List.getElem_mem h4))
    simp [this]
theorem servedP_len (f : api_Fleet) (s : api_Rotation) : (servedP f s).length ≤ 8 := by
  unfold servedP
  split
  · rename_i hr
    obtain ⟨l0, l8⟩ := hr.len
    refine Nat.le_trans (compact_len _) ?_
    rw [List.length_mergeSort]
    unfold servedRaw
    rw [List.length_map]
    refine Nat.le_trans (List.length_filter_le _ _) ?_
    simp; omega
  · simp
def holdsP (f : api_Fleet) (a b : api_Rotation) : Prop := ∀ p ∈ servedP f a, p ∈ servedP f b
instance (f : api_Fleet) (a b : api_Rotation) : Decidable (holdsP f a b) := by unfold holdsP; infer_instance
theorem holds_sp (f : api_Fleet) (a b : api_Rotation) : steps_holds f a b = some (decide (holdsP f a b)) := by
  unfold steps_holds
  simp only [served_sp, Option.bind_some]
  rw [holds_loop (by have := servedP_len f a; omega) (by have := servedP_len f b; omega)]
  simp only [Option.bind_some, holdsP]
  congr 1
  by_cases h : ∀ p ∈ servedP f a, p ∈ servedP f b
  · rw [decide_eq_false (not_not_intro h), decide_eq_true h]; rfl
  · rw [decide_eq_true h, decide_eq_false h]; rfl
def safeP (f : api_Fleet) (s : api_Rotation) (x : api_Step) : Bool := (applyP f s x).2 == 0 && decide (holdsP f s (applyP f s x).1)
theorem safe_sp (f : api_Fleet) (s : api_Rotation) (x : api_Step) : steps_Safe f s x = some (safeP f s x) := by
  unfold steps_Safe safeP
  simp only [apply_sp, Option.bind_some, holds_sp]
  cases ((applyP f s x).2 == 0) <;> simp

/-! awake -/
def fA : api_Fleet := ⟨2, [⟨0, false, false⟩]⟩
def sA : api_Rotation := ⟨1, 1, [⟨true, 1, 1⟩]⟩
theorem fA_ok : FleetOk fA := by
  refine ⟨.inr rfl, by decide, by decide, fun i h => ?_⟩
  have : i = 0 := by simp [fA] at h; omega
  subst this; rfl
theorem sA_right : RightOk fA sA := start_right fA_ok
theorem apply_eq {f : api_Fleet} {s : api_Rotation} {x : api_Step} (hr : RightOk f s) (hk : kindOk f x) (ho : okStep f s x = true) : applyP f s x = (nextS f s x, 0) := by
  unfold applyP
  rw [if_neg (not_not_intro hr), if_neg (not_not_intro hk), if_neg (by rw [ho]; simp)]
theorem kA1 : kindOk fA ⟨1, 0⟩ := by unfold kindOk; decide
theorem kA5 : kindOk fA ⟨5, 0⟩ := by unfold kindOk; decide
theorem aA1 : applyP fA sA ⟨1, 0⟩ = (⟨3, 1, [⟨true, 1, 1⟩]⟩, 0) := apply_eq sA_right kA1 (by decide)
theorem aA5 : applyP fA sA ⟨5, 0⟩ = (⟨1, 1, [⟨false, 1, 0⟩]⟩, 0) := apply_eq sA_right kA5 (by decide)
theorem rA1 : RightOk fA ⟨3, 1, [⟨true, 1, 1⟩]⟩ := by have := (apply_right sA_right (x := ⟨1, 0⟩) (by rw [aA1])).1; rwa [aA1] at this
theorem rA5 : RightOk fA ⟨1, 1, [⟨false, 1, 0⟩]⟩ := by have := (apply_right sA_right (x := ⟨5, 0⟩) (by rw [aA5])).1; rwa [aA5] at this
theorem wA0 : servedRaw fA sA = [0] := by decide
theorem wA1 : servedRaw fA ⟨3, 1, [⟨true, 1, 1⟩]⟩ = [0] := by decide
theorem wA5 : servedRaw fA ⟨1, 1, [⟨false, 1, 0⟩]⟩ = [] := by decide
theorem safeA1 : safeP fA sA ⟨1, 0⟩ = true := by
  unfold safeP
  rw [aA1]
  have : holdsP fA sA ⟨3, 1, [⟨true, 1, 1⟩]⟩ := fun p hp => by
    rw [(servedP_ok sA_right).2, wA0] at hp
    rw [(servedP_ok rA1).2, wA1]; exact hp
  simp [this]
theorem safeA5 : safeP fA sA ⟨5, 0⟩ = false := by
  unfold safeP
  rw [aA5]
  have : ¬ holdsP fA sA ⟨1, 1, [⟨false, 1, 0⟩]⟩ := fun h => by
    have := h 0 (by rw [(servedP_ok sA_right).2, wA0]; simp)
    rw [(servedP_ok rA5).2, wA5] at this; cases this
  simp [this]
/-! A step leads elsewhere -/
theorem unit_ne {c : api_Consumer} {u : api_Unit} {k : Int} {b : Bool} (hs : u.Stored = 1 ∨ u.Stored = 2 ∨ u.Stored = 3) (h : (unitStep c u k b).1 = true) : (unitStep c u k b).2 ≠ u := by
  obtain ⟨u1, u2, u3⟩ := u
  have fx : ∀ v : api_Unit, (fixU c v).Stored = v.Stored ∧ (fixU c v).Up = v.Up := fun v => by unfold fixU; cases (c.Live && v.Up) <;> simp
  intro he
  have h1 : (unitStep c ⟨u1, u2, u3⟩ k b).2.Stored = u2 := by rw [he]
  have h2 : (unitStep c ⟨u1, u2, u3⟩ k b).2.Up = u1 := by rw [he]
  unfold unitStep at h h1 h2
  split at h
  · rename_i hk; rw [if_pos hk] at h1
    simp only [(fx _).1, Bool.and_eq_true, beq_iff_eq] at h h1
    cases hd : c.Dual <;> rw [hd] at h1 <;> simp at h1 <;> omega
  · rename_i hk; rw [if_neg hk] at h1 h2
    split at h
    · rename_i hk; rw [if_pos hk] at h1
      simp only [(fx _).1, beq_iff_eq] at h h1; omega
    · rename_i hk; rw [if_neg hk] at h1 h2
      split at h
      · rename_i hk; rw [if_pos hk] at h2; simp at h h2; rw [h] at h2; cases h2
      · rename_i hk; rw [if_neg hk] at h1 h2
        split at h
        · rename_i hk; rw [if_pos hk] at h2; simp at h h2; rw [h] at h2; cases h2
        · cases h
theorem next_ne {f : api_Fleet} {s : api_Rotation} {x : api_Step} (hr : RightOk f s) (hk : kindOk f x) (ho : okStep f s x = true) : s ≠ nextS f s x := by
  obtain ⟨k, v, us⟩ := s
  intro he
  obtain ⟨hf, hkn, hb, hl, hu⟩ := hr
  obtain ⟨k1, k2, k3, k4, k5⟩ := hk
  unfold okStep at ho
  unfold nextS at he
  simp only at hkn hb hl hu ho he
  split at ho
  · rename_i h1; rw [if_pos h1] at he
    simp only [api_Rotation.mk.injEq, beq_iff_eq] at he ho; omega
  · rename_i h1; rw [if_neg h1] at he
    split at ho
    · rename_i h1; rw [if_pos h1] at he
      simp only [api_Rotation.mk.injEq, beq_iff_eq, Bool.and_eq_true] at he ho; omega
    · rename_i h1; rw [if_neg h1] at he
      split at ho
      · rename_i h1; rw [if_pos h1] at he
        simp only [api_Rotation.mk.injEq, beq_iff_eq, Bool.and_eq_true] at he ho; omega
      · rename_i h1; rw [if_neg h1] at he
        split at ho
        · rename_i h1; rw [if_pos h1] at he
          simp only [api_Rotation.mk.injEq, beq_iff_eq] at he ho; omega
        · rename_i h1; rw [if_neg h1] at he
          simp only [api_Rotation.mk.injEq, true_and] at he
          have hi : x.Unit.toNat < us.length := by omega
          have h' : x.Unit.toNat < f.Consumers.length := by omega
          have e1 : f.Consumers.getD x.Unit.toNat default = f.Consumers[x.Unit.toNat] := by simp [List.getD, h']
          have e2 : us.getD x.Unit.toNat default = us[x.Unit.toNat] := by simp [List.getD, hi]
          rw [e1, e2] at ho he
          have := congrArg (fun l => l[x.Unit.toNat]?) he
          simp [hi] at this
          exact unit_ne (unitP_stored (hu _ hi h')) ho this.symm
theorem next_known {f : api_Fleet} {s : api_Rotation} {x : api_Step} (hr : RightOk f s) (ho : okStep f s x = true) : ((nextS f s x).Known = s.Known ∨ (nextS f s x).Known = 3) ∧ ((nextS f s x).Valid = s.Valid ∨ ((nextS f s x).Valid = 3 ∧ s.Valid = 1) ∨ (nextS f s x).Valid = 2) := by
  unfold okStep at ho
  unfold nextS
  split at ho
  · rename_i h1; rw [if_pos h1]; exact ⟨.inr rfl, .inl rfl⟩
  · rename_i h1; rw [if_neg h1]
    split at ho
    · rename_i h1; rw [if_pos h1]
      simp only [beq_iff_eq, Bool.and_eq_true] at ho; exact ⟨.inl rfl, .inr (.inl ⟨rfl, ho.2.1⟩)⟩
    · rename_i h1; rw [if_neg h1]
      split at ho
      · rename_i h1; rw [if_pos h1]; exact ⟨.inl rfl, .inr (.inr rfl)⟩
      · rename_i h1; rw [if_neg h1]
        split at ho
        · rename_i h1; rw [if_pos h1]; exact ⟨.inl rfl, .inr (.inr rfl)⟩
        · rename_i h1; rw [if_neg h1]; exact ⟨.inl rfl, .inl rfl⟩
theorem apply_err {f : api_Fleet} {s : api_Rotation} {x : api_Step} (hr : RightOk f s) (hk : kindOk f x) (h : (applyP f s x).2 ≠ 0) : (applyP f s x).2 = 37 := by
  unfold applyP at h ⊢
  rw [if_neg (not_not_intro hr), if_neg (not_not_intro hk)] at h ⊢
  split at h
  · rename_i h1; rw [if_pos h1]
  · simp at h
theorem bx13 : bAnd .i64 1 1 = 1 := by decide
theorem bx21 : bAnd .i64 2 1 = 0 := by decide
theorem bx31 : bAnd .i64 3 1 = 1 := by decide
theorem bx12 : bAnd .i64 1 2 = 0 := by decide
theorem bx22 : bAnd .i64 2 2 = 2 := by decide
theorem bx32 : bAnd .i64 3 2 = 2 := by decide
theorem bn11 : bAndNot .i64 1 1 = 0 := by decide
theorem bn13 : bAndNot .i64 1 3 = 0 := by decide
theorem bn33 : bAndNot .i64 3 3 = 0 := by decide

theorem bits_go {k v nk nv : Int} (hk : k = 1 ∨ k = 3) (hv : v = 1 ∨ v = 2 ∨ v = 3) (h1 : nk = k ∨ nk = 3) (h2 : nv = v ∨ (nv = 3 ∧ v = 1) ∨ nv = 2) :
    (if ((bAnd .i64 nv 1) != 0) = true then
        if ((bAnd .i64 v 1) == 0) = true then
          some true
        else
        if ((bAndNot .i64 k nk) != 0) = true then
          some true
        else
        if ((bAnd .i64 v 2) != 0) = true then
          some ((bAnd .i64 nv 2) == 0)
        else
          some false
      else
      if ((bAndNot .i64 k nk) != 0) = true then
        some true
      else
      if ((bAnd .i64 v 2) != 0) = true then
        some ((bAnd .i64 nv 2) == 0)
      else
        some false) = some false := by
  have h3 : bAndNot .i64 k nk = 0 := by
    rcases hk with rfl | rfl <;> rcases h1 with rfl | rfl <;> first | exact bn11 | exact bn13 | exact bn33
  rw [h3]
  rcases hv with rfl | rfl | rfl <;> rcases h2 with rfl | ⟨rfl, h2⟩ | rfl <;> simp [bx13, bx21, bx31, bx12, bx22, bx32] <;> omega
abbrev SR : Type := Int × (List Int) × Int × Int × Int × (List api_Unit)
def invR (f : api_Fleet) (n : Int) (s : SR) : Prop := 0 ≤ s.1 ∧ s.1 ≤ n ∧ TOk ⟨s.2.1, s.2.2.1⟩ ∧ RightOk f ⟨s.2.2.2.1, s.2.2.2.2.1, s.2.2.2.2.2⟩
theorem tape0 {a : List Int} (h : ¬ 300 < (a.length : Int)) : TOk ⟨a, 0⟩ := ⟨by simp, by simp, by simp; omega⟩
/-! What a step leaves alone -/
theorem next_apart {f : api_Fleet} {s : api_Rotation} {x : api_Step} (hk : kindOk f x) (hl : s.Units.length = f.Consumers.length) : (nextS f s x).Units.length = s.Units.length ∧ ((4 ≤ x.Kind ∧ x.Kind ≤ 7) → (nextS f s x).Known = s.Known ∧ (nextS f s x).Valid = s.Valid) ∧
    ∀ (i : Nat), (¬ (4 ≤ x.Kind ∧ x.Kind ≤ 7) ∨ (i : Int) ≠ x.Unit) → (nextS f s x).Units[i]? = s.Units[i]? := by
  obtain ⟨k1, k2, k3, k4, k5⟩ := hk
  unfold nextS
  split
  · exact ⟨rfl, fun h => by omega, fun i h => rfl⟩
  · split
    · exact ⟨rfl, fun h => by omega, fun i h => rfl⟩
    · split
      · exact ⟨rfl, fun h => by omega, fun i h => rfl⟩
      · split
        · exact ⟨rfl, fun h => by omega, fun i h => rfl⟩
        · refine ⟨by simp, fun _ => ⟨rfl, rfl⟩, fun i h => ?_⟩
          simp only [List.getElem?_set]
          rw [if_neg (by omega)]

theorem iter_foldl2 {α σ σ' ε : Type} {body : σ' → Option (Lp σ' ε)} (l : List α) (S : Nat → σ → σ') (f : σ → α → σ) (fin : σ → ε) (Inv : Nat → σ → Prop)
    (hgo : ∀ (i : Nat) (h : i < l.length) (s : σ), Inv i s → body (S i s) = some (.go (S (i + 1) (f s l[i]))) ∧ Inv (i + 1) (f s l[i]))
    (hend : ∀ s, Inv l.length s → body (S l.length s) = some (.out (fin s))) (s0 : σ) (h0 : Inv 0 s0) : iter body (S 0 s0) = some (fin (l.foldl f s0)) := by
  have key : ∀ (m i : Nat) (s : σ), i + m = l.length → Inv i s → iter body (S i s) = some (fin ((l.drop i).foldl f s)) := fun m => by
    induction m with
    | zero =>
      intro i s h hi
      have : i = l.length := by omega
      subst this
      rw [List.drop_length]
      exact iter_out (hend s hi)
    | succ m ih =>
      intro i s h hi
      have hl : i < l.length := by omega
      obtain ⟨h1, h2⟩ := hgo i hl s hi
      rw [iter_go h1, ih (i + 1) _ (by omega) h2, List.drop_eq_getElem_cons hl, List.foldl_cons]
  simpa using key l.length 0 s0 (by omega) h0

instance : DecidableEq api_Step := fun a b => if h : a.Kind = b.Kind ∧ a.Unit = b.Unit then .isTrue (by obtain ⟨a1, a2⟩ := a; obtain ⟨b1, b2⟩ := b; simp_all) else .isFalse (fun e => h (by rw [e]; exact ⟨rfl, rfl⟩))
/-! Choices -/
def rowC (sf : api_Step → Bool) (n : Nat) (k : Int) : List api_Step := ((List.range n).filter fun (i : Nat) => sf ⟨k, (i : Int)⟩).map fun (i : Nat) => ⟨k, (i : Int)⟩
def choicesC (sf : api_Step → Bool) (n : Nat) : List api_Step := ((List.range 8).map fun (j : Nat) => rowC sf n ((j + 1 : Nat) : Int)).flatten
theorem rowC_len (sf : api_Step → Bool) (n : Nat) (k : Int) : (rowC sf n k).length ≤ n := by
  unfold rowC
  rw [List.length_map]
  exact Nat.le_trans (List.length_filter_le _ _) (by simp)
theorem mem_choicesC {sf : api_Step → Bool} {n : Nat} {x : api_Step} : x ∈ choicesC sf n ↔ 1 ≤ x.Kind ∧ x.Kind ≤ 8 ∧ 0 ≤ x.Unit ∧ x.Unit < n ∧ sf x = true := by
  obtain ⟨k, u⟩ := x
  simp only [choicesC, rowC, List.mem_flatten, List.mem_map, List.mem_range, List.mem_filter]
  constructor
  · rintro ⟨l, ⟨j, hj, rfl⟩, hx⟩
    simp only [List.mem_map, List.mem_filter, List.mem_range] at hx
    obtain ⟨i, ⟨hi, hs⟩, e⟩ := hx
    simp only [api_Step.mk.injEq] at e
    obtain ⟨rfl, rfl⟩ := e
    exact ⟨by omega, by omega, by omega, by omega, hs⟩
  · rintro ⟨h1, h2, h3, h4, h5⟩
    refine ⟨_, ⟨(k - 1).toNat, by omega, rfl⟩, ?_⟩
    have e1 : (((k - 1).toNat + 1 : Nat) : Int) = k := by omega
    have e2 : ((u.toNat : Nat) : Int) = u := by omega
    rw [e1]
    simp only [List.mem_map, List.mem_filter, List.mem_range]
    exact ⟨u.toNat, ⟨by omega, by rw [e2]; exact h5⟩, by rw [e2]⟩
theorem fold_filter {α β : Type} (p : α → Bool) (g : α → β) (l : List α) (a : List β) : l.foldl (fun (a : List β) x => if p x = true then a ++ [g x] else a) a = a ++ (l.filter p).map g := by
  induction l generalizing a with
  | nil => simp
  | cons q l ih => simp only [List.foldl_cons, ih, List.filter_cons]; split <;> simp
theorem fold_flat {α β : Type} (g : α → List β) (l : List α) (a : List β) : l.foldl (fun (a : List β) x => a ++ g x) a = a ++ (l.map g).flatten := by
  induction l generalizing a with
  | nil => simp
  | cons q l ih => simp only [List.foldl_cons, ih, List.map_cons, List.flatten_cons, List.append_assoc]
theorem choices_sp {f : api_Fleet} {s : api_Rotation} (h8 : s.Units.length ≤ 100) : steps_Choices f s = some (choicesC (safeP f s) s.Units.length) := by
  have h1 : ∀ (k : Int) (acc : List api_Step), acc.length ≤ 1000 → iter (steps_Choices_l1 s f (k, acc)) (0, acc) = some (acc ++ rowC (safeP f s) s.Units.length k) := fun k acc hacc => by
    have := iter_foldl2 (body := steps_Choices_l1 s f (k, acc)) (List.range s.Units.length) (fun i a => ((i : Int), a)) (fun (a : List api_Step) (i : Nat) => if safeP f s ⟨k, (i : Int)⟩ = true then a ++ [⟨k, (i : Int)⟩] else a) id (fun i a => a.length ≤ 1000 + i) (fun i hi a ha => ?_) (fun a ha => ?_) acc (by simpa using hacc)
    · rw [fold_filter (fun i : Nat => safeP f s ⟨k, (i : Int)⟩) (fun i : Nat => (⟨k, (i : Int)⟩ : api_Step))] at this
      exact this
    · have hi' : i < s.Units.length := by simpa using hi
      unfold steps_Choices_l1
      simp only [safe_sp, List.getElem_range, Option.bind_some]
      rw [if_pos (by simp; omega), w64 (by omega) (by omega)]
      by_cases hp : safeP f s ⟨k, (i : Int)⟩ = true
      · rw [if_pos hp, if_pos hp, ck_t (by simp; omega)]; exact ⟨rfl, by simp; omega⟩
      · rw [if_neg hp, if_neg hp]; exact ⟨rfl, by omega⟩
    · unfold steps_Choices_l1
      simp only [List.length_range]
      rw [if_neg (by simp)]; rfl
  unfold steps_Choices
  have := iter_foldl2 (body := steps_Choices_l0 s f) (List.range 8) (fun i a => (((i + 1 : Nat) : Int), a)) (fun (a : List api_Step) (j : Nat) => a ++ rowC (safeP f s) s.Units.length ((j + 1 : Nat) : Int)) id (fun i a => a.length ≤ 100 * i) (fun i hi a ha => ?_) (fun a ha => ?_) [] (by simp)
  · rw [fold_flat (fun j : Nat => rowC (safeP f s) s.Units.length ((j + 1 : Nat) : Int))] at this
    simp only [List.nil_append, id] at this
    rw [show ((1 : Int), ([] : List api_Step)) = (((0 + 1 : Nat) : Int), []) from rfl, this]; rfl
  · have hi' : i < 8 := by simpa using hi
    have := rowC_len (safeP f s) s.Units.length ((i + 1 : Nat) : Int)
    unfold steps_Choices_l0
    simp only [List.getElem_range]
    rw [if_pos (by simp; omega), h1 _ _ (by omega)]
    simp only [Option.bind_some]
    rw [w64 (by omega) (by omega)]
    exact ⟨rfl, by simp only [List.length_append]; omega⟩
  · unfold steps_Choices_l0
    simp only [List.length_range]
    rw [if_neg (by simp)]; rfl

/-! Runs -/
def runP (f : api_Fleet) : api_Rotation → List api_Step → List api_Rotation × Int
  | _, [] => ([], 0)
  | s, x :: l => if (applyP f s x).2 ≠ 0 then ([], (applyP f s x).2) else if (runP f (applyP f s x).1 l).2 ≠ 0 then ([], (runP f (applyP f s x).1 l).2) else ((applyP f s x).1 :: (runP f (applyP f s x).1 l).1, 0)
def runE (acc : List api_Rotation) (r : List api_Rotation × Int) : (List api_Rotation) ⊕ ((List api_Rotation) × Int) := if r.2 = 0 then .inl (acc ++ r.1) else .inr ([], r.2)
theorem runP_err {f : api_Fleet} : ∀ (l : List api_Step) (s : api_Rotation), (runP f s l).2 ≠ 0 → (runP f s l).1 = [] := fun l => by
  induction l with
  | nil => intro s h; rfl
  | cons x l ih =>
    intro s h
    unfold runP at h ⊢
    split
    · rfl
    · split
      · rfl
      · rename_i h1 h2; rw [if_neg h1, if_neg h2] at h; simp at h
theorem run_loop {f : api_Fleet} {l : List api_Step} (hl : l.length ≤ 1000) : ∀ (m i : Nat) (s : api_Rotation) (acc : List api_Rotation), i + m = l.length → acc.length = i →
    iter (steps_Run_l0 l f) ((i : Int), s.Known, s.Valid, s.Units, acc) = some (runE acc (runP f s (l.drop i))) := fun m => by
  induction m with
  | zero =>
    intro i s acc h ha
    have : i = l.length := by omega
    subst this
    rw [List.drop_length]
    refine iter_out ?_
    unfold steps_Run_l0
    simp only
    rw [if_neg (by simp)]
    simp [runE, runP]
  | succ m ih =>
    intro i s acc h ha
    have hi : i < l.length := by omega
    rw [List.drop_eq_getElem_cons hi]
    by_cases h0 : (applyP f s l[i]).2 = 0
    · have hgo : steps_Run_l0 l f ((i : Int), s.Known, s.Valid, s.Units, acc) = some (.go (((i + 1 : Nat) : Int), (applyP f s l[i]).1.Known, (applyP f s l[i]).1.Valid, (applyP f s l[i]).1.Units, acc ++ [(applyP f s l[i]).1])) := by
        unfold steps_Run_l0
        simp only
        rw [if_pos (by simp; omega), idx_lt hi]
        simp only [Option.bind_some, apply_sp]
        rw [if_neg (by simpa using h0), ck_t (by simp; omega), w64 (by omega) (by omega)]
        rfl
      rw [iter_go hgo, ih (i + 1) _ _ (by omega) (by simp; omega)]
      rw [runP, if_neg (not_not_intro h0)]
      by_cases h1 : (runP f (applyP f s l[i]).1 (l.drop (i + 1))).2 = 0
      · rw [if_neg (not_not_intro h1)]
        simp [runE, h1]
      · rw [if_pos h1]
        simp [runE, h1]
    · refine iter_out ?_
      unfold steps_Run_l0
      simp only
      rw [if_pos (by simp; omega), idx_lt hi]
      simp only [Option.bind_some, apply_sp]
      rw [if_pos (by simpa using h0), runP, if_pos h0]
      simp [runE, h0]
theorem run_sp {f : api_Fleet} {s : api_Rotation} {l : List api_Step} (hr : RightOk f s) (hl : l.length ≤ 120) : steps_Run f s l = some (runP f s l) := by
  unfold steps_Run steps_check
  rw [right_sp, decide_eq_true hr]
  simp only [Option.bind_some]
  rw [if_neg (by simp), if_neg (by simp; omega)]
  simp only [Option.bind_some]
  rw [if_neg (by simp)]
  have := run_loop (f := f) (l := l) (by omega) l.length 0 s [] (by omega) rfl
  rw [List.drop_zero] at this
  rw [show (0 : Int) = ((0 : Nat) : Int) from rfl, this]
  simp only [Option.bind_some, runE]
  by_cases h : (runP f s l).2 = 0
  · rw [if_pos h]
    simp only [List.nil_append]
    rw [show ((0 : Nat) : Int) = (runP f s l).2 from h.symm]
  · rw [if_neg h]
    simp only
    rw [← runP_err l s h]
theorem runP_eq {f : api_Fleet} {s : api_Rotation} {x : api_Step} {l : List api_Step} : runP f s (x :: l) = if (applyP f s x).2 ≠ 0 then ([], (applyP f s x).2) else if (runP f (applyP f s x).1 l).2 ≠ 0 then ([], (runP f (applyP f s x).1 l).2) else ((applyP f s x).1 :: (runP f (applyP f s x).1 l).1, 0) := rfl
theorem runP_cons {f : api_Fleet} {s : api_Rotation} {x : api_Step} {l : List api_Step} (h : (runP f s (x :: l)).2 = 0) : (applyP f s x).2 = 0 ∧ (runP f (applyP f s x).1 l).2 = 0 ∧ runP f s (x :: l) = ((applyP f s x).1 :: (runP f (applyP f s x).1 l).1, 0) := by
  rw [runP_eq] at h ⊢
  split at h
  · rename_i h1; exact absurd h h1
  · rename_i h1
    split at h
    · rename_i h2; exact absurd h h2
    · rename_i h2
      rw [if_neg h1, if_neg h2]
      exact ⟨by simpa using h1, by simpa using h2, rfl⟩
theorem runP_right {f : api_Fleet} : ∀ (l : List api_Step) (s : api_Rotation), RightOk f s → (runP f s l).2 = 0 → (runP f s l).1.length = l.length ∧ ∀ r ∈ (runP f s l).1, RightOk f r := fun l => by
  induction l with
  | nil => intro s _ _; exact ⟨rfl, fun r h => by cases h⟩
  | cons x l ih =>
    intro s hr h
    obtain ⟨h1, h2, h3⟩ := runP_cons h
    obtain ⟨r1, _⟩ := apply_right hr h1
    obtain ⟨i1, i2⟩ := ih _ r1 h2
    rw [h3]
    refine ⟨by simp [i1], fun r hm => ?_⟩
    rcases List.mem_cons.1 hm with rfl | hm
    · exact r1
    · exact i2 r hm
theorem runP_37 {f : api_Fleet} : ∀ (l : List api_Step) (s : api_Rotation), RightOk f s → (∀ x ∈ l, kindOk f x) → (runP f s l).2 ≠ 0 → (runP f s l).2 = 37 := fun l => by
  induction l with
  | nil => intro s _ _ h; exact absurd rfl h
  | cons x l ih =>
    intro s hr hk h
    unfold runP at h ⊢
    by_cases h1 : (applyP f s x).2 = 0
    · rw [if_neg (not_not_intro h1)] at h ⊢
      by_cases h2 : (runP f (applyP f s x).1 l).2 = 0
      · rw [if_neg (not_not_intro h2)] at h; simp at h
      · rw [if_pos h2]
        exact ih _ (apply_right hr h1).1 (fun y hy => hk y (List.mem_cons_of_mem _ hy)) h2
    · rw [if_pos h1]
      exact apply_err hr (hk x (List.mem_cons_self ..)) h1
theorem runP_split {f : api_Fleet} : ∀ (k : Nat) (l : List api_Step) (s : api_Rotation), RightOk f s → k ≤ l.length → (runP f s l).2 = 0 →
    (runP f s (l.take k)).2 = 0 ∧ (runP f s (l.take k)).1.length = k ∧ ∃ s', (0 < k → (runP f s (l.take k)).1[k - 1]? = some s') ∧ (k = 0 → s' = s) ∧ RightOk f s' ∧ (runP f s' (l.drop k)).2 = 0 ∧
      (runP f s (l.take k)).1 ++ (runP f s' (l.drop k)).1 = (runP f s l).1 := fun k => by
  induction k with
  | zero =>
    intro l s hr _ h
    exact ⟨rfl, rfl, s, fun h => absurd h (Nat.lt_irrefl _), fun _ => rfl, hr, h, rfl⟩
  | succ k ih =>
    intro l s hr hk h
    cases l with
    | nil => simp at hk
    | cons x l =>
      obtain ⟨h1, h2, h3⟩ := runP_cons h
      obtain ⟨r1, _⟩ := apply_right hr h1
      obtain ⟨i1, i2, s', i3, i4, i5, i6, i7⟩ := ih l _ r1 (by simpa using hk) h2
      have e : runP f s ((x :: l).take (k + 1)) = ((applyP f s x).1 :: (runP f (applyP f s x).1 (l.take k)).1, 0) := by
        rw [List.take_succ_cons, runP, if_neg (not_not_intro h1), if_neg (not_not_intro i1)]
      rw [e, h3]
      refine ⟨rfl, by simp [i2], s', fun _ => ?_, fun h => by omega, i5, i6, by simp [i7]⟩
      cases k with
      | zero => simp [i4 rfl]
      | succ k => simpa using i3 (by omega)

/-! Lists of states and of steps -/
abbrev SM : Type := Int × (List Int) × Int × Int × Int × (List api_Unit) × (List api_Step)
/-! The law of choices -/
theorem safe_possible {f : api_Fleet} {s : api_Rotation} {x : api_Step} (h : safeP f s x = true) : (applyP f s x).2 = 0 := by
  unfold safeP at h
  simp only [Bool.and_eq_true, beq_iff_eq] at h
  exact h.1
theorem choicesC_len {sf : api_Step → Bool} {n : Nat} (h : n ≤ 8) : (choicesC sf n).length ≤ 64 := by
  unfold choicesC
  rw [List.length_flatten, List.map_map]
  have : ∀ l : List Nat, (l.map (List.length ∘ fun (j : Nat) => rowC sf n ((j + 1 : Nat) : Int))).sum ≤ 8 * l.length := fun l => by
    induction l with
    | nil => simp
    | cons j l ih =>
      have := rowC_len sf n ((j + 1 : Nat) : Int)
      simp only [List.map_cons, List.sum_cons, List.length_cons, Function.comp]
      omega
  exact Nat.le_trans (this _) (by simp)

theorem iter_find {α ε : Type} {body : Int → Option (Lp Int ε)} (l : List α) (p : α → Bool) (A B : ε)
    (hgo : ∀ (i : Nat) (h : i < l.length), body (i : Int) = some (if p l[i] = true then .out A else .go (((i + 1 : Nat) : Int))))
    (hend : body (l.length : Int) = some (.out B)) : iter body 0 = some (if l.any p = true then A else B) := by
  have key : ∀ (m i : Nat), i + m = l.length → iter body (i : Int) = some (if (l.drop i).any p = true then A else B) := fun m => by
    induction m with
    | zero =>
      intro i h
      have : i = l.length := by omega
      subst this
      rw [List.drop_length]
      exact iter_out hend
    | succ m ih =>
      intro i h
      have hi : i < l.length := by omega
      rw [List.drop_eq_getElem_cons hi, List.any_cons]
      cases hp : p l[i] with
      | true =>
        have := hgo i hi
        rw [hp] at this
        exact iter_out this
      | false =>
        have := hgo i hi
        rw [hp] at this
        rw [iter_go this, ih (i + 1) (by omega)]; rfl
  simpa using key l.length 0 (by omega)
theorem sorted_ext : ∀ (a b : List Int), a.Pairwise (· < ·) → b.Pairwise (· < ·) → (∀ x, x ∈ a ↔ x ∈ b) → a = b := fun a => by
  induction a with
  | nil =>
    intro b _ _ h
    cases b with
    | nil => rfl
    | cons y b => have := (h y).2 (List.mem_cons_self ..); cases this
  | cons x a ih =>
    intro b ha hb h
    cases b with
    | nil => have := (h x).1 (List.mem_cons_self ..); cases this
    | cons y b =>
      rw [List.pairwise_cons] at ha hb
      have e : x = y := by
        rcases List.mem_cons.1 ((h x).1 (List.mem_cons_self ..)) with e | h1
        · exact e
        · rcases List.mem_cons.1 ((h y).2 (List.mem_cons_self ..)) with e | h2
          · exact e.symm
          · have := hb.1 x h1; have := ha.1 y h2; omega
      subst e
      rw [ih b ha.2 hb.2 fun z => ?_]
      constructor
      · intro hz
        rcases List.mem_cons.1 ((h z).1 (List.mem_cons_of_mem _ hz)) with e | h1
        · subst e; exact absurd (ha.1 z hz) (by omega)
        · exact h1
      · intro hz
        rcases List.mem_cons.1 ((h z).2 (List.mem_cons_of_mem _ hz)) with e | h1
        · subst e; exact absurd (hb.1 z hz) (by omega)
        · exact h1
theorem range_sorted (n : Nat) (p : Nat → Bool) : (((List.range n).filter p).map fun (j : Nat) => (j : Int)).Pairwise (· < ·) := by
  rw [List.pairwise_map]
  exact (List.Pairwise.filter _ List.pairwise_lt_range).imp fun h => by omega

/-! Units and pools -/
def unitsP (f : api_Fleet) (p : Int) : List Int := if FleetOk f then ((List.range f.Consumers.length).filter fun i => (f.Consumers.getD i default).Pool == p).map fun (i : Nat) => (i : Int) else []
theorem unitsP_len (f : api_Fleet) (p : Int) : (unitsP f p).length ≤ 8 := by
  unfold unitsP
  split
  · rename_i h
    rw [List.length_map]
    refine Nat.le_trans (List.length_filter_le _ _) ?_
    have := h.2.2.1
    simpa using this
  · simp
theorem mem_unitsP {f : api_Fleet} {p x : Int} : x ∈ unitsP f p ↔ FleetOk f ∧ ∃ i : Nat, x = (i : Int) ∧ ∃ h : i < f.Consumers.length, f.Consumers[i].Pool = p := by
  unfold unitsP
  split
  · rename_i hf
    simp only [List.mem_map, List.mem_filter, List.mem_range, beq_iff_eq]
    constructor
    · rintro ⟨i, ⟨h1, h2⟩, rfl⟩
      exact ⟨hf, i, rfl, h1, by simpa [List.getD, h1] using h2⟩
    · rintro ⟨_, i, rfl, h1, h2⟩
      exact ⟨i, ⟨h1, by simpa [List.getD, h1] using h2⟩, rfl⟩
  · rename_i hf
    refine Iff.intro (fun h => ?_) (fun h => absurd h.1 hf)
    cases h
def poolsP (f : api_Fleet) : List Int := ((List.range 8).filter fun (j : Nat) => decide (0 < ((unitsP f (j : Int)).length : Int))).map fun (j : Nat) => (j : Int)
theorem poolsP_len (f : api_Fleet) : (poolsP f).length ≤ 8 := by
  unfold poolsP
  rw [List.length_map]
  exact Nat.le_trans (List.length_filter_le _ _) (by simp)
theorem mem_poolsP {f : api_Fleet} {p : Int} : p ∈ poolsP f ↔ FleetOk f ∧ ∃ i, ∃ h : i < f.Consumers.length, f.Consumers[i].Pool = p := by
  unfold poolsP
  simp only [List.mem_map, List.mem_filter, List.mem_range, decide_eq_true_eq]
  constructor
  · rintro ⟨j, ⟨h1, h2⟩, rfl⟩
    obtain ⟨x, hx⟩ : ∃ x, x ∈ unitsP f (j : Int) := by
      cases h : unitsP f (j : Int) with
      | nil => rw [h] at h2; simp at h2
      | cons x l => exact ⟨x, List.mem_cons_self ..⟩
    obtain ⟨hf, i, _, hi⟩ := mem_unitsP.1 hx
    exact ⟨hf, i, hi⟩
  · rintro ⟨hf, i, hi, e⟩
    have hp := hf.2.2.2 i hi
    unfold poolP at hp
    simp only [Bool.and_eq_true, decide_eq_true_eq] at hp
    refine ⟨p.toNat, ⟨by omega, ?_⟩, by omega⟩
    have : (i : Int) ∈ unitsP f ((p.toNat : Nat) : Int) := mem_unitsP.2 ⟨hf, i, rfl, hi, by omega⟩
    have := List.length_pos_of_mem this
    omega
/-! Who is served -/
def servesI (f : api_Fleet) (s : api_Rotation) (i : Int) : Bool := decide (RightOk f s) && (decide (0 ≤ i) && (decide (i < s.Units.length) && ((s.Units.getD i.toNat default).Up && servesU s (s.Units.getD i.toNat default))))
def rservedP (f : api_Fleet) (s : api_Rotation) : List Int := (poolsP f).filter fun p => (unitsP f p).any (servesI f s)
theorem and_0 (v : Int) : bAnd .i64 0 v = 0 := by
  simp [bAnd]; decide
theorem rserved_eq (f : api_Fleet) (s : api_Rotation) : rservedP f s = servedP f s := by
  by_cases hr : RightOk f s
  case neg =>
    unfold servedP rservedP
    rw [if_neg hr, List.filter_eq_nil_iff]
    intro p _
    simp [servesI, hr]
  obtain ⟨h1, h2⟩ := servedP_ok hr
  have hl := hr.2.2.2.1
  refine sorted_ext _ _ ?_ h1 fun p => ?_
  · unfold rservedP poolsP
    exact List.Pairwise.filter _ (range_sorted _ _)
  · rw [h2]
    unfold rservedP servedRaw
    simp only [List.mem_filter, List.mem_map, List.any_eq_true]
    constructor
    · rintro ⟨_, x, hx, hs⟩
      obtain ⟨_, i, rfl, hi, e⟩ := mem_unitsP.1 hx
      have hi2 : i < s.Units.length := by omega
      unfold servesI at hs
      have e2 : s.Units.getD (Int.toNat (i : Int)) default = s.Units[i] := by simp [List.getD, hi2]
      simp only [e2, Bool.and_eq_true] at hs
      refine ⟨(f.Consumers[i], s.Units[i]), ⟨?_, hs.2.2.2.2⟩, e⟩
      have hz : i < (f.Consumers.zip s.Units).length := by simp; omega
      have := List.getElem_mem hz
      rw [List.getElem_zip] at this
      exact this
    · rintro ⟨⟨c, u⟩, ⟨hm, hs⟩, rfl⟩
      obtain ⟨i, hi, e⟩ := List.getElem_of_mem hm
      have hi1 : i < f.Consumers.length := by simp at hi; omega
      have hi2 : i < s.Units.length := by omega
      rw [List.getElem_zip, Prod.mk.injEq] at e
      obtain ⟨rfl, rfl⟩ := e
      refine ⟨mem_poolsP.2 ⟨hr.1, i, hi1, rfl⟩, (i : Int), mem_unitsP.2 ⟨hr.1, i, rfl, hi1, rfl⟩, ?_⟩
      unfold servesI
      have e2 : s.Units.getD (Int.toNat (i : Int)) default = s.Units[i] := by simp [List.getD, hi2]
      have hup : s.Units[i].Up = true := by
        rcases (unitP_iff.1 (hr.unit hi2 hi1)).2 with h | h
        · exact h.1
        · simp only [servesU, h.2, and_0] at hs; simp at hs
      simp only [e2, hr, hup, hs]
      simp; omega
theorem any_not {l b : List Int} : (l.any fun x => !decide (x ∈ b)) = decide (¬ ∀ p ∈ l, p ∈ b) := by
  rw [Bool.eq_iff_iff, List.any_eq_true]
  simp
theorem funits_sp (f : api_Fleet) (p : Int) : fleet_Units f p = some (unitsP f p) := by
  unfold fleet_Units unitsP
  rw [check_sp]
  by_cases hf : FleetOk f
  case neg => simp [hf]
  simp only [hf, if_true, Option.bind_some]
  rw [if_neg (by simp)]
  have h8 := hf.2.2.1
  have := iter_foldl2 (body := fleet_Units_l0 f p) (List.range f.Consumers.length) (fun i a => ((i : Int), a)) (fun (a : List Int) (i : Nat) => if ((f.Consumers.getD i default).Pool == p) = true then a ++ [(i : Int)] else a) id (fun i a => a.length ≤ i) (fun i hi a ha => ?_) (fun a ha => ?_) [] (by simp)
  · rw [fold_filter (fun i : Nat => (f.Consumers.getD i default).Pool == p) (fun i : Nat => (i : Int))] at this
    rw [show ((0 : Int), ([] : List Int)) = (((0 : Nat) : Int), []) from rfl, this]; simp
  · have hi' : i < f.Consumers.length := by simpa using hi
    have e1 : f.Consumers.getD i default = f.Consumers[i] := by simp [List.getD, hi']
    unfold fleet_Units_l0
    simp only [List.getElem_range]
    rw [if_pos (by simp; omega), idx_lt hi', w64 (by omega) (by omega), e1]
    simp only [Option.bind_some]
    by_cases hp : (f.Consumers[i].Pool == p) = true
    · rw [if_pos hp, if_pos hp, ck_t (by simp; omega)]; exact ⟨rfl, by simp; omega⟩
    · rw [if_neg hp, if_neg hp]; exact ⟨rfl, by omega⟩
  · unfold fleet_Units_l0
    simp only [List.length_range]
    rw [if_neg (by simp)]; rfl

/-! Lists of safe steps -/
def endS (f : api_Fleet) (s : api_Rotation) (l : List api_Step) : api_Rotation := l.foldl (fun s x => (applyP f s x).1) s
def safeRun (f : api_Fleet) : api_Rotation → List api_Step → Prop
  | _, [] => True
  | s, x :: l => safeP f s x = true ∧ safeRun f (applyP f s x).1 l
theorem safeRun_snoc {f : api_Fleet} {x : api_Step} : ∀ (l : List api_Step) (s : api_Rotation), safeRun f s l → safeP f (endS f s l) x = true → safeRun f s (l ++ [x]) ∧ endS f s (l ++ [x]) = (applyP f (endS f s l) x).1 := fun l => by
  induction l with
  | nil => intro s _ h; exact ⟨⟨h, trivial⟩, rfl⟩
  | cons y l ih =>
    intro s h hx
    obtain ⟨h1, h2⟩ := ih _ h.2 hx
    exact ⟨⟨h.1, h1⟩, h2⟩
theorem safeRun_run {f : api_Fleet} : ∀ (l : List api_Step) (s : api_Rotation), RightOk f s → safeRun f s l → (runP f s l).2 = 0 ∧ RightOk f (endS f s l) ∧ ∀ r ∈ (runP f s l).1, holdsP f s r := fun l => by
  induction l with
  | nil => intro s hr _; exact ⟨rfl, hr, fun r h => by cases h⟩
  | cons x l ih =>
    intro s hr h
    have h0 := safe_possible h.1
    obtain ⟨r1, _⟩ := apply_right hr h0
    obtain ⟨i1, i2, i3⟩ := ih _ r1 h.2
    have hh : holdsP f s (applyP f s x).1 := by
      have := h.1
      unfold safeP at this
      simp only [Bool.and_eq_true, decide_eq_true_eq] at this
      exact this.2
    have e : runP f s (x :: l) = ((applyP f s x).1 :: (runP f (applyP f s x).1 l).1, 0) := by rw [runP_eq, if_neg (not_not_intro h0), if_neg (not_not_intro i1)]
    rw [e]
    refine ⟨rfl, i2, fun r hm => ?_⟩
    rcases List.mem_cons.1 hm with rfl | hm
    · exact hh
    · exact fun p hp => i3 r hm p (hh p hp)
/-! Faults -/
def faultP (f : api_Fleet) : Int → api_Rotation → List api_Step → Int × Int
  | i, _, [] => (i, 0)
  | i, s, x :: l => if (applyP f s x).2 ≠ 0 then (i, (applyP f s x).2) else if ¬ holdsP f s (applyP f s x).1 then (i, 38) else faultP f (i + 1) (applyP f s x).1 l
theorem faultP_eq {f : api_Fleet} {i : Int} {s : api_Rotation} {x : api_Step} {l : List api_Step} : faultP f i s (x :: l) = if (applyP f s x).2 ≠ 0 then (i, (applyP f s x).2) else if ¬ holdsP f s (applyP f s x).1 then (i, 38) else faultP f (i + 1) (applyP f s x).1 l := rfl
def faultE (n : Int) (r : Int × Int) : Unit ⊕ (Int × Int) := if r.2 = 0 then .inl () else .inr r
theorem faultP_0 {f : api_Fleet} : ∀ (l : List api_Step) (i : Int) (s : api_Rotation), (faultP f i s l).2 = 0 → faultP f i s l = (i + l.length, 0) := fun l => by
  induction l with
  | nil => intro i s _; simp [faultP]
  | cons x l ih =>
    intro i s h
    rw [faultP_eq] at h ⊢
    by_cases h0 : (applyP f s x).2 = 0
    · rw [if_neg (not_not_intro h0)] at h ⊢
      by_cases h1 : holdsP f s (applyP f s x).1
      · rw [if_neg (not_not_intro h1)] at h ⊢
        rw [ih _ _ h]
        simp only [List.length_cons, Prod.mk.injEq, and_true]
        omega
      · rw [if_pos h1] at h; simp at h
    · rw [if_pos h0] at h; exact absurd h h0
theorem fault_loop {f : api_Fleet} {l : List api_Step} (hl : l.length ≤ 1000) : ∀ (m i : Nat) (s : api_Rotation), i + m = l.length →
    iter (steps_Fault_l0 l f) ((i : Int), s.Known, s.Valid, s.Units) = some (faultE l.length (faultP f i s (l.drop i))) := fun m => by
  induction m with
  | zero =>
    intro i s h
    have : i = l.length := by omega
    subst this
    rw [List.drop_length]
    refine iter_out ?_
    unfold steps_Fault_l0
    simp only
    rw [if_neg (by simp)]
    simp [faultE, faultP]
  | succ m ih =>
    intro i s h
    have hi : i < l.length := by omega
    rw [List.drop_eq_getElem_cons hi, faultP_eq]
    by_cases h0 : (applyP f s l[i]).2 = 0
    · rw [if_neg (not_not_intro h0)]
      by_cases h1 : holdsP f s (applyP f s l[i]).1
      · rw [if_neg (not_not_intro h1)]
        have hgo : steps_Fault_l0 l f ((i : Int), s.Known, s.Valid, s.Units) = some (.go (((i + 1 : Nat) : Int), (applyP f s l[i]).1.Known, (applyP f s l[i]).1.Valid, (applyP f s l[i]).1.Units)) := by
          unfold steps_Fault_l0
          simp only
          rw [if_pos (by simp; omega), idx_lt hi]
          simp only [Option.bind_some, apply_sp, holds_sp]
          rw [if_neg (by simpa using h0), if_neg (by simpa using h1), w64 (by omega) (by omega)]
          rfl
        rw [iter_go hgo, ih (i + 1) _ (by omega)]
        rfl
      · rw [if_pos h1]
        refine iter_out ?_
        unfold steps_Fault_l0
        simp only
        rw [if_pos (by simp; omega), idx_lt hi]
        simp only [Option.bind_some, apply_sp, holds_sp]
        rw [if_neg (by simpa using h0), if_pos (by simpa using h1)]
        simp [faultE]
    · rw [if_pos h0]
      refine iter_out ?_
      unfold steps_Fault_l0
      simp only
      rw [if_pos (by simp; omega), idx_lt hi]
      simp only [Option.bind_some, apply_sp]
      rw [if_pos (by simpa using h0)]
      simp [faultE, h0]
theorem fault_sp {f : api_Fleet} {s : api_Rotation} {l : List api_Step} (hr : RightOk f s) (hl : l.length ≤ 120) : steps_Fault f s l = some (faultP f 0 s l) := by
  unfold steps_Fault steps_check
  rw [right_sp, decide_eq_true hr]
  simp only [Option.bind_some]
  rw [if_neg (by simp), if_neg (by simp; omega)]
  simp only [Option.bind_some]
  rw [if_neg (by simp)]
  have := fault_loop (f := f) (l := l) (by omega) l.length 0 s (by omega)
  rw [List.drop_zero] at this
  rw [show (0 : Int) = ((0 : Nat) : Int) from rfl, this]
  simp only [Option.bind_some, faultE]
  by_cases h : (faultP f ((0 : Nat) : Int) s l).2 = 0
  · rw [if_pos h]
    have := faultP_0 l _ s h
    rw [this]; simp
  · rw [if_neg h]
theorem safeRun_fault {f : api_Fleet} : ∀ (l : List api_Step) (i : Int) (s : api_Rotation), safeRun f s l → (faultP f i s l).2 = 0 := fun l => by
  induction l with
  | nil => intro i s _; rfl
  | cons x l ih =>
    intro i s h
    have h1 := h.1
    unfold safeP at h1
    simp only [Bool.and_eq_true, decide_eq_true_eq, beq_iff_eq] at h1
    rw [faultP_eq, if_neg (not_not_intro h1.1), if_neg (not_not_intro h1.2)]
    exact ih _ _ h.2

/-! The law -/

theorem fault_any (f : api_Fleet) (s : api_Rotation) {l : List api_Step} (hl : l.length ≤ 120) : ∃ r, steps_Fault f s l = some r := by
  by_cases hr : RightOk f s
  · exact ⟨_, fault_sp hr hl⟩
  · refine ⟨(0, 36), ?_⟩
    unfold steps_Fault steps_check
    rw [right_sp]; simp [hr]
theorem safe_not {f : api_Fleet} {s : api_Rotation} (h : ¬ RightOk f s) (x : api_Step) : safeP f s x = false := by
  unfold safeP applyP
  rw [if_pos h]; simp
theorem choicesC_nil {sf : api_Step → Bool} {n : Nat} (h : ∀ x, sf x = false) : choicesC sf n = [] := by
  cases hc : choicesC sf n with
  | nil => rfl
  | cons x l =>
    have := (mem_choicesC (sf := sf) (n := n) (x := x)).1 (by rw [hc]; exact List.mem_cons_self ..)
    rw [h x] at this; simp at this
theorem choices_same (f : api_Fleet) (s : api_Rotation) : choicesC (safeP f s) f.Consumers.length = choicesC (safeP f s) s.Units.length := by
  by_cases hr : RightOk f s
  · rw [hr.2.2.2.1]
  · rw [choicesC_nil (safe_not hr), choicesC_nil (safe_not hr)]
theorem choices_len (f : api_Fleet) (s : api_Rotation) : (choicesC (safeP f s) s.Units.length).length ≤ 64 := by
  by_cases hr : RightOk f s
  · exact choicesC_len hr.len.2
  · rw [choicesC_nil (safe_not hr)]; simp
theorem apply_len (f : api_Fleet) (s : api_Rotation) (x : api_Step) : (applyP f s x).1.Units.length ≤ 1000000 := by
  by_cases h0 : (applyP f s x).2 = 0
  · have hr : RightOk f s := by
      apply Decidable.byContradiction
      intro hr
      unfold applyP at h0
      rw [if_pos hr] at h0; simp at h0
    have := (apply_right hr h0).1.len
    omega
  · unfold applyP at h0 ⊢
    split
    · simp [zeroR]
    · rename_i h1; rw [if_neg h1] at h0
      split
      · simp [zeroR]
      · rename_i h2; rw [if_neg h2] at h0
        split
        · simp [zeroR]
        · rename_i h3; rw [if_neg h3] at h0; simp at h0

def unit1 : api_Unit := ⟨true, 1, 1⟩
set_option maxRecDepth 20000 in
theorem repeat_sp {k : Nat} (h1 : 1 ≤ k) (h8 : k ≤ 8) : slices_Repeat_api_Unit [unit1] (k : Int) = some (List.replicate k unit1) := by
  have h : k = 1 ∨ k = 2 ∨ k = 3 ∨ k = 4 ∨ k = 5 ∨ k = 6 ∨ k = 7 ∨ k = 8 := by omega
  rcases h with rfl | rfl | rfl | rfl | rfl | rfl | rfl | rfl
  all_goals
    unfold slices_Repeat_api_Unit
    rw [if_neg (by decide)]
    rw [show math_bits_Mul (IntKind.u64.wrap (([unit1] : List api_Unit).length : Int)) (IntKind.u64.wrap ((_ : Nat) : Int)) = some (0, _) from rfl]
    simp only [Option.bind_some]
    rw [if_neg (by decide), ck_t (by decide)]
    simp only [Option.bind_some]
    repeat (first | rw [iter_out (by rfl)] | rw [iter_go (by rfl)])
    rfl
def startR (f : api_Fleet) : api_Rotation := ⟨1, 1, List.replicate f.Consumers.length ⟨true, 1, 1⟩⟩
theorem fstart_sp (f : api_Fleet) : fleet_Start f = some (if FleetOk f then (startR f, 0) else (zeroR, 36)) := by
  unfold fleet_Start
  rw [check_sp]
  by_cases hf : FleetOk f
  · simp only [hf, if_true, Option.bind_some]
    rw [if_neg (by simp), show ([(⟨true, 1, 1⟩ : api_Unit)] : List api_Unit) = [unit1] from rfl, repeat_sp hf.2.1 hf.2.2.1]; rfl
  · simp only [hf, if_false, Option.bind_some]
    rw [if_pos (by simp)]; rfl
/-- the units that serve in a right state are up -/
theorem RightOk.up {f : api_Fleet} {s : api_Rotation} (h : RightOk f s) {i : Nat} (hi : i < s.Units.length) (hs : servesU s s.Units[i] = true) : s.Units[i].Up = true := by
  rcases (unitP_iff.1 (h.unit hi (by rw [← h.2.2.2.1]; exact hi))).2 with h | h
  · exact h.1
  · simp only [servesU, h.2, and_0] at hs; simp at hs
/-! Ended -/
def endedU (u : api_Unit) : Bool := u.Up && (u.Stored == 2 && u.Used == 2)
def endedP (f : api_Fleet) (s : api_Rotation) : Bool := decide (RightOk f s) && (s.Valid == 2 && s.Units.all endedU)
theorem cb_sp (u : api_Unit) : fleet_Ended_1_cb u ⟨true, 2, 2⟩ = some (!endedU u, ⟨true, 2, 2⟩) := by
  unfold fleet_Ended_1_cb endedU
  cases u.Up <;> simp
theorem fended_sp (f : api_Fleet) (s : api_Rotation) : fleet_Ended f s = some (endedP f s) := by
  unfold fleet_Ended endedP
  rw [right_sp]
  by_cases hr : RightOk f s
  case neg => simp [hr]
  simp only [hr, decide_true, Option.bind_some, Bool.true_and]
  by_cases hv : s.Valid = 2
  case neg => simp [hv]
  obtain ⟨l0, l8⟩ := hr.len
  rw [if_pos trivial, if_pos (by simp [hv])]
  have hc : ∃ i : Int, slices_ContainsFunc_api_Unit_at_fleet_Ended_1_b s.Units ⟨true, 2, 2⟩ = some (!s.Units.all endedU, ⟨true, 2, 2⟩) := ⟨0, by
    unfold slices_ContainsFunc_api_Unit_at_fleet_Ended_1_b slices_IndexFunc_api_Unit_at_fleet_Ended_1_b
    have key : ∀ (m i : Nat), i + m = s.Units.length → ∃ e, iter (slices_IndexFunc_api_Unit_at_fleet_Ended_1_b_l0 s.Units) ((i : Int), true, 2, 2) = some e ∧ ((e = .inl (true, 2, 2) ∧ (s.Units.drop i).all endedU = true) ∨ (∃ j : Nat, e = .inr ((j : Int), ⟨true, 2, 2⟩) ∧ (s.Units.drop i).all endedU = false)) := fun m => by
      induction m with
      | zero =>
        intro i h
        have : i = s.Units.length := by omega
        subst this
        refine ⟨_, iter_out (e := .inl (true, 2, 2)) ?_, .inl ⟨rfl, by simp⟩⟩
        unfold slices_IndexFunc_api_Unit_at_fleet_Ended_1_b_l0
        simp only
        rw [if_neg (by simp)]
      | succ m ih =>
        intro i h
        have hi : i < s.Units.length := by omega
        have hstep : slices_IndexFunc_api_Unit_at_fleet_Ended_1_b_l0 s.Units ((i : Int), true, 2, 2) = some (if endedU s.Units[i] = true then .go (((i + 1 : Nat) : Int), true, 2, 2) else .out (.inr ((i : Int), ⟨true, 2, 2⟩))) := by
          unfold slices_IndexFunc_api_Unit_at_fleet_Ended_1_b_l0
          simp only
          rw [if_pos (by simp; omega), idx_lt hi, w64 (by omega) (by omega)]
          simp only [Option.bind_some, cb_sp]
          cases endedU s.Units[i] <;> simp
        rw [List.drop_eq_getElem_cons hi, List.all_cons]
        cases hu : endedU s.Units[i] with
        | true =>
          rw [hu, if_pos rfl] at hstep
          rw [iter_go hstep, Bool.true_and]
          exact ih (i + 1) (by omega)
        | false =>
          rw [hu, if_neg (by simp)] at hstep
          exact ⟨_, iter_out hstep, .inr ⟨i, rfl, rfl⟩⟩
    obtain ⟨e, h1, h2⟩ := key s.Units.length 0 (by omega)
    simp only at h1 ⊢
    rw [show (0 : Int) = ((0 : Nat) : Int) from rfl, h1]
    simp only [List.drop_zero] at h2
    rcases h2 with ⟨rfl, h2⟩ | ⟨j, rfl, h2⟩
    · simp [h2]
    · simp [h2]⟩
  obtain ⟨_, hc⟩ := hc
  rw [hc]
  simp [hv]
/-! Units and pools in the program's answer -/
theorem fpools_sp (f : api_Fleet) : fleet_Pools f = some (poolsP f) := by
  unfold fleet_Pools
  rw [check_sp]
  by_cases hf : FleetOk f
  case neg =>
    simp only [hf, if_false, Option.bind_some]
    rw [if_pos (by simp)]
    congr 1
    refine (List.eq_nil_iff_forall_not_mem.2 fun p hp => hf (mem_poolsP.1 hp).1).symm
  simp only [hf, if_true, Option.bind_some]
  rw [if_neg (by simp)]
  have h8 := hf.2.2.1
  have hloop : iter (fleet_Pools_l0 f) (0, []) = some (f.Consumers.map fun c => c.Pool) := by
    rw [iter_foldl f.Consumers (fun (a : List Int) c => a ++ [c.Pool]) id (fun i a => a.length = i) (fun i hi a ha => ?_) (fun a ha => ?_) [] rfl]
    · congr 1
      have : ∀ (l : List api_Consumer) (a : List Int), l.foldl (fun (a : List Int) c => a ++ [c.Pool]) a = a ++ l.map fun c => c.Pool := fun l => by
        induction l with
        | nil => intro a; simp
        | cons c l ih => intro a; simp only [List.foldl_cons, ih]; simp
      simp [this]
    · unfold fleet_Pools_l0
      rw [if_pos (by simp; omega), idx_lt hi, Option.bind_some, ck_t (by simp; omega), Option.bind_some, w64 (by omega) (by omega)]
      exact ⟨rfl, by simp [ha]⟩
    · unfold fleet_Pools_l0
      rw [if_neg (by simp)]; rfl
  rw [hloop]
  simp only [Option.bind_some]
  unfold slices_Sort_int_vec0 slices_Compact_int_eat0_own0
  rw [ck_t (by simp; omega)]
  simp only [Option.bind_some]
  rw [ck_t (by simp; omega)]
  simp only [Option.bind_some]
  congr 1
  obtain ⟨h1, h2⟩ := compact_ok (sorted_merge (f.Consumers.map fun c => c.Pool))
  refine sorted_ext _ _ h1 ?_ fun p => ?_
  · unfold poolsP; exact range_sorted _ _
  · rw [h2, mem_merge, mem_poolsP, List.mem_map]
    constructor
    · rintro ⟨c, hc, rfl⟩
      obtain ⟨i, hi, rfl⟩ := List.getElem_of_mem hc
      exact ⟨hf, i, hi, rfl⟩
    · rintro ⟨_, i, hi, rfl⟩
      exact ⟨_, List.getElem_mem hi, rfl⟩
/-! awake -/

def uE : api_Unit := ⟨true, 2, 2⟩
/-- what a step does to a unit, if it can be done -/
def uS (c : api_Consumer) (u : api_Unit) (k : Int) : api_Unit := if (unitStep c u k true).1 = true then (unitStep c u k true).2 else u
/-- what is left to do -/
def phi (u : api_Unit) : Nat := (if u.Stored = 1 then 2 else if u.Stored = 3 then 1 else 0) + (if u.Up = true then (if u.Used = 2 then 0 else 2) else 1)
def kapV (v : Int) : Nat := if v = 1 then 2 else if v = 3 then 1 else 0
def kap (s : api_Rotation) : Nat := (if s.Known = 1 then 1 else 0) + kapV s.Valid
def Phi (s : api_Rotation) : Nat := kap s + (s.Units.map phi).sum
theorem phi_le (u : api_Unit) : phi u ≤ 4 := by unfold phi; split <;> split <;> (try split) <;> (try split) <;> omega
theorem sum_le4 : ∀ l : List api_Unit, (l.map phi).sum ≤ 4 * l.length
  | [] => by simp
  | u :: l => by have := sum_le4 l; have := phi_le u; simp only [List.map_cons, List.sum_cons, List.length_cons]; omega
theorem Phi_le (s : api_Rotation) : Phi s ≤ 4 * s.Units.length + 3 := by
  have := sum_le4 s.Units
  unfold Phi kap kapV
  split <;> split <;> (try split) <;> omega
theorem sum_set {i : Nat} {u' : api_Unit} : ∀ {l : List api_Unit} (hi : i < l.length), ((l.set i u').map phi).sum + phi l[i] = (l.map phi).sum + phi u' := by
  induction i with
  | zero =>
    intro l hi
    cases l with
    | nil => simp at hi
    | cons a l => simp; omega
  | succ i ih =>
    intro l hi
    cases l with
    | nil => simp at hi
    | cons a l =>
      have := ih (l := l) (by simpa using hi)
      simp only [List.set_cons_succ, List.map_cons, List.sum_cons, List.getElem_cons_succ]
      omega
/-- the facts of a right unit -/
theorem unit_cases {c : api_Consumer} {u : api_Unit} {k : Int} (h : unitP c u k = true) : (u.Stored = 1 ∨ u.Stored = 2 ∨ u.Stored = 3) ∧ ((u.Up = true ∧ (u.Used = 1 ∨ u.Used = 2 ∨ u.Used = 3) ∧ (c.Live = true → u.Used = u.Stored)) ∨ (u.Up = false ∧ u.Used = 0)) := by
  obtain ⟨h1, h2⟩ := unitP_iff.1 h
  refine ⟨(bitsP_val h1).1, ?_⟩
  rcases h2 with ⟨a, b, d⟩ | h2
  · exact .inl ⟨a, (bitsP_val b).1, d⟩
  · exact .inr h2
theorem us4 (c : api_Consumer) (u : api_Unit) (b : Bool) : unitStep c u 4 b = (b && u.Stored == 1, fixU c ⟨u.Up, bif c.Dual then 3 else 2, u.Used⟩) := by simp [unitStep]
theorem us7 (c : api_Consumer) (u : api_Unit) (b : Bool) : unitStep c u 7 b = (u.Stored == 3, fixU c ⟨u.Up, 2, u.Used⟩) := by simp [unitStep]
theorem us5 (c : api_Consumer) (u : api_Unit) (b : Bool) : unitStep c u 5 b = (u.Up, ⟨false, u.Stored, 0⟩) := by simp [unitStep]
theorem us6 (c : api_Consumer) (u : api_Unit) (b : Bool) : unitStep c u 6 b = (!u.Up, ⟨true, u.Stored, u.Stored⟩) := by simp [unitStep]
theorem phi_step {c : api_Consumer} {u : api_Unit} {k : Int} (hk : k = 4 ∨ k = 7 ∨ (k = 5 ∧ u.Used ≠ 2) ∨ (k = 6 ∧ u.Stored = 2)) (h : unitP c u 3 = true) (hs : (unitStep c u k true).1 = true) : phi (unitStep c u k true).2 < phi u := by
  obtain ⟨h1, h2⟩ := unit_cases h
  obtain ⟨up, st, us⟩ := u
  obtain ⟨pl, du, li⟩ := c
  simp only at h1 h2
  rcases hk with rfl | rfl | ⟨rfl, h3⟩ | ⟨rfl, h3⟩
  · simp only [us4, Bool.true_and, beq_iff_eq] at hs ⊢
    subst hs
    rcases h2 with ⟨rfl, h2, h3⟩ | ⟨rfl, rfl⟩
    · rcases h2 with rfl | rfl | rfl <;> cases du <;> cases li <;> simp [fixU, phi] at h3 ⊢
    · cases du <;> cases li <;> simp [fixU, phi]
  · simp only [us7, beq_iff_eq] at hs ⊢
    subst hs
    rcases h2 with ⟨rfl, h2, h3⟩ | ⟨rfl, rfl⟩
    · rcases h2 with rfl | rfl | rfl <;> cases li <;> simp [fixU, phi] at h3 ⊢
    · cases li <;> simp [fixU, phi]
  · simp only at h3
    simp only [us5] at hs ⊢
    subst hs
    simp [phi, h3]
  · simp only at h3
    simp only [us6, Bool.not_eq_true'] at hs ⊢
    subst hs
    simp [phi, h3]
/-- mending: stored, alone, used -/
theorem uS4 {c : api_Consumer} {u : api_Unit} (h : unitP c u 3 = true) : (uS c u 4).Stored = 2 ∨ (uS c u 4).Stored = 3 := by
  obtain ⟨h1, _⟩ := unit_cases h
  unfold uS
  have e : (unitStep c u 4 true).1 = (u.Stored == 1) := by simp [unitStep]
  rw [e]
  split
  · have : (unitStep c u 4 true).2.Stored = bif c.Dual then 3 else 2 := by simp only [unitStep, if_true]; unfold fixU; cases (c.Live && u.Up) <;> simp
    rw [this]; cases c.Dual <;> simp
  · rename_i hn
    simp only [beq_iff_eq] at hn
    omega
theorem uS7 {c : api_Consumer} {u : api_Unit} (h : u.Stored = 2 ∨ u.Stored = 3) : (uS c u 7).Stored = 2 := by
  unfold uS
  have e : (unitStep c u 7 true).1 = (u.Stored == 3) := by simp [unitStep]
  rw [e]
  split
  · rw [us7]; unfold fixU; cases (c.Live && u.Up) <;> simp
  · rename_i hn
    simp only [beq_iff_eq] at hn
    omega
theorem uS_right {c : api_Consumer} {u : api_Unit} {k : Int} (h : unitP c u 3 = true) : unitP c (uS c u k) 3 = true := by
  unfold uS
  split
  · exact unitP_step (k := 3) h (.inr rfl) ‹_›
  · exact h
/-- the last two steps -/
theorem uS56 {c : api_Consumer} {u : api_Unit} (h : unitP c u 3 = true) (h2 : u.Stored = 2) : uS c (if u.Used ≠ 2 then uS c u 5 else u) 6 = uE := by
  obtain ⟨_, hc⟩ := unit_cases h
  obtain ⟨up, st, us⟩ := u
  simp only at h2 hc ⊢
  subst h2
  have e5 : ∀ v : api_Unit, unitStep c v 5 true = (v.Up, ⟨false, v.Stored, 0⟩) := fun v => by simp [unitStep]
  have e6 : ∀ v : api_Unit, unitStep c v 6 true = (!v.Up, ⟨true, v.Stored, v.Stored⟩) := fun v => by simp [unitStep]
  unfold uS
  simp only [e5, e6]
  rcases hc with ⟨rfl, h3, _⟩ | ⟨rfl, rfl⟩
  · by_cases hu : us = 2
    · subst hu; simp [uE]
    · simp [hu, uE]
  · simp [uE]

def poolAt (f : api_Fleet) (i : Nat) : Int := (f.Consumers.getD i default).Pool
def unitAt (s : api_Rotation) (i : Nat) : api_Unit := s.Units.getD i default
def consAt (f : api_Fleet) (i : Nat) : api_Consumer := f.Consumers.getD i default
/-- every pool is served -/
def HA (f : api_Fleet) (s : api_Rotation) : Prop := ∀ i, i < f.Consumers.length → ∃ j, j < f.Consumers.length ∧ poolAt f j = poolAt f i ∧ servesU s (unitAt s j) = true
theorem mem_raw {f : api_Fleet} {s : api_Rotation} (hl : s.Units.length = f.Consumers.length) {p : Int} : p ∈ servedRaw f s ↔ ∃ j, j < f.Consumers.length ∧ poolAt f j = p ∧ servesU s (unitAt s j) = true := by
  unfold servedRaw
  simp only [List.mem_map, List.mem_filter]
  constructor
  · rintro ⟨⟨c, u⟩, ⟨hm, hs⟩, rfl⟩
    obtain ⟨i, hi, e⟩ := List.getElem_of_mem hm
    have hi1 : i < f.Consumers.length := by simp at hi; omega
    have hi2 : i < s.Units.length := by omega
    rw [List.getElem_zip, Prod.mk.injEq] at e
    obtain ⟨rfl, rfl⟩ := e
    exact ⟨i, hi1, by simp [poolAt, List.getD, hi1], by simpa [unitAt, List.getD, hi2] using hs⟩
  · rintro ⟨i, hi, rfl, hs⟩
    have hi2 : i < s.Units.length := by omega
    have hz : i < (f.Consumers.zip s.Units).length := by simp; omega
    have := List.getElem_mem hz
    rw [List.getElem_zip] at this
    exact ⟨_, ⟨this, by simpa [unitAt, List.getD, hi2] using hs⟩, by simp [poolAt, List.getD, hi]⟩
theorem HA_holds {f : api_Fleet} {s s' : api_Rotation} (hs : RightOk f s) (hr : RightOk f s') (h : HA f s') : holdsP f s s' := fun p hp => by
  rw [(servedP_ok hs).2, mem_raw hs.2.2.2.1] at hp
  obtain ⟨j, h1, rfl, _⟩ := hp
  rw [(servedP_ok hr).2, mem_raw hr.2.2.2.1]
  exact h j h1
theorem HA_pools {f : api_Fleet} {s : api_Rotation} (hs : RightOk f s) : HA f s ↔ servedP f s = poolsP f := by
  constructor
  · intro h
    refine sorted_ext _ _ (servedP_ok hs).1 (by unfold poolsP; exact range_sorted _ _) fun p => ?_
    rw [(servedP_ok hs).2, mem_raw hs.2.2.2.1, mem_poolsP]
    constructor
    · rintro ⟨j, h1, rfl, _⟩; exact ⟨hs.1, j, h1, by simp [poolAt, List.getD, h1]⟩
    · rintro ⟨_, i, hi, rfl⟩
      have := h i hi
      simpa [poolAt, List.getD, hi] using this
  · intro h i hi
    have : poolAt f i ∈ servedP f s := by rw [h]; exact mem_poolsP.2 ⟨hs.1, i, hi, by simp [poolAt, List.getD, hi]⟩
    rwa [(servedP_ok hs).2, mem_raw hs.2.2.2.1] at this
theorem unitAt_set {s : api_Rotation} {i j : Nat} {u : api_Unit} (hi : i < s.Units.length) {k v : Int} : unitAt ⟨k, v, s.Units.set i u⟩ j = if j = i then u else unitAt s j := by
  unfold unitAt
  by_cases h : j = i
  · subst h; simp [List.getD, hi]
  · simp [List.getD, h, List.getElem?_set, show ¬ i = j from fun e => h e.symm]
/-- a unit changes: its pool is still served if another unit of it serves, or it serves itself -/
theorem HA_set {f : api_Fleet} {s : api_Rotation} {i : Nat} {u : api_Unit} {k : Int} (hi : i < s.Units.length) (h : HA f s) (ho : (∃ j, j ≠ i ∧ j < f.Consumers.length ∧ poolAt f j = poolAt f i ∧ servesU s (unitAt s j) = true) ∨ servesU s u = true) (hl : i < f.Consumers.length) : HA f ⟨k, s.Valid, s.Units.set i u⟩ := by
  intro i' hi'
  have sv : ∀ x : api_Unit, servesU ⟨k, s.Valid, s.Units.set i u⟩ x = servesU s x := fun x => rfl
  by_cases hp : poolAt f i' = poolAt f i
  · rcases ho with ⟨j, h1, h2, h3, h4⟩ | ho
    · exact ⟨j, h2, h3.trans hp.symm, by rw [unitAt_set hi, if_neg h1, sv]; exact h4⟩
    · exact ⟨i, hl, hp.symm, by rw [unitAt_set hi, if_pos rfl, sv]; exact ho⟩
  · obtain ⟨j, h1, h2, h3⟩ := h i' hi'
    refine ⟨j, h1, h2, ?_⟩
    have : j ≠ i := fun e => hp (by rw [← h2, e])
    rw [unitAt_set hi, if_neg this, sv]; exact h3

/-! One step of the planner -/
def doP (p : plan_planner) (k : Int) (i : Nat) : plan_planner := if (applyP p.fleet p.state ⟨k, (i : Int)⟩).2 = 0 then ⟨p.fleet, (applyP p.fleet p.state ⟨k, (i : Int)⟩).1, p.out ++ [⟨k, (i : Int)⟩]⟩ else p
theorem do_sp {p : plan_planner} (h : p.out.length ≤ 1000) (k : Int) (i : Nat) : plan_planner_do_o0_5 p k (i : Int) = some (doP p k i) := by
  unfold plan_planner_do_o0_5 doP
  simp only [apply_sp, Option.bind_some]
  by_cases h0 : (applyP p.fleet p.state ⟨k, (i : Int)⟩).2 = 0
  · rw [if_pos (by simpa using h0), if_pos h0, ck_t (by simp; omega)]; rfl
  · rw [if_neg (by simpa using h0), if_neg h0]
structure Gd (f : api_Fleet) (s0 : api_Rotation) (p : plan_planner) : Prop where
  fl : p.fleet = f
  right : RightOk f p.state
  ha : HA f p.state
  run : safeRun f s0 p.out
  en : endS f s0 p.out = p.state
  left : p.out.length + Phi p.state ≤ Phi s0
theorem Gd.len {f : api_Fleet} {s0 : api_Rotation} {p : plan_planner} (h : Gd f s0 p) (hr : RightOk f s0) : p.out.length ≤ 1000 := by
  have := h.left
  have := Phi_le s0
  have := hr.len.2
  omega
theorem do_G {f : api_Fleet} {s0 : api_Rotation} {p : plan_planner} {k : Int} {i : Nat} (h : Gd f s0 p) (hk : kindOk f ⟨k, (i : Int)⟩)
    (hn : okStep f p.state ⟨k, (i : Int)⟩ = true → HA f (nextS f p.state ⟨k, (i : Int)⟩) ∧ Phi (nextS f p.state ⟨k, (i : Int)⟩) < Phi p.state) :
    Gd f s0 (doP p k i) ∧ (doP p k i).state = if okStep f p.state ⟨k, (i : Int)⟩ = true then nextS f p.state ⟨k, (i : Int)⟩ else p.state := by
  unfold doP
  rw [h.fl]
  by_cases ho : okStep f p.state ⟨k, (i : Int)⟩ = true
  · obtain ⟨h1, h2⟩ := hn ho
    have ea := apply_eq h.right hk ho
    have hr := next_right h.right hk ho
    rw [if_pos ho, ea, if_pos rfl]
    have hsafe : safeP f p.state ⟨k, (i : Int)⟩ = true := by
      unfold safeP
      rw [ea]
      simp [HA_holds h.right hr h1]
    have hrun := safeRun_snoc (x := ⟨k, (i : Int)⟩) p.out s0 h.run (by rw [h.en]; exact hsafe)
    have := h.left
    exact ⟨⟨rfl, hr, h1, hrun.1, by rw [hrun.2, h.en, ea], by simp; omega⟩, rfl⟩
  · have ea : (applyP f p.state ⟨k, (i : Int)⟩).2 = 37 := by
      unfold applyP
      rw [if_neg (not_not_intro h.right), if_neg (not_not_intro hk), if_pos (by simpa using ho)]
    rw [if_neg ho, ea, if_neg (by decide)]
    exact ⟨h, rfl⟩
/-- a step of one unit -/
theorem do_unit {f : api_Fleet} {s0 : api_Rotation} {p : plan_planner} {k : Int} {i : Nat} (h : Gd f s0 p) (hkn : p.state.Known = 3) (hi : i < f.Consumers.length) (hk : k = 4 ∨ k = 7 ∨ (k = 5 ∧ (unitAt p.state i).Used ≠ 2) ∨ (k = 6 ∧ (unitAt p.state i).Stored = 2))
    (ho : (∃ j, j ≠ i ∧ j < f.Consumers.length ∧ poolAt f j = poolAt f i ∧ servesU p.state (unitAt p.state j) = true) ∨ servesU p.state (uS (consAt f i) (unitAt p.state i) k) = true) :
    Gd f s0 (doP p k i) ∧ (doP p k i).state = ⟨3, p.state.Valid, p.state.Units.set i (uS (consAt f i) (unitAt p.state i) k)⟩ := by
  have hl := h.right.2.2.2.1
  have hil : i < p.state.Units.length := by omega
  have k4 : k = 4 ∨ k = 7 ∨ k = 5 ∨ k = 6 := by clear ho; omega
  have hkk : kindOk f ⟨k, (i : Int)⟩ := by
    clear ho
    refine ⟨by simp only; omega, by simp only; omega, by simp, by simp only; omega, fun hb => ?_⟩
    rcases k4 with rfl | rfl | rfl | rfl <;> simp [issuerB] at hb
  have eo : okStep f p.state ⟨k, (i : Int)⟩ = (unitStep (consAt f i) (unitAt p.state i) k true).1 := by
    unfold okStep
    simp only
    clear ho
    rw [if_neg (by omega), if_neg (by omega), if_neg (by omega), if_neg (by omega), hkn]
    rfl
  have en : nextS f p.state ⟨k, (i : Int)⟩ = ⟨3, p.state.Valid, p.state.Units.set i (unitStep (consAt f i) (unitAt p.state i) k true).2⟩ := by
    unfold nextS
    simp only
    clear ho
    rw [if_neg (by omega), if_neg (by omega), if_neg (by omega), if_neg (by omega), hkn]
    rfl
  have hu : unitP (consAt f i) (unitAt p.state i) 3 = true := by
    have := h.right.unit hil hi
    rw [hkn] at this
    simpa [consAt, unitAt, List.getD, hil, hi] using this
  obtain ⟨h1, h2⟩ := do_G h hkk fun hok => by
    rw [eo] at hok
    have e : uS (consAt f i) (unitAt p.state i) k = (unitStep (consAt f i) (unitAt p.state i) k true).2 := by unfold uS; rw [if_pos hok]
    rw [en]
    refine ⟨HA_set hil h.ha (by rw [← e]; exact ho) hi, ?_⟩
    have := sum_set (u' := (unitStep (consAt f i) (unitAt p.state i) k true).2) hil
    have h3 := phi_step hk hu hok
    have e2 : unitAt p.state i = p.state.Units[i] := by simp [unitAt, List.getD, hil]
    unfold Phi kap
    simp only [hkn]
    rw [e2] at h3
    rw [e2] at this ⊢
    omega
  refine ⟨h1, ?_⟩
  rw [h2, eo, en]
  unfold uS
  split
  · rfl
  · have e2 : unitAt p.state i = p.state.Units[i] := by simp [unitAt, List.getD, hil]
    rw [e2, List.set_getElem_self, ← hkn]

theorem iter_first {α ε : Type} {body : Int → Option (Lp Int ε)} (l : List α) (p : α → Bool) (A : α → ε) (B : ε)
    (hgo : ∀ (i : Nat) (h : i < l.length), body (i : Int) = some (if p l[i] = true then .out (A l[i]) else .go (((i + 1 : Nat) : Int))))
    (hend : body (l.length : Int) = some (.out B)) : (∃ x, x ∈ l ∧ p x = true ∧ iter body 0 = some (A x)) ∨ ((∀ x, x ∈ l → p x = false) ∧ iter body 0 = some B) := by
  have key : ∀ (m i : Nat), i + m = l.length → (∀ j (h : j < l.length), j < i → p l[j] = false) → (∃ x, x ∈ l ∧ p x = true ∧ iter body (i : Int) = some (A x)) ∨ ((∀ x, x ∈ l → p x = false) ∧ iter body (i : Int) = some B) := fun m => by
    induction m with
    | zero =>
      intro i h hp
      have : i = l.length := by omega
      subst this
      refine .inr ⟨fun x hx => ?_, iter_out hend⟩
      obtain ⟨j, hj, rfl⟩ := List.getElem_of_mem hx
      exact hp j hj hj
    | succ m ih =>
      intro i h hp
      have hi : i < l.length := by omega
      have hb := hgo i hi
      by_cases hq : p l[i] = true
      · rw [if_pos hq] at hb
        exact .inl ⟨_, List.getElem_mem hi, hq, iter_out hb⟩
      · rw [if_neg hq] at hb
        rw [iter_go hb]
        refine ih (i + 1) (by omega) fun j hj hji => ?_
        by_cases e : j = i
        · subst e; simpa using hq
        · exact hp j hj (by omega)
  exact key l.length 0 (by omega) fun j _ h => by omega

def serves2 (s : api_Rotation) (i : Nat) : Prop := bAnd .i64 (unitAt s i).Used 2 ≠ 0
theorem b_22 : bAnd .i64 2 2 ≠ 0 := by decide
theorem b_23 : bAnd .i64 2 3 ≠ 0 := by decide
theorem b_32 : bAnd .i64 3 2 ≠ 0 := by decide
theorem b_33 : bAnd .i64 3 3 ≠ 0 := by decide
theorem b_13 : bAnd .i64 1 3 ≠ 0 := by decide
theorem b_31 : bAnd .i64 3 1 ≠ 0 := by decide
theorem b_12 : bAnd .i64 1 2 = 0 := by decide
theorem serves23 {s : api_Rotation} {u : api_Unit} (hv : s.Valid = 2 ∨ s.Valid = 3) (hu : u.Used = 2 ∨ u.Used = 3) : servesU s u = true := by
  unfold servesU
  rcases hv with e | e <;> rcases hu with e2 | e2 <;> rw [e, e2] <;> decide
theorem set_same {l : List api_Unit} {i : Nat} {a b : api_Unit} : (l.set i a).set i b = l.set i b := by
  apply List.ext_getElem? ; intro j
  simp only [List.getElem?_set, List.length_set]
  split <;> rfl
def midU (c : api_Consumer) (u : api_Unit) : api_Unit := if u.Used ≠ 2 then uS c u 5 else u
theorem mend_ex {f : api_Fleet} {s0 : api_Rotation} {p : plan_planner} {i : Nat} (h : Gd f s0 p) (hr : RightOk f s0) (hkn : p.state.Known = 3) (hi : i < f.Consumers.length)
    (ho : (∃ j, j ≠ i ∧ j < f.Consumers.length ∧ poolAt f j = poolAt f i ∧ servesU p.state (unitAt p.state j) = true) ∨
      (servesU p.state (uS (consAt f i) (unitAt p.state i) 4) = true ∧ servesU p.state (uS (consAt f i) (uS (consAt f i) (unitAt p.state i) 4) 7) = true ∧ servesU p.state (midU (consAt f i) (uS (consAt f i) (uS (consAt f i) (unitAt p.state i) 4) 7)) = true ∧ servesU p.state uE = true)) :
    ∃ p', plan_planner_mend_o0_5 p (i : Int) = some p' ∧ Gd f s0 p' ∧ p'.state = ⟨3, p.state.Valid, p.state.Units.set i uE⟩ := by
  have hil : i < p.state.Units.length := by rw [h.right.2.2.2.1]; exact hi
  have hA : ∀ (u : api_Unit), (∃ j, j ≠ i ∧ j < f.Consumers.length ∧ poolAt f j = poolAt f i ∧ servesU p.state (unitAt p.state j) = true) → ∃ j, j ≠ i ∧ j < f.Consumers.length ∧ poolAt f j = poolAt f i ∧ servesU (⟨3, p.state.Valid, p.state.Units.set i u⟩ : api_Rotation) (unitAt ⟨3, p.state.Valid, p.state.Units.set i u⟩ j) = true := fun u ⟨j, h1, h2, h3, h4⟩ => ⟨j, h1, h2, h3, by rw [unitAt_set hil, if_neg h1]; exact h4⟩
  have hu : unitP (consAt f i) (unitAt p.state i) 3 = true := by
    have := h.right.unit hil hi
    rw [hkn] at this
    simpa [consAt, unitAt, List.getD, hil, hi] using this
  generalize hc : consAt f i = c at ho hu
  generalize hu0 : unitAt p.state i = u0 at ho hu
  have r1 := uS_right (k := 4) hu
  have r2 := uS_right (k := 7) r1
  have hst := uS7 (c := c) (uS4 hu)
  have hlast : uS c (midU c (uS c (uS c u0 4) 7)) 6 = uE := uS56 r2 hst
  have hUS : ∀ u : api_Unit, unitAt (⟨3, p.state.Valid, p.state.Units.set i u⟩ : api_Rotation) i = u := fun u => by rw [unitAt_set hil, if_pos rfl]
  obtain ⟨g1, e1⟩ := do_unit (k := 4) h hkn hi (.inl rfl) (by rw [hc, hu0]; exact ho.imp id fun q => q.1)
  rw [hc, hu0] at e1
  obtain ⟨g2, e2⟩ := do_unit (k := 7) g1 (by rw [e1]) hi (.inr (.inl rfl)) (by rw [e1, hc, hUS]; exact ho.imp (hA _) fun q => q.2.1)
  rw [e1, hc, hUS] at e2
  simp only [set_same] at e2
  have hmid : ∃ p3, (if (unitAt (doP (doP p 4 i) 7 i).state i).Used ≠ 2 then doP (doP (doP p 4 i) 7 i) 5 i else doP (doP p 4 i) 7 i) = p3 ∧ Gd f s0 p3 ∧ p3.state = ⟨3, p.state.Valid, p.state.Units.set i (midU c (uS c (uS c u0 4) 7))⟩ := by
    rw [e2, hUS]
    unfold midU
    by_cases h2 : (uS c (uS c u0 4) 7).Used ≠ 2
    · rw [if_pos h2, if_pos h2]
      obtain ⟨g3, e3⟩ := do_unit (k := 5) g2 (by rw [e2]) hi (.inr (.inr (.inl ⟨rfl, by rw [e2, hUS]; exact h2⟩))) (by rw [e2, hc, hUS]; refine ho.imp (hA _) fun q => ?_; have := q.2.2.1; unfold midU at this; rw [if_pos h2] at this; exact this)
      rw [e2, hc, hUS] at e3
      simp only [set_same] at e3
      exact ⟨_, rfl, g3, e3⟩
    · rw [if_neg h2, if_neg h2]
      exact ⟨_, rfl, g2, e2⟩
  obtain ⟨p3, ep3, g3, e3⟩ := hmid
  have hst3 : (midU c (uS c (uS c u0 4) 7)).Stored = 2 := by
    unfold midU
    split
    · unfold uS at hst ⊢
      generalize (if (unitStep c (if (unitStep c u0 4 true).1 = true then (unitStep c u0 4 true).2 else u0) 7 true).1 = true then (unitStep c (if (unitStep c u0 4 true).1 = true then (unitStep c u0 4 true).2 else u0) 7 true).2 else (if (unitStep c u0 4 true).1 = true then (unitStep c u0 4 true).2 else u0)) = w at hst ⊢
      rw [us5]
      split <;> exact hst
    · exact hst
  obtain ⟨g4, e4⟩ := do_unit (k := 6) g3 (by rw [e3]) hi (.inr (.inr (.inr ⟨rfl, by rw [e3, hUS]; exact hst3⟩))) (by rw [e3, hc, hUS, hlast]; exact ho.imp (hA _) fun q => q.2.2.2)
  rw [e3, hc, hUS, hlast] at e4
  simp only [set_same] at e4
  refine ⟨_, ?_, g4, e4⟩
  have hlx : i < (doP (doP p 4 i) 7 i).state.Units.length := by rw [e2]; simpa using hil
  have eu : (doP (doP p 4 i) 7 i).state.Units[i] = unitAt (doP (doP p 4 i) 7 i).state i := by simp [unitAt, List.getD, hlx]
  unfold plan_planner_mend_o0_5 plan_planner_mend_o0_5_j0
  rw [do_sp (h.len hr), Option.bind_some, do_sp (g1.len hr), Option.bind_some, idx_lt hlx, Option.bind_some, eu]
  by_cases h2 : (unitAt (doP (doP p 4 i) 7 i).state i).Used ≠ 2
  · rw [if_pos (by simpa using h2), do_sp (g2.len hr), Option.bind_some]
    rw [if_pos h2] at ep3
    rw [ep3]
    exact (congrArg (fun q => Option.bind q some) (do_sp (g3.len hr) 6 i)).trans rfl
  · rw [if_neg (by simpa using h2)]
    rw [if_neg h2] at ep3
    rw [ep3]
    exact (congrArg (fun q => Option.bind q some) (do_sp (g3.len hr) 6 i)).trans rfl
/-- the only unit of a pool, live, that serves where the new secret is valid -/
theorem sole_serves {f : api_Fleet} {s : api_Rotation} {i : Nat} (h : RightOk f s) (hkn : s.Known = 3) (hi : i < f.Consumers.length) (hv : s.Valid = 2 ∨ s.Valid = 3) (hs : servesU s (unitAt s i) = true) (hlive : (consAt f i).Live = true) :
    servesU s (uS (consAt f i) (unitAt s i) 4) = true ∧ servesU s (uS (consAt f i) (uS (consAt f i) (unitAt s i) 4) 7) = true ∧ servesU s (midU (consAt f i) (uS (consAt f i) (uS (consAt f i) (unitAt s i) 4) 7)) = true ∧ servesU s uE = true := by
  have hil : i < s.Units.length := by rw [h.2.2.2.1]; exact hi
  have hu : unitP (consAt f i) (unitAt s i) 3 = true := by
    have := h.unit hil hi
    rw [hkn] at this
    simpa [consAt, unitAt, List.getD, hil, hi] using this
  obtain ⟨hst, hc⟩ := unit_cases hu
  have hup : (unitAt s i).Up = true := by
    rcases hc with hc | hc
    · exact hc.1
    · simp only [servesU, hc.2, and_0] at hs; simp at hs
  obtain ⟨h1, h2, h3⟩ := hc.resolve_right fun q => by rw [hup] at q; cases q.1
  have h3 := h3 hlive
  have hsE : servesU s uE = true := serves23 hv (.inl rfl)
  have e1 : (unitAt s i).Stored = 1 → uS (consAt f i) (unitAt s i) 4 = ⟨true, bif (consAt f i).Dual then 3 else 2, bif (consAt f i).Dual then 3 else 2⟩ := fun e => by
    unfold uS
    rw [us4]
    simp only [Bool.true_and, e]
    rw [if_pos (by simp)]
    unfold fixU
    simp [hlive, hup]
  have e1' : (unitAt s i).Stored ≠ 1 → uS (consAt f i) (unitAt s i) 4 = unitAt s i := fun e => by
    unfold uS
    rw [us4, if_neg (by simpa using e)]
  have k1 : ∃ d : Int, (d = 2 ∨ d = 3) ∧ uS (consAt f i) (unitAt s i) 4 = ⟨true, d, d⟩ := by
    by_cases e : (unitAt s i).Stored = 1
    · refine ⟨bif (consAt f i).Dual then 3 else 2, ?_, e1 e⟩
      cases (consAt f i).Dual <;> simp
    · refine ⟨(unitAt s i).Stored, by omega, (e1' e).trans ?_⟩
      conv => lhs; rw [show unitAt s i = ⟨(unitAt s i).Up, (unitAt s i).Stored, (unitAt s i).Used⟩ from rfl]
      rw [hup, h3]
  obtain ⟨d, hd, k1⟩ := k1
  have k2 : uS (consAt f i) (uS (consAt f i) (unitAt s i) 4) 7 = uE := by
    rw [k1]
    unfold uS
    rw [us7]
    rcases hd with rfl | rfl
    · simp [uE]
    · simp [fixU, hlive, uE]
  have k3 : midU (consAt f i) uE = uE := by unfold midU; rw [if_neg (by simp [uE])]
  rw [k2, k3]
  exact ⟨by rw [k1]; exact serves23 hv hd, hsE, hsE, hsE⟩

theorem unitAt_get {s : api_Rotation} {i : Nat} (h : i < s.Units.length) : s.Units[i] = unitAt s i := by simp [unitAt, List.getD, h]
theorem in_pool {f : api_Fleet} (hf : FleetOk f) {p x : Int} : x ∈ unitsP f p ↔ ∃ i : Nat, x = (i : Int) ∧ i < f.Consumers.length ∧ poolAt f i = p := by
  rw [mem_unitsP]
  constructor
  · rintro ⟨_, i, rfl, h1, h2⟩; exact ⟨i, rfl, h1, by simpa [poolAt, List.getD, h1] using h2⟩
  · rintro ⟨i, rfl, h1, h2⟩; exact ⟨hf, i, rfl, h1, by simpa [poolAt, List.getD, h1] using h2⟩
theorem serving_ex {f : api_Fleet} {s0 : api_Rotation} {p : plan_planner} (h : Gd f s0 p) (q b : Int) :
    (∃ i : Nat, i < f.Consumers.length ∧ poolAt f i = q ∧ bAnd .i64 (unitAt p.state i).Used b ≠ 0 ∧ plan_planner_serving_o0_5 p q b = some ((i : Int), true, p)) ∨
    ((∀ i : Nat, i < f.Consumers.length → poolAt f i = q → bAnd .i64 (unitAt p.state i).Used b = 0) ∧ plan_planner_serving_o0_5 p q b = some (0, false, p)) := by
  have hf := h.right.1
  have hul := unitsP_len f q
  have hl := h.right.2.2.2.1
  unfold plan_planner_serving_o0_5
  rw [h.fl, funits_sp]
  simp only [Option.bind_some]
  have hgo : ∀ (i : Nat) (hi : i < (unitsP f q).length), plan_planner_serving_o0_5_l0 (unitsP f q) p b (i : Int) = some (if (bAnd .i64 (unitAt p.state ((unitsP f q)[i]).toNat).Used b != 0) = true then .out (.inr ((unitsP f q)[i], true, p)) else .go (((i + 1 : Nat) : Int))) := fun i hi => by
    obtain ⟨j, ej, h1, h2⟩ := (in_pool hf).1 (List.getElem_mem hi)
    unfold plan_planner_serving_o0_5_l0
    rw [if_pos (by simp; omega), idx_lt hi, w64 (by omega) (by omega)]
    simp only [Option.bind_some]
    rw [ej, idx_lt (by omega : j < p.state.Units.length), unitAt_get]
    simp only [Option.bind_some, Int.toNat_natCast]
    split <;> rfl
  have hend : plan_planner_serving_o0_5_l0 (unitsP f q) p b ((unitsP f q).length : Int) = some (.out (.inl ())) := by
    unfold plan_planner_serving_o0_5_l0
    rw [if_neg (by simp)]
  rcases iter_first (ε := Unit ⊕ (Int × Bool × plan_planner)) (unitsP f q) (fun x => bAnd .i64 (unitAt p.state x.toNat).Used b != 0) (fun x => .inr (x, true, p)) (.inl ()) hgo hend with ⟨x, hx, hp, e⟩ | ⟨hn, e⟩
  · obtain ⟨i, rfl, h1, h2⟩ := (in_pool hf).1 hx
    rw [e]
    exact .inl ⟨i, h1, h2, by simpa using hp, rfl⟩
  · rw [e]
    exact .inr ⟨fun i h1 h2 => by simpa using hn _ ((in_pool hf).2 ⟨i, rfl, h1, h2⟩), rfl⟩
theorem other_ex {l : List Int} (hl : l.length ≤ 1000) (b : Int) : (∃ k : Nat, ∃ h : k < l.length, l[k] ≠ b ∧ slices_IndexFunc_int_at_plan_planner_prepare_1_b l b = some ((k : Int), b)) ∨ ((∀ x, x ∈ l → x = b) ∧ slices_IndexFunc_int_at_plan_planner_prepare_1_b l b = some (-1, b)) := by
  have key : ∀ (m i : Nat), i + m = l.length → (∀ j (h : j < l.length), j < i → l[j] = b) →
      (∃ k : Nat, ∃ h : k < l.length, l[k] ≠ b ∧ iter (slices_IndexFunc_int_at_plan_planner_prepare_1_b_l0 l) ((i : Int), b) = some (.inr ((k : Int), b))) ∨ ((∀ x, x ∈ l → x = b) ∧ iter (slices_IndexFunc_int_at_plan_planner_prepare_1_b_l0 l) ((i : Int), b) = some (.inl b)) := fun m => by
    induction m with
    | zero =>
      intro i h hp
      refine .inr ⟨fun x hx => ?_, iter_out ?_⟩
      · obtain ⟨j, hj, rfl⟩ := List.getElem_of_mem hx
        exact hp j hj (by omega)
      · unfold slices_IndexFunc_int_at_plan_planner_prepare_1_b_l0
        rw [if_neg (by simp; omega)]
    | succ m ih =>
      intro i h hp
      have hi : i < l.length := by omega
      have hb : slices_IndexFunc_int_at_plan_planner_prepare_1_b_l0 l ((i : Int), b) = some (if l[i] ≠ b then .out (.inr ((i : Int), b)) else .go (((i + 1 : Nat) : Int), b)) := by
        unfold slices_IndexFunc_int_at_plan_planner_prepare_1_b_l0 plan_planner_prepare_1_cb
        rw [if_pos (by simp; omega), idx_lt hi, w64 (by simp; omega) (by simp; omega)]
        simp only [Option.bind_some]
        by_cases e : l[i] = b <;> simp [e]
      by_cases hq : l[i] ≠ b
      · rw [if_pos hq] at hb
        exact .inl ⟨i, hi, hq, iter_out hb⟩
      · rw [if_neg hq] at hb
        rw [iter_go hb]
        refine ih (i + 1) (by omega) fun j hj hji => ?_
        by_cases e : j = i
        · subst e; simpa using hq
        · exact hp j hj (by omega)
  unfold slices_IndexFunc_int_at_plan_planner_prepare_1_b
  rcases key l.length 0 (by omega) (fun j _ h => by omega) with ⟨k, hk, h1, h2⟩ | ⟨h1, h2⟩
  · rw [show ((0 : Int), b) = (((0 : Nat) : Int), b) from rfl, h2]
    exact .inl ⟨k, hk, h1, rfl⟩
  · rw [show ((0 : Int), b) = (((0 : Nat) : Int), b) from rfl, h2]
    exact .inr ⟨h1, rfl⟩

/-! Pools that fit -/
def fitP (f : api_Fleet) (q : Int) : Bool :=
  if (unitsP f q).length = 1 then (let c := consAt f ((unitsP f q).headD 0).toNat; c.Live && (c.Dual || f.Slots == 2)) else decide (1 < (unitsP f q).length)
theorem fit_sp (f : api_Fleet) (q : Int) : plan_Fit f q = some (fitP f q) := by
  unfold plan_Fit fitP
  rw [funits_sp]
  simp only [Option.bind_some]
  by_cases h1 : (unitsP f q).length = 1
  · rw [if_neg (by simp [h1]), if_pos h1]
    obtain ⟨x, hx⟩ := List.length_eq_one_iff.1 h1
    have hm : x ∈ unitsP f q := by rw [hx]; simp
    obtain ⟨_, i, rfl, hi, _⟩ := mem_unitsP.1 hm
    rw [hx]
    have : idx [(i : Int)] 0 = some (i : Int) := rfl
    rw [this]
    simp only [Option.bind_some, List.headD_cons, Int.toNat_natCast]
    rw [idx_lt hi]
    simp [consAt, List.getD, hi]
  · rw [if_pos (by simp; omega), if_neg h1]
    congr 1
    simp only [decide_eq_decide]
    omega
theorem fit_use {f : api_Fleet} (hf : FleetOk f) {i : Nat} (hi : i < f.Consumers.length) (h : fitP f (poolAt f i) = true) : (∃ j, j ≠ i ∧ j < f.Consumers.length ∧ poolAt f j = poolAt f i) ∨ ((consAt f i).Live = true ∧ ((consAt f i).Dual = true ∨ f.Slots = 2)) := by
  have hm : (i : Int) ∈ unitsP f (poolAt f i) := (in_pool hf).2 ⟨i, rfl, hi, rfl⟩
  unfold fitP at h
  by_cases h1 : (unitsP f (poolAt f i)).length = 1
  · rw [if_pos h1] at h
    obtain ⟨x, hx⟩ := List.length_eq_one_iff.1 h1
    rw [hx] at hm h
    have : x = (i : Int) := (List.mem_singleton.1 hm).symm
    subst this
    simp at h
    exact .inr h
  · rw [if_neg h1] at h
    left
    have h2 : 1 < (unitsP f (poolAt f i)).length := by simpa using h
    have hs : (unitsP f (poolAt f i)).Pairwise (· < ·) := by unfold unitsP; rw [if_pos hf]; exact range_sorted _ _
    have hlt := sorted_split hs (i := 0) (j := 1) (by omega) h2
    obtain ⟨a, ea, a1, a2⟩ := (in_pool hf).1 (List.getElem_mem (l := unitsP f (poolAt f i)) (n := 0) (by omega))
    obtain ⟨b, eb, b1, b2⟩ := (in_pool hf).1 (List.getElem_mem h2)
    by_cases e : a = i
    · exact ⟨b, by omega, b1, b2⟩
    · exact ⟨a, e, a1, a2⟩

/-! Preparing a pool where the new secret is not valid yet -/
theorem prepare_ex {f : api_Fleet} {s0 : api_Rotation} {p : plan_planner} {i0 : Nat} (h : Gd f s0 p) (hr : RightOk f s0) (hkn : p.state.Known = 3) (hv : p.state.Valid = 1) (hsl : f.Slots ≠ 2) (hi0 : i0 < f.Consumers.length) (hfit : ∀ i, i < f.Consumers.length → fitP f (poolAt f i) = true) :
    ∃ p', plan_planner_prepare_o0_5 p (poolAt f i0) = some p' ∧ Gd f s0 p' ∧ p'.state.Known = 3 ∧ p'.state.Valid = 1 ∧ (∃ j, j < f.Consumers.length ∧ poolAt f j = poolAt f i0 ∧ serves2 p'.state j) ∧ ∀ j, serves2 p.state j → serves2 p'.state j := by
  have hf := h.right.1
  have hl := h.right.2.2.2.1
  unfold plan_planner_prepare_o0_5
  rcases serving_ex h (poolAt f i0) 2 with ⟨i, h1, h2, h3, e⟩ | ⟨hn, e⟩
  · rw [e]
    simp only [Option.bind_some, if_true]
    exact ⟨p, rfl, h, hkn, hv, ⟨i, h1, h2, h3⟩, fun j hj => hj⟩
  rw [e]
  simp only [Option.bind_some]
  rw [if_neg (by simp)]
  rcases serving_ex h (poolAt f i0) 1 with ⟨a, a1, a2, a3, e⟩ | ⟨hn1, e⟩
  case inr =>
    obtain ⟨j, j1, j2, j3⟩ := h.ha i0 hi0
    unfold servesU at j3
    rw [hv, hn1 j j1 j2] at j3
    simp at j3
  rw [e]
  simp only [Option.bind_some, h.fl, funits_sp]
  have hul := unitsP_len f (poolAt f i0)
  have hsa : servesU p.state (unitAt p.state a) = true := by unfold servesU; rw [hv]; simpa using a3
  rcases other_ex (l := unitsP f (poolAt f i0)) (by omega) (a : Int) with ⟨k, hk, hne, e⟩ | ⟨hall, e⟩
  · rw [e]
    simp only [Option.bind_some]
    rw [if_pos (by simp), idx_lt hk]
    obtain ⟨x, ex, x1, x2⟩ := (in_pool hf).1 (List.getElem_mem hk)
    have hxa : a ≠ x := fun e => hne (by rw [ex, e])
    obtain ⟨p', m1, m2, m3⟩ := mend_ex (i := x) h hr hkn x1 (.inl ⟨a, hxa, a1, a2.trans x2.symm, hsa⟩)
    have hxl : x < p.state.Units.length := by omega
    simp only [Option.bind_some, ex, m1]
    refine ⟨p', rfl, m2, by rw [m3], by rw [m3]; exact hv, ⟨x, x1, x2, ?_⟩, fun j hj => ?_⟩
    · unfold serves2; rw [m3, unitAt_set hxl, if_pos rfl]; exact b_22
    · unfold serves2 at hj ⊢
      rw [m3, unitAt_set hxl]
      split
      · exact b_22
      · exact hj
  · rw [e]
    simp only [Option.bind_some]
    rw [if_neg (by simp), do_sp (h.len hr)]
    have hal : a < p.state.Units.length := by omega
    have hlive := (fit_use hf a1 (hfit a a1)).resolve_left fun ⟨j, j1, j2, j3⟩ => j1 (by
      have := hall _ ((in_pool hf).2 ⟨j, rfl, j2, j3.trans a2⟩)
      omega)
    have hdual : (consAt f a).Dual = true := hlive.2.resolve_right hsl
    have hu : unitP (consAt f a) (unitAt p.state a) 3 = true := by
      have := h.right.unit hal a1
      rw [hkn] at this
      simpa [consAt, unitAt, List.getD, hal, a1] using this
    obtain ⟨hst, hc⟩ := unit_cases hu
    have hc := hc.resolve_right fun q => a3 (by rw [q.2]; exact and_0 1)
    have hne2 := hn a a1 a2
    have hus : (unitAt p.state a).Used = 1 := by
      rcases hc.2.1 with q | q | q
      · exact q
      · rw [q] at hne2; exact absurd hne2 b_22
      · rw [q] at hne2; exact absurd hne2 b_32
    have hs1 : (unitAt p.state a).Stored = 1 := by rw [← hc.2.2 hlive.1]; exact hus
    have e4 : uS (consAt f a) (unitAt p.state a) 4 = ⟨true, 3, 3⟩ := by
      unfold uS
      rw [us4]
      simp only [Bool.true_and, hs1]
      rw [if_pos (by simp)]
      unfold fixU
      simp [hlive.1, hc.1, hdual]
    obtain ⟨g, eg⟩ := do_unit (k := 4) h hkn a1 (.inl rfl) (.inr (by rw [e4]; unfold servesU; rw [hv]; simpa using b_31))
    rw [e4] at eg
    refine ⟨_, rfl, g, by rw [eg], by rw [eg]; exact hv, ⟨a, a1, a2, ?_⟩, fun j hj => ?_⟩
    · unfold serves2; rw [eg, unitAt_set hal, if_pos rfl]; exact b_32
    · unfold serves2 at hj ⊢
      rw [eg, unitAt_set hal]
      split
      · exact b_32
      · exact hj

/-! Settling a pool -/
theorem settle_ex {f : api_Fleet} {s0 : api_Rotation} {p : plan_planner} {i0 : Nat} (h : Gd f s0 p) (hr : RightOk f s0) (hkn : p.state.Known = 3) (hv : p.state.Valid = 2 ∨ p.state.Valid = 3) (hi0 : i0 < f.Consumers.length) (hfit : ∀ i, i < f.Consumers.length → fitP f (poolAt f i) = true) :
    ∃ p', plan_planner_settle_o0_5 p (poolAt f i0) = some p' ∧ Gd f s0 p' ∧ p'.state.Known = 3 ∧ p'.state.Valid = p.state.Valid ∧ (∀ j, j < f.Consumers.length → poolAt f j = poolAt f i0 → unitAt p'.state j = uE) ∧ ∀ j, unitAt p.state j = uE → unitAt p'.state j = uE := by
  have hf := h.right.1
  have hul := unitsP_len f (poolAt f i0)
  unfold plan_planner_settle_o0_5
  rcases serving_ex h (poolAt f i0) p.state.Valid with ⟨a, a1, a2, a3, e⟩ | ⟨hn1, e⟩
  case inr =>
    obtain ⟨j, j1, j2, j3⟩ := h.ha i0 hi0
    unfold servesU at j3
    rw [hn1 j j1 j2] at j3
    simp at j3
  rw [e]
  simp only [Option.bind_some, h.fl, funits_sp]
  have hsa : servesU p.state (unitAt p.state a) = true := by unfold servesU; simpa using a3
  have key : ∀ (m k : Nat) (q : plan_planner), k + m = (unitsP f (poolAt f i0)).length → Gd f s0 q → q.state.Known = 3 → q.state.Valid = p.state.Valid → unitAt q.state a = unitAt p.state a → (∀ j, unitAt p.state j = uE → unitAt q.state j = uE) →
      (∀ (j x : Nat), (hj : j < (unitsP f (poolAt f i0)).length) → j < k → (unitsP f (poolAt f i0))[j] = (x : Int) → x ≠ a → unitAt q.state x = uE) →
      ∃ q', iter (plan_planner_settle_o0_5_l0 (unitsP f (poolAt f i0)) ((a : Int), true, p)) ((k : Int), q.fleet.Slots, q.fleet.Consumers, q.state.Known, q.state.Valid, q.state.Units, q.out) = some (q'.fleet.Slots, q'.fleet.Consumers, q'.state.Known, q'.state.Valid, q'.state.Units, q'.out) ∧
        Gd f s0 q' ∧ q'.state.Known = 3 ∧ q'.state.Valid = p.state.Valid ∧ unitAt q'.state a = unitAt p.state a ∧ (∀ j, unitAt p.state j = uE → unitAt q'.state j = uE) ∧ ∀ x, x < f.Consumers.length → poolAt f x = poolAt f i0 → x ≠ a → unitAt q'.state x = uE := fun m => by
    induction m with
    | zero =>
      intro k q hk g g1 g2 g3 g4 g5
      refine ⟨q, iter_out ?_, g, g1, g2, g3, g4, fun x x1 x2 x3 => ?_⟩
      · unfold plan_planner_settle_o0_5_l0
        rw [if_neg (by simp; omega)]
      · obtain ⟨j, hj, ej⟩ := List.getElem_of_mem ((in_pool hf).2 ⟨x, rfl, x1, x2⟩)
        exact g5 j x hj (by omega) ej x3
    | succ m ih =>
      intro k q hk g g1 g2 g3 g4 g5
      have hkl : k < (unitsP f (poolAt f i0)).length := by omega
      obtain ⟨x, ex, x1, x2⟩ := (in_pool hf).1 (List.getElem_mem hkl)
      have hxl : x < q.state.Units.length := by rw [g.right.2.2.2.1]; exact x1
      by_cases hxa : x = a
      · have hb : plan_planner_settle_o0_5_l0 (unitsP f (poolAt f i0)) ((a : Int), true, p) ((k : Int), q.fleet.Slots, q.fleet.Consumers, q.state.Known, q.state.Valid, q.state.Units, q.out) = some (.go (((k + 1 : Nat) : Int), q.fleet.Slots, q.fleet.Consumers, q.state.Known, q.state.Valid, q.state.Units, q.out)) := by
          unfold plan_planner_settle_o0_5_l0
          simp only
          rw [if_pos (by simp; omega), idx_lt hkl, w64 (by omega) (by omega)]
          simp only [Option.bind_some]
          rw [if_neg (by rw [ex, hxa]; simp)]
          rfl
        rw [iter_go hb]
        refine ih (k + 1) q (by omega) g g1 g2 g3 g4 fun j y hj hjk ey hya => ?_
        by_cases e : j = k
        · subst e
          rw [ex] at ey
          exact absurd (by omega : y = a) hya
        · exact g5 j y hj (by omega) ey hya
      · have hsq : servesU q.state (unitAt q.state a) = true := by rw [g3]; unfold servesU; rw [g2]; exact hsa
        obtain ⟨q', m1, m2, m3⟩ := mend_ex (i := x) g hr g1 x1 (.inl ⟨a, fun e => hxa e.symm, a1, a2.trans x2.symm, hsq⟩)
        have hb : plan_planner_settle_o0_5_l0 (unitsP f (poolAt f i0)) ((a : Int), true, p) ((k : Int), q.fleet.Slots, q.fleet.Consumers, q.state.Known, q.state.Valid, q.state.Units, q.out) = some (.go (((k + 1 : Nat) : Int), q'.fleet.Slots, q'.fleet.Consumers, q'.state.Known, q'.state.Valid, q'.state.Units, q'.out)) := by
          unfold plan_planner_settle_o0_5_l0
          simp only
          rw [if_pos (by simp; omega), idx_lt hkl, w64 (by omega) (by omega)]
          simp only [Option.bind_some]
          rw [if_pos (by rw [ex]; simp only [bne_iff_ne, ne_eq]; omega), ex]
          rw [show (⟨(⟨q.fleet.Slots, q.fleet.Consumers⟩ : api_Fleet), (⟨q.state.Known, q.state.Valid, q.state.Units⟩ : api_Rotation), q.out⟩ : plan_planner) = q from rfl, m1]
          rfl
        rw [iter_go hb]
        refine ih (k + 1) q' (by omega) m2 (by rw [m3]) (by rw [m3]; exact g2) ?_ (fun j hj => ?_) fun j y hj hjk ey hya => ?_
        · rw [m3, unitAt_set hxl, if_neg (fun e => hxa e.symm)]; exact g3
        · rw [m3, unitAt_set hxl]
          split
          · rfl
          · exact g4 j hj
        · rw [m3, unitAt_set hxl]
          split
          · rfl
          · rename_i hyx
            by_cases e : j = k
            · subst e
              rw [ex] at ey
              exact absurd (by omega : y = x) hyx
            · exact g5 j y hj (by omega) ey hya
  obtain ⟨q, k1, g, g1, g2, g3, g4, g5⟩ := key (unitsP f (poolAt f i0)).length 0 p (by omega) h hkn rfl rfl (fun j hj => hj) (fun j x _ hj => by omega)
  have k1' : iter (plan_planner_settle_o0_5_l0 (unitsP f (poolAt f i0)) ((a : Int), true, p)) (0, f.Slots, f.Consumers, p.state.Known, p.state.Valid, p.state.Units, p.out) = some (q.fleet.Slots, q.fleet.Consumers, q.state.Known, q.state.Valid, q.state.Units, q.out) := by
    rw [← k1, h.fl]; rfl
  rw [k1']
  simp only [Option.bind_some]
  rw [show (⟨(⟨q.fleet.Slots, q.fleet.Consumers⟩ : api_Fleet), (⟨q.state.Known, q.state.Valid, q.state.Units⟩ : api_Rotation), q.out⟩ : plan_planner) = q from rfl]
  have hal : a < q.state.Units.length := by rw [g.right.2.2.2.1]; exact a1
  have hvq : q.state.Valid = 2 ∨ q.state.Valid = 3 := by rw [g2]; exact hv
  obtain ⟨q', m1, m2, m3⟩ := mend_ex (i := a) g hr g1 a1 (by
    rcases fit_use hf a1 (hfit a a1) with ⟨j, j1, j2, j3⟩ | hlive
    · exact .inl ⟨j, j1, j2, j3, by rw [g5 j j2 (j3.trans a2) j1]; exact serves23 hvq (.inl rfl)⟩
    · exact .inr (sole_serves g.right g1 a1 hvq (by rw [g3]; unfold servesU; rw [g2]; exact hsa) hlive.1))
  rw [m1]
  refine ⟨q', rfl, m2, by rw [m3], by rw [m3]; exact g2, fun j j1 j2 => ?_, fun j hj => ?_⟩
  · rw [m3, unitAt_set hal]
    split
    · rfl
    · exact g5 j j1 j2 ‹_›
  · rw [m3, unitAt_set hal]
    split
    · rfl
    · exact g4 j hj

abbrev CP : Type := Int × (List api_Consumer) × Int × Int × (List api_Unit) × (List api_Step)
def comps (q : plan_planner) : CP := (q.fleet.Slots, q.fleet.Consumers, q.state.Known, q.state.Valid, q.state.Units, q.out)
theorem loop_pools {body : Int × CP → Option (Lp (Int × CP) CP)} {g : plan_planner → Int → Option plan_planner} (l : List Int) (Inv : Nat → plan_planner → Prop)
    (hb : ∀ (k : Nat) (hk : k < l.length) (q q' : plan_planner), g q l[k] = some q' → body ((k : Int), comps q) = some (.go (((k + 1 : Nat) : Int), comps q')))
    (he : ∀ q : plan_planner, body ((l.length : Int), comps q) = some (.out (comps q)))
    (hs : ∀ (k : Nat) (hk : k < l.length) (q : plan_planner), Inv k q → ∃ q', g q l[k] = some q' ∧ Inv (k + 1) q') {q0 : plan_planner} (h0 : Inv 0 q0) : ∃ q', iter body (0, comps q0) = some (comps q') ∧ Inv l.length q' := by
  have key : ∀ (m k : Nat) (q : plan_planner), k + m = l.length → Inv k q → ∃ q', iter body ((k : Int), comps q) = some (comps q') ∧ Inv l.length q' := fun m => by
    induction m with
    | zero =>
      intro k q h hi
      have : k = l.length := by omega
      subst this
      exact ⟨q, iter_out (he q), hi⟩
    | succ m ih =>
      intro k q h hi
      have hk : k < l.length := by omega
      obtain ⟨q', h1, h2⟩ := hs k hk q hi
      rw [iter_go (hb k hk q q' h1)]
      exact ih (k + 1) q' (by omega) h2
  exact key l.length 0 q0 (by omega) h0
theorem prep_body (l : List Int) (hl : l.length ≤ 1000) (k : Nat) (hk : k < l.length) (q q' : plan_planner) (h : plan_planner_prepare_o0_5 q l[k] = some q') : plan_From_l2 l ((k : Int), comps q) = some (.go (((k + 1 : Nat) : Int), comps q')) := by
  unfold plan_From_l2 comps
  simp only
  rw [if_pos (by simp; omega), idx_lt hk, w64 (by omega) (by omega)]
  simp only [Option.bind_some]
  rw [show (⟨(⟨q.fleet.Slots, q.fleet.Consumers⟩ : api_Fleet), (⟨q.state.Known, q.state.Valid, q.state.Units⟩ : api_Rotation), q.out⟩ : plan_planner) = q from rfl, h]
  rfl
theorem prep_end (l : List Int) (q : plan_planner) : plan_From_l2 l ((l.length : Int), comps q) = some (.out (comps q)) := by
  unfold plan_From_l2 comps
  rw [if_neg (by simp)]
theorem settle_body (l : List Int) (hl : l.length ≤ 1000) (k : Nat) (hk : k < l.length) (q q' : plan_planner) (h : plan_planner_settle_o0_5 q l[k] = some q') : plan_From_l1 l ((k : Int), comps q) = some (.go (((k + 1 : Nat) : Int), comps q')) := by
  unfold plan_From_l1 comps
  simp only
  rw [if_pos (by simp; omega), idx_lt hk, w64 (by omega) (by omega)]
  simp only [Option.bind_some]
  rw [show (⟨(⟨q.fleet.Slots, q.fleet.Consumers⟩ : api_Fleet), (⟨q.state.Known, q.state.Valid, q.state.Units⟩ : api_Rotation), q.out⟩ : plan_planner) = q from rfl, h]
  rfl
theorem settle_end (l : List Int) (q : plan_planner) : plan_From_l1 l ((l.length : Int), comps q) = some (.out (comps q)) := by
  unfold plan_From_l1 comps
  rw [if_neg (by simp)]
theorem pool_at {f : api_Fleet} {k : Nat} (hk : k < (poolsP f).length) : ∃ i, i < f.Consumers.length ∧ (poolsP f)[k] = poolAt f i := by
  obtain ⟨_, i, hi, e⟩ := mem_poolsP.1 (List.getElem_mem hk)
  exact ⟨i, hi, by rw [← e]; simp [poolAt, List.getD, hi]⟩
theorem at_pool {f : api_Fleet} (hf : FleetOk f) {i : Nat} (hi : i < f.Consumers.length) : ∃ k, ∃ h : k < (poolsP f).length, (poolsP f)[k] = poolAt f i :=
  List.getElem_of_mem (mem_poolsP.2 ⟨hf, i, hi, by simp [poolAt, List.getD, hi]⟩)
/-- HA looks at the valid secrets and the units alone -/
theorem HA_known {f : api_Fleet} {k k' v : Int} {us : List api_Unit} (h : HA f ⟨k, v, us⟩) : HA f ⟨k', v, us⟩ := h
theorem used_cases {f : api_Fleet} {s : api_Rotation} (h : RightOk f s) {j : Nat} (hj : j < f.Consumers.length) : (unitAt s j).Used = 0 ∨ (unitAt s j).Used = 1 ∨ (unitAt s j).Used = 2 ∨ (unitAt s j).Used = 3 := by
  have hl : j < s.Units.length := by rw [h.2.2.2.1]; exact hj
  have := (unit_cases (h.unit hl hj)).2
  rw [unitAt_get] at this
  rcases this with q | q
  · omega
  · exact .inl q.2
/-- steps at the issuer -/
theorem do_issuer {f : api_Fleet} {s0 : api_Rotation} {p : plan_planner} {k : Int} (h : Gd f s0 p) (hk : k = 1 ∨ k = 2 ∨ k = 3 ∨ k = 8)
    (hn : okStep f p.state ⟨k, 0⟩ = true → HA f (nextS f p.state ⟨k, 0⟩) ∧ Phi (nextS f p.state ⟨k, 0⟩) < Phi p.state) :
    Gd f s0 (doP p k 0) ∧ (doP p k 0).state = if okStep f p.state ⟨k, 0⟩ = true then nextS f p.state ⟨k, 0⟩ else p.state := by
  have h1 := h.right.1.2.1
  exact do_G (i := 0) h ⟨by simp only; omega, by simp only; omega, by simp, by simp; omega, fun _ => rfl⟩ hn
theorem from_ex {f : api_Fleet} {s0 : api_Rotation} (hr : RightOk f s0) (ha : HA f s0) (hfit : ∀ i, i < f.Consumers.length → fitP f (poolAt f i) = true) :
    ∃ p', plan_From f s0 = some p'.out ∧ Gd f s0 p' ∧ p'.state.Known = 3 ∧ p'.state.Valid = 2 ∧ ∀ j, j < f.Consumers.length → unitAt p'.state j = uE := by
  have hf := hr.1
  have h8 := hf.2.2.1
  have hpl := poolsP_len f
  have g0 : Gd f s0 ⟨f, s0, []⟩ := ⟨rfl, hr, ha, trivial, rfl, by simp⟩
  obtain ⟨g1, e1⟩ := do_issuer (k := 1) g0 (.inl rfl) fun hok => by
    have hk : s0.Known = 1 := by simpa [okStep] using hok
    have : nextS f s0 ⟨1, 0⟩ = ⟨3, s0.Valid, s0.Units⟩ := rfl
    simp only [this]
    refine ⟨HA_known ha, ?_⟩
    unfold Phi kap
    simp only [hk]
    simp
  have e1 : (doP ⟨f, s0, []⟩ 1 0).state = ⟨3, s0.Valid, s0.Units⟩ := by
    rw [e1]
    rcases hr.2.1 with hk | hk
    · rw [if_pos (by simp [okStep, hk])]; rfl
    · rw [if_neg (by simp [okStep, hk])]
      show s0 = _
      rw [← hk]
  generalize hp1 : doP ⟨f, s0, []⟩ 1 0 = p1 at g1 e1
  have hv := (bitsP_val hr.2.2.1).1
  obtain ⟨g2, e2⟩ := do_issuer (k := 2) g1 (.inr (.inl rfl)) fun hok => by
    have hk : s0.Valid = 1 ∧ f.Slots = 2 := by simpa [okStep, e1] using hok
    have : nextS f p1.state ⟨2, 0⟩ = ⟨3, 3, s0.Units⟩ := by rw [e1]; rfl
    rw [this, e1]
    refine ⟨fun i hi => ?_, ?_⟩
    · obtain ⟨j, j1, j2, j3⟩ := ha i hi
      refine ⟨j, j1, j2, ?_⟩
      have hu := used_cases hr j1
      unfold servesU at j3 ⊢
      rw [hk.1] at j3
      have eu : unitAt (⟨3, 3, s0.Units⟩ : api_Rotation) j = unitAt s0 j := rfl
      rw [eu]
      rcases hu with q | q | q | q <;> rw [q] at j3 ⊢
      · rw [and_0] at j3; simp at j3
      · exact (by decide : (bAnd .i64 1 3 != 0) = true)
      · exact (by decide : (bAnd .i64 2 3 != 0) = true)
      · exact (by decide : (bAnd .i64 3 3 != 0) = true)
    · unfold Phi kap kapV
      simp only [hk.1]
      simp
  have hv2 : (doP p1 2 0).state.Known = 3 ∧ (((doP p1 2 0).state.Valid = 1 ∧ f.Slots ≠ 2) ∨ (doP p1 2 0).state.Valid = 2 ∨ (doP p1 2 0).state.Valid = 3) := by
    rw [e2]
    by_cases hok : okStep f p1.state ⟨2, 0⟩ = true
    · rw [if_pos hok]
      refine ⟨by rw [e1]; rfl, .inr (.inr rfl)⟩
    · rw [if_neg hok, e1]
      refine ⟨rfl, ?_⟩
      have hok' : ¬ (s0.Valid = 1 ∧ f.Slots = 2) := by simpa [okStep, e1] using hok
      simp only
      rcases hv with q | q | q
      · exact .inl ⟨q, fun e => hok' ⟨q, e⟩⟩
      · exact .inr (.inl q)
      · exact .inr (.inr q)
  generalize hp2 : doP p1 2 0 = p2 at g2 hv2
  -- the second part
  have part2 : ∀ q : plan_planner, Gd f s0 q → q.state.Known = 3 → (q.state.Valid = 2 ∨ q.state.Valid = 3) → ∃ p', plan_From_j0 (poolsP f) (comps q) = some p'.out ∧ Gd f s0 p' ∧ p'.state.Known = 3 ∧ p'.state.Valid = 2 ∧ ∀ j, j < f.Consumers.length → unitAt p'.state j = uE := fun q gq kq vq => by
    obtain ⟨q', i1, i2, i3, i4, i5⟩ := loop_pools (body := plan_From_l1 (poolsP f)) (g := plan_planner_settle_o0_5) (poolsP f)
      (fun k q => Gd f s0 q ∧ q.state.Known = 3 ∧ (q.state.Valid = 2 ∨ q.state.Valid = 3) ∧ ∀ i, i < f.Consumers.length → (∃ k', ∃ h : k' < (poolsP f).length, k' < k ∧ (poolsP f)[k'] = poolAt f i) → unitAt q.state i = uE)
      (settle_body _ (by omega)) (settle_end _) (fun k hk q ⟨a1, a2, a3, a4⟩ => by
        obtain ⟨i, hi, e⟩ := pool_at hk
        obtain ⟨q', b1, b2, b3, b4, b5, b6⟩ := settle_ex a1 hr a2 a3 hi hfit
        refine ⟨q', by rw [e]; exact b1, b2, b3, by rw [b4]; exact a3, fun j hj ⟨k', hk', hlt, e'⟩ => ?_⟩
        by_cases hkk : k' = k
        · subst hkk
          exact b5 j hj (by rw [← e', e])
        · exact b6 j (a4 j hj ⟨k', hk', by omega, e'⟩)) (q0 := q) ⟨gq, kq, vq, fun i _ ⟨k', _, h, _⟩ => by omega⟩
    have hall : ∀ j, j < f.Consumers.length → unitAt q'.state j = uE := fun j hj => by
      obtain ⟨k, hk, e⟩ := at_pool hf hj
      exact i5 j hj ⟨k, hk, hk, e⟩
    obtain ⟨g3, e3⟩ := do_issuer (k := 8) i2 (.inr (.inr (.inr rfl))) fun hok => by
      have hk : q'.state.Valid = 3 := by simpa [okStep] using hok
      have : nextS f q'.state ⟨8, 0⟩ = ⟨q'.state.Known, 2, q'.state.Units⟩ := rfl
      rw [this]
      refine ⟨fun i hi => ⟨i, hi, rfl, ?_⟩, ?_⟩
      · have eu : unitAt (⟨q'.state.Known, 2, q'.state.Units⟩ : api_Rotation) i = unitAt q'.state i := rfl
        rw [eu, hall i hi]
        exact serves23 (.inl rfl) (.inl rfl)
      · unfold Phi kap kapV
        simp only [hk]
        simp
    unfold plan_From_j0
    have i1' : iter (plan_From_l1 (poolsP f)) (0, (comps q).1, (comps q).2.1, (comps q).2.2.1, (comps q).2.2.2.1, (comps q).2.2.2.2.1, (comps q).2.2.2.2.2) = some (comps q') := i1
    rw [i1']
    simp only [Option.bind_some]
    rw [show (⟨(⟨(comps q').1, (comps q').2.1⟩ : api_Fleet), (⟨(comps q').2.2.1, (comps q').2.2.2.1, (comps q').2.2.2.2.1⟩ : api_Rotation), (comps q').2.2.2.2.2⟩ : plan_planner) = q' from rfl, show (0 : Int) = ((0 : Nat) : Int) from rfl, do_sp (i2.len hr)]
    refine ⟨_, rfl, g3, ?_, ?_, fun j hj => ?_⟩
    · rw [e3]; split <;> exact i3
    · rw [e3]
      by_cases hok : okStep f q'.state ⟨8, 0⟩ = true
      · rw [if_pos hok]; rfl
      · rw [if_neg hok]
        have : q'.state.Valid ≠ 3 := by simpa [okStep] using hok
        exact i4.resolve_right this
    · rw [e3]
      split
      · exact hall j hj
      · exact hall j hj
  unfold plan_From
  rw [fpools_sp]
  simp only [Option.bind_some]
  rw [show (0 : Int) = ((0 : Nat) : Int) from rfl, do_sp (by simp), Option.bind_some, hp1, do_sp (g1.len hr), Option.bind_some, hp2]
  obtain ⟨kn2, hv2⟩ := hv2
  rcases hv2 with ⟨hv1, hsl⟩ | hv2
  · rw [if_pos (by simp [hv1])]
    obtain ⟨q', i1, i2, i3, i4, i5⟩ := loop_pools (body := plan_From_l2 (poolsP f)) (g := plan_planner_prepare_o0_5) (poolsP f)
      (fun k q => Gd f s0 q ∧ q.state.Known = 3 ∧ q.state.Valid = 1 ∧ ∀ i, i < f.Consumers.length → (∃ k', ∃ h : k' < (poolsP f).length, k' < k ∧ (poolsP f)[k'] = poolAt f i) → ∃ j, j < f.Consumers.length ∧ poolAt f j = poolAt f i ∧ serves2 q.state j)
      (prep_body _ (by omega)) (prep_end _) (fun k hk q ⟨a1, a2, a3, a4⟩ => by
        obtain ⟨i, hi, e⟩ := pool_at hk
        obtain ⟨q', b1, b2, b3, b4, b5, b6⟩ := prepare_ex a1 hr a2 a3 hsl hi hfit
        refine ⟨q', by rw [e]; exact b1, b2, b3, b4, fun j hj ⟨k', hk', hlt, e'⟩ => ?_⟩
        by_cases hkk : k' = k
        · subst hkk
          rw [show poolAt f j = poolAt f i by rw [← e', e]]
          exact b5
        · obtain ⟨x, x1, x2, x3⟩ := a4 j hj ⟨k', hk', by omega, e'⟩
          exact ⟨x, x1, x2, b6 x x3⟩) (q0 := p2) ⟨g2, kn2, hv1, fun i _ ⟨k', _, h, _⟩ => by omega⟩
    obtain ⟨g3, e3⟩ := do_issuer (k := 3) i2 (.inr (.inr (.inl rfl))) fun hok => by
      have : nextS f q'.state ⟨3, 0⟩ = ⟨q'.state.Known, 2, q'.state.Units⟩ := rfl
      rw [this]
      refine ⟨fun i hi => ?_, ?_⟩
      · obtain ⟨k, hk, e⟩ := at_pool hf hi
        obtain ⟨j, j1, j2, j3⟩ := i5 i hi ⟨k, hk, hk, e⟩
        exact ⟨j, j1, j2, by unfold servesU; exact bne_iff_ne.2 j3⟩
      · unfold Phi kap kapV
        simp only [i4]
        simp
    have e3 : (doP q' 3 0).state = ⟨3, 2, q'.state.Units⟩ := by
      rw [e3, if_pos (by simp [okStep, i3, i4])]
      show (⟨q'.state.Known, 2, q'.state.Units⟩ : api_Rotation) = _
      rw [i3]
    have i1' : iter (plan_From_l2 (poolsP f)) (((0 : Nat) : Int), p2.fleet.Slots, p2.fleet.Consumers, p2.state.Known, p2.state.Valid, p2.state.Units, p2.out) = some (comps q') := i1
    rw [i1']
    simp only [Option.bind_some]
    rw [show (⟨(⟨(comps q').1, (comps q').2.1⟩ : api_Fleet), (⟨(comps q').2.2.1, (comps q').2.2.2.1, (comps q').2.2.2.2.1⟩ : api_Rotation), (comps q').2.2.2.2.2⟩ : plan_planner) = q' from rfl, do_sp (i2.len hr)]
    simp only [Option.bind_some]
    exact part2 _ g3 (by rw [e3]) (.inl (by rw [e3]))
  · rw [if_neg (by rcases hv2 with q | q <;> simp [q])]
    exact part2 p2 g2 kn2 hv2

theorem iter_find1 {α ε : Type} {body : Int → Option (Lp Int ε)} (l : List α) (p : α → Bool) (A : α → ε) (B : ε)
    (hgo : ∀ (i : Nat) (h : i < l.length), body (i : Int) = some (if p l[i] = true then .out (A l[i]) else .go (((i + 1 : Nat) : Int))))
    (hend : body (l.length : Int) = some (.out B)) : iter body 0 = some (((l.find? p).map A).getD B) := by
  have key : ∀ (m i : Nat), i + m = l.length → iter body (i : Int) = some ((((l.drop i).find? p).map A).getD B) := fun m => by
    induction m with
    | zero =>
      intro i h
      have : i = l.length := by omega
      subst this
      rw [List.drop_length]
      exact iter_out hend
    | succ m ih =>
      intro i h
      have hi : i < l.length := by omega
      have hb := hgo i hi
      rw [List.drop_eq_getElem_cons hi, List.find?_cons]
      cases hp : p l[i] with
      | true =>
        rw [if_pos hp] at hb
        exact iter_out hb
      | false =>
        rw [if_neg (by simp [hp])] at hb
        rw [iter_go hb]
        exact ih (i + 1) (by omega)
  exact key l.length 0 (by omega)

/-! Which pool does not fit -/
def whyP (f : api_Fleet) : api_Hindrance × Bool := match (poolsP f).find? (fun p => !fitP f p) with | some p => (⟨p⟩, true) | none => (⟨0⟩, false)
theorem why_loop (f : api_Fleet) : iter (plan_Why_l0 (poolsP f) f) 0 = some ((((poolsP f).find? (fun p => !fitP f p)).map (fun p => Sum.inr ((⟨p⟩ : api_Hindrance), true))).getD (Sum.inl ())) := by
  have hpl := poolsP_len f
  refine iter_find1 (poolsP f) (fun p => !fitP f p) (fun p => Sum.inr ((⟨p⟩ : api_Hindrance), true)) (Sum.inl ()) (fun i hi => ?_) ?_
  · unfold plan_Why_l0
    rw [if_pos (by simp; omega), idx_lt hi, w64 (by omega) (by omega)]
    simp only [Option.bind_some, fit_sp]
    split <;> rfl
  · unfold plan_Why_l0
    rw [if_neg (by simp)]
theorem why_sp (f : api_Fleet) : plan_Why f = some (whyP f) := by
  unfold plan_Why whyP
  rw [fpools_sp]
  simp only [Option.bind_some]
  rw [why_loop]
  cases (poolsP f).find? (fun p => !fitP f p) <;> rfl
theorem why_fit {f : api_Fleet} : (whyP f).2 = false ↔ ∀ p, p ∈ poolsP f → fitP f p = true := by
  unfold whyP
  cases h : (poolsP f).find? (fun p => !fitP f p) with
  | none =>
    rw [List.find?_eq_none] at h
    simpa using h
  | some p =>
    simp only [Bool.true_eq_false, false_iff]
    intro hall
    have h1 := List.find?_some h
    have h2 := hall p (List.mem_of_find?_eq_some h)
    rw [h2] at h1; cases h1
theorem fits {f : api_Fleet} (hf : FleetOk f) (h : (whyP f).2 = false) (i : Nat) (hi : i < f.Consumers.length) : fitP f (poolAt f i) = true :=
  why_fit.1 h _ (mem_poolsP.2 ⟨hf, i, hi, by simp [poolAt, List.getD, hi]⟩)

/-! What holds -/
def holdP (f : api_Fleet) (s : api_Rotation) : Bool := decide (RightOk f s) && ((servedP f s).length == (poolsP f).length)
theorem hold_sp (f : api_Fleet) (s : api_Rotation) : fallback_Hold f s = some (holdP f s) := by
  unfold fallback_Hold holdP
  rw [right_sp]
  by_cases hr : RightOk f s
  · simp only [hr, decide_true, Option.bind_some, if_true, served_sp, fpools_sp, Bool.true_and]
    congr 1
    rw [Bool.eq_iff_iff]
    simp only [beq_iff_eq]
    omega
  · simp [hr]
theorem hold_HA {f : api_Fleet} {s : api_Rotation} (hr : RightOk f s) : holdP f s = true ↔ HA f s := by
  unfold holdP
  rw [HA_pools hr, decide_eq_true hr, Bool.true_and, beq_iff_eq]
  constructor
  · intro h
    rw [← rserved_eq] at h ⊢
    unfold rservedP at h ⊢
    exact List.filter_eq_self.2 (List.length_filter_eq_length_iff.1 h)
  · intro h; rw [h]

/-! Checking a list of steps -/
theorem fault_safe {f : api_Fleet} : ∀ (l : List api_Step) (i : Int) (s : api_Rotation), (faultP f i s l).2 = 0 → safeRun f s l := fun l => by
  induction l with
  | nil => intro i s _; trivial
  | cons x l ih =>
    intro i s h
    rw [faultP_eq] at h
    by_cases h1 : (applyP f s x).2 ≠ 0
    · rw [if_pos h1] at h; exact absurd h h1
    · rw [if_neg h1] at h
      by_cases h2 : ¬ holdsP f s (applyP f s x).1
      · rw [if_pos h2] at h; cases h
      · rw [if_neg h2] at h
        refine ⟨?_, ih _ _ h⟩
        unfold safeP
        have h1 : (applyP f s x).2 = 0 := by omega
        have h2 := Classical.not_not.1 h2
        simp [h1, h2]
theorem endS_last {f : api_Fleet} : ∀ (l : List api_Step) (s : api_Rotation) (pre : List api_Rotation), RightOk f s → safeRun f s l → (pre ++ [s] ++ (runP f s l).1).getLast? = some (endS f s l) := fun l => by
  induction l with
  | nil => intro s pre _ _; simp [runP, endS]
  | cons x l ih =>
    intro s pre hr hs
    have h0 := safe_possible hs.1
    have r1 := (apply_right hr h0).1
    have q1 := (safeRun_run l _ r1 hs.2).1
    rw [runP_eq, if_neg (not_not_intro h0), if_neg (not_not_intro q1)]
    have := ih (applyP f s x).1 (pre ++ [s]) r1 hs.2
    rw [show pre ++ [s] ++ (applyP f s x).1 :: (runP f (applyP f s x).1 l).1 = pre ++ [s] ++ [(applyP f s x).1] ++ (runP f (applyP f s x).1 l).1 by simp]
    exact this
/-- the last state of a run -/
theorem run_last {f : api_Fleet} {s : api_Rotation} {l : List api_Step} (hr : RightOk f s) (hs : safeRun f s l) (hl : l.length ≤ 1000) (h0 : 0 < (runP f s l).1.length) :
    IntKind.i64.wrap (((runP f s l).1.length : Int) - 1) = ((runP f s l).1.length : Int) - 1 ∧ idx (runP f s l).1 (((runP f s l).1.length : Int) - 1) = some (endS f s l) := by
  have hlen := (runP_right l s hr (safeRun_run l s hr hs).1).1
  refine ⟨w64 (by omega) (by omega), ?_⟩
  have h1 := endS_last l s [] hr hs
  rw [idx_toNat (by omega) (by omega)]
  have e : (((runP f s l).1.length : Int) - 1).toNat = (runP f s l).1.length - 1 := by omega
  simp only [e]
  rw [List.nil_append, List.getLast?_eq_getElem?, List.length_append, List.length_singleton, List.getElem?_append_right (by simp; omega)] at h1
  simp only [List.length_singleton] at h1
  rw [show 1 + (runP f s l).1.length - 1 - 1 = (runP f s l).1.length - 1 by omega, List.getElem?_eq_getElem (by omega)] at h1
  exact h1
theorem run_nil {f : api_Fleet} {s : api_Rotation} {l : List api_Step} (hr : RightOk f s) (hs : safeRun f s l) (h0 : ¬ 0 < (runP f s l).1.length) : endS f s l = s := by
  have hlen := (runP_right l s hr (safeRun_run l s hr hs).1).1
  have : l = [] := List.eq_nil_of_length_eq_zero (by omega)
  subst this; rfl
def checkP (f : api_Fleet) (s : api_Rotation) (l : List api_Step) : Bool := decide (RightOk f s) && ((faultP f 0 s l).2 == 0 && endedP f (endS f s l))
theorem fcheck35_sp (f : api_Fleet) (s : api_Rotation) {l : List api_Step} (hl : l.length ≤ 120) : plan_Check f s l = some (checkP f s l) := by
  unfold plan_Check checkP
  by_cases hr : RightOk f s
  case neg =>
    have : steps_Fault f s l = some (0, 36) := by unfold steps_Fault steps_check; rw [right_sp]; simp [hr]
    rw [this]; simp [hr]
  rw [fault_sp hr hl, run_sp hr hl]
  simp only [Option.bind_some, hr, decide_true, Bool.true_and]
  by_cases h0 : (faultP f 0 s l).2 = 0
  · have hfp := faultP_0 l 0 s h0
    have hs := fault_safe l 0 s h0
    rw [if_neg (by rw [hfp]; simp), if_neg (by simp [(safeRun_run l s hr hs).1])]
    by_cases hn : 0 < (runP f s l).1.length
    · obtain ⟨k1, k2⟩ := run_last hr hs (by omega) hn
      rw [if_pos (by simpa using hn), k1, k2]
      simp only [Option.bind_some, plan_Check_j0, fended_sp, h0]
      simp
    · rw [if_neg (by simpa using hn)]
      simp only [plan_Check_j0, fended_sp, Option.bind_some, h0, run_nil hr hs hn]
      simp
  · rw [if_pos (by simp [h0])]
    simp [h0]

/-! Fallback -/
def makeE (f : api_Fleet) (s : api_Rotation) : Int := if ¬ RightOk f s then 36 else if ((whyP f).2 || !holdP f s) = true then 38 else 0
/-- a good list of steps from s -/
structure Good (f : api_Fleet) (s : api_Rotation) (l : List api_Step) : Prop where
  run : safeRun f s l
  len : l.length ≤ 4 * f.Consumers.length + 3
  ended : endedP f (endS f s l) = true
  right : RightOk f (endS f s l)
  ha : HA f (endS f s l)
  kn : (endS f s l).Known = 3
  va : (endS f s l).Valid = 2
  allE : ∀ j, j < f.Consumers.length → unitAt (endS f s l) j = uE
theorem from_good {f : api_Fleet} {s : api_Rotation} (hr : RightOk f s) (ha : HA f s) (hw : (whyP f).2 = false) : ∃ l, plan_From f s = some l ∧ Good f s l := by
  obtain ⟨p', h1, h2, h3, h4, h5⟩ := from_ex hr ha (fits hr.1 hw)
  refine ⟨_, h1, h2.run, ?_, ?_, by rw [h2.en]; exact h2.right, by rw [h2.en]; exact h2.ha, by rw [h2.en]; exact h3, by rw [h2.en]; exact h4, by rw [h2.en]; exact h5⟩
  · have := h2.left
    have := Phi_le s
    have := hr.2.2.2.1
    omega
  · rw [h2.en]
    unfold endedP
    rw [decide_eq_true h2.right, h4]
    simp only [Bool.true_and, beq_self_eq_true, List.all_eq_true]
    intro u hu
    obtain ⟨i, hi, rfl⟩ := List.getElem_of_mem hu
    rw [unitAt_get, h5 i (by rw [← h2.right.2.2.2.1]; exact hi)]
    rfl
theorem make_ex {f : api_Fleet} {s : api_Rotation} : ∃ l, fallback_Make f s = some (l, makeE f s) ∧ (makeE f s ≠ 0 → l = []) ∧ (makeE f s = 0 → RightOk f s ∧ (whyP f).2 = false ∧ HA f s ∧ Good f s l) := by
  unfold fallback_Make makeE
  rw [right_sp, why_sp]
  by_cases hr : RightOk f s
  case neg => exact ⟨[], by simp [hr], fun _ => rfl, fun h => by simp [hr] at h⟩
  simp only [hr, decide_true, Option.bind_some, not_true_eq_false, if_false]
  rw [if_neg (by simp)]
  cases hw : (whyP f).2 with
  | true => exact ⟨[], by simp, fun _ => rfl, fun h => by simp at h⟩
  | false =>
    simp only [hold_sp, Option.bind_some, Bool.false_or]
    rw [if_neg (by simp)]
    simp only [Option.bind_some]
    cases hh : holdP f s with
    | false => exact ⟨[], by simp, fun _ => rfl, fun h => by simp at h⟩
    | true =>
      have ha := (hold_HA hr).1 hh
      obtain ⟨l, h1, h2⟩ := from_good hr ha hw
      exact ⟨l, by simp [h1], fun h => by simp at h, fun _ => ⟨trivial, trivial, ha, h2⟩⟩
theorem good_check {f : api_Fleet} {s : api_Rotation} {l : List api_Step} (hr : RightOk f s) (h : Good f s l) : checkP f s l = true := by
  unfold checkP
  rw [decide_eq_true hr, safeRun_fault l 0 s h.run, h.ended]; rfl
/-! Forward -/
def forwardP (f : api_Fleet) (a b : api_Rotation) : Bool := decide (RightOk f a) && (decide (RightOk f b) && ((bAndNot .i64 a.Known b.Known == 0) && (((bAnd .i64 a.Valid 2 == 0) || (bAnd .i64 b.Valid 2 != 0)) && ((bAnd .i64 a.Valid 1 != 0) || (bAnd .i64 b.Valid 1 == 0)))))
theorem forward_sp (f : api_Fleet) (a b : api_Rotation) : fallback_Forward f a b = some (forwardP f a b) := by
  unfold fallback_Forward forwardP
  rw [right_sp, right_sp]
  by_cases ha : RightOk f a
  case neg => simp [ha]
  by_cases hb : RightOk f b
  case neg => simp [ha, hb]
  simp only [ha, hb, decide_true, Option.bind_some, Bool.true_and]
  rw [if_neg (by simp), if_neg (by simp)]
  simp only [Option.bind_some]
  by_cases hk : bAndNot .i64 a.Known b.Known = 0
  · simp [hk]
  · simp [hk]
def boundP (f : api_Fleet) : Int := if FleetOk f then 5 * (f.Consumers.length : Int) + 3 else 0
/-! Fleets that fit -/
/-- two fleets with the same pools have the same units -/
theorem units_same {f g : api_Fleet} (hs : f.Slots = g.Slots) (h : f.Consumers.map (·.Pool) = g.Consumers.map (·.Pool)) : (FleetOk f → FleetOk g) ∧ ∀ p, FleetOk f → unitsP f p = unitsP g p := by
  have hl : f.Consumers.length = g.Consumers.length := by simpa using congrArg List.length h
  have hp : ∀ i, (hi : i < f.Consumers.length) → (hi' : i < g.Consumers.length) → f.Consumers[i].Pool = g.Consumers[i].Pool := fun i hi hi' => by
    have := congrArg (fun l : List Int => l[i]?) h
    simpa [hi, hi'] using this
  have hok : FleetOk f → FleetOk g := fun hf => ⟨hs ▸ hf.1, by rw [← hl]; exact hf.2.1, by rw [← hl]; exact hf.2.2.1, fun i hi => by
    have := hf.2.2.2 i (by omega)
    unfold poolP at this ⊢
    rw [← hp i (by omega) hi]; exact this⟩
  refine ⟨hok, fun p hf => ?_⟩
  unfold unitsP
  rw [if_pos hf, if_pos (hok hf), hl]
  congr 1
  apply List.filter_congr
  intro i hi
  have hi' : i < g.Consumers.length := by simpa using hi
  have h2 := hp i (by omega) hi'
  simp only [List.getD, List.getElem?_eq_getElem hi', List.getElem?_eq_getElem (show i < f.Consumers.length by omega), Option.getD_some, h2]
/-! States that are held -/
theorem start_HA (f : api_Fleet) : HA f (startR f) := fun i hi => ⟨i, hi, rfl, by
  have : unitAt (startR f) i = ⟨true, 1, 1⟩ := by simp [unitAt, startR, List.getD, hi]
  rw [this]
  show (bAnd .i64 1 1 != 0) = true
  decide⟩
theorem holds_HA {f : api_Fleet} {s s' : api_Rotation} (hs : RightOk f s) (hr : RightOk f s') (ha : HA f s) (h : holdsP f s s') : HA f s' := fun i hi => by
  have : poolAt f i ∈ servedP f s := by rw [(servedP_ok hs).2, mem_raw hs.2.2.2.1]; exact ha i hi
  have := h _ this
  rwa [(servedP_ok hr).2, mem_raw hr.2.2.2.1] at this
theorem safe_HA {f : api_Fleet} {s : api_Rotation} {x : api_Step} (hs : RightOk f s) (ha : HA f s) (h : safeP f s x = true) : HA f (applyP f s x).1 := by
  have h0 := safe_possible h
  have hr := (apply_right hs h0).1
  refine holds_HA hs hr ha ?_
  unfold safeP at h
  simp only [Bool.and_eq_true, decide_eq_true_eq] at h
  exact h.2
/-! awake -/
def fC : api_Fleet := ⟨1, [⟨0, false, false⟩, ⟨0, false, false⟩]⟩
def sC : api_Rotation := ⟨3, 2, [⟨true, 2, 2⟩, ⟨true, 1, 1⟩]⟩
def fD : api_Fleet := ⟨2, [⟨4, false, false⟩]⟩
theorem fC_ok : FleetOk fC := by decide
theorem fD_ok : FleetOk fD := by decide
theorem unC : unitsP fC 0 = [0, 1] := by decide
theorem unD : unitsP fD 4 = [0] := by decide
theorem poC : poolsP fC = [0] := by decide
theorem poD : poolsP fD = [4] := by decide
theorem whyC : (whyP fC).2 = false := by
  rw [why_fit, poC]
  intro p hp
  have : p = 0 := by simpa using hp
  subst this
  unfold fitP
  rw [unC]; rfl
theorem whyD : whyP fD = (⟨4⟩, true) := by
  have : fitP fD 4 = false := by unfold fitP; rw [unD]; rfl
  unfold whyP
  rw [poD]
  simp [this]
theorem sC_right : RightOk fC sC := by
  refine ⟨fC_ok, .inr rfl, bits3, rfl, fun i h h' => ?_⟩
  have b1 : bitsP 1 3 false = true := bits13
  have b2 : bitsP 2 3 false = true := bits3
  have : i = 0 ∨ i = 1 := by simp [sC] at h; omega
  rcases this with rfl | rfl
  · show unitP ⟨0, false, false⟩ ⟨true, 2, 2⟩ 3 = true
    unfold unitP; simp [b2]
  · show unitP ⟨0, false, false⟩ ⟨true, 1, 1⟩ 3 = true
    unfold unitP; simp [b1]
theorem sC_HA : HA fC sC := fun i hi => by
  have : i = 0 ∨ i = 1 := by simp [fC] at hi; omega
  refine ⟨0, by decide, ?_, ?_⟩
  · rcases this with rfl | rfl <;> rfl
  · exact serves23 (.inl rfl) (.inl rfl)
/-! Plans -/
def planE (f : api_Fleet) : Int := if ¬ FleetOk f then 36 else if (whyP f).2 = true then 38 else 0
theorem plan_ex (f : api_Fleet) : ∃ l, plan_Make f = some (l, planE f) ∧ (planE f ≠ 0 → l = []) ∧ (planE f = 0 → FleetOk f ∧ Good f (startR f) l) := by
  unfold plan_Make planE
  rw [fstart_sp]
  by_cases hf : FleetOk f
  case neg => exact ⟨[], by simp [hf], fun _ => rfl, fun h => by simp [hf] at h⟩
  simp only [hf, if_true, Option.bind_some, not_true_eq_false, if_false]
  rw [if_neg (by simp), why_sp]
  simp only [Option.bind_some]
  cases hw : (whyP f).2 with
  | true => exact ⟨[], by simp, fun _ => rfl, fun h => by simp at h⟩
  | false =>
    have hsr : RightOk f (startR f) := start_right hf
    obtain ⟨l, h1, h2⟩ := from_good hsr (start_HA f) hw
    rw [h1]
    exact ⟨l, by simp, fun h => by simp at h, fun _ => ⟨trivial, h2⟩⟩

/-! The way of a rotation -/
def wayP (a b : api_Rotation) : Prop := (b.Known = a.Known ∨ b.Known = 3) ∧ (b.Valid = a.Valid ∨ b.Valid = 2 ∨ (a.Valid = 1 ∧ b.Valid = 3))
theorem way_refl (a : api_Rotation) : wayP a a := ⟨.inl rfl, .inl rfl⟩
theorem way_trans {a b c : api_Rotation} (h : wayP a b) (h2 : wayP b c) : wayP a c := by
  unfold wayP at h h2 ⊢; omega
theorem way_forward {f : api_Fleet} {a b : api_Rotation} (ha : RightOk f a) (hb : RightOk f b) (h : wayP a b) : forwardP f a b = true := by
  unfold forwardP
  rw [decide_eq_true ha, decide_eq_true hb]
  have hk := ha.2.1
  have hv := (bitsP_val ha.2.2.1).1
  obtain ⟨h1, h2⟩ := h
  have e1 : bAndNot .i64 a.Known b.Known = 0 := by
    rcases hk with k | k <;> rcases h1 with q | q <;> rw [q, k] <;> first | exact bn11 | exact bn13 | exact bn33
  rw [e1]
  simp only [Bool.true_and, beq_self_eq_true]
  rcases hv with k | k | k <;> rcases h2 with q | q | ⟨q, q'⟩ <;> first | (exfalso; omega) | (rw [k] at q; cases q; done) | skip
  all_goals first | (rw [q', k]; decide) | (rw [q, k]; decide)
theorem step_way {f : api_Fleet} {s : api_Rotation} {x : api_Step} (hr : RightOk f s) (h0 : (applyP f s x).2 = 0) : wayP s (applyP f s x).1 := by
  obtain ⟨_, r2, r3, r4⟩ := apply_right hr h0
  rw [r4]
  obtain ⟨h1, h2⟩ := next_known hr r3
  exact ⟨h1, by omega⟩
/-- the states of a safe run: each is right, on the way from the one ahead and from the first -/
def wayRun (f : api_Fleet) (s0 : api_Rotation) : api_Rotation → List api_Rotation → Prop
  | _, [] => True
  | s, x :: l => RightOk f x ∧ wayP s x ∧ wayP s0 x ∧ (HA f s0 → HA f x) ∧ wayRun f s0 x l
theorem run_way {f : api_Fleet} {s0 : api_Rotation} : ∀ (l : List api_Step) (s : api_Rotation), RightOk f s → wayP s0 s → (HA f s0 → HA f s) → safeRun f s l → wayRun f s0 s (runP f s l).1 := fun l => by
  induction l with
  | nil => intro s _ _ _ _; trivial
  | cons x l ih =>
    intro s hr hw ha hs
    have h0 := safe_possible hs.1
    have r1 := (apply_right hr h0).1
    have q1 := (safeRun_run l _ r1 hs.2).1
    have w1 := step_way hr h0
    have a1 : HA f s0 → HA f (applyP f s x).1 := fun h => safe_HA hr (ha h) hs.1
    rw [runP_eq, if_neg (not_not_intro h0), if_neg (not_not_intro q1)]
    exact ⟨r1, w1, way_trans hw w1, a1, ih _ r1 (way_trans hw w1) a1 hs.2⟩
theorem run_len {f : api_Fleet} {s : api_Rotation} {l : List api_Step} (hr : RightOk f s) (hs : safeRun f s l) : (runP f s l).1.length = l.length := (runP_right l s hr (safeRun_run l s hr hs).1).1
theorem forward_anti {f : api_Fleet} {a b : api_Rotation} (ha : RightOk f a) (hb : RightOk f b) (h1 : forwardP f a b = true) (h2 : forwardP f b a = true) : a.Known = b.Known ∧ a.Valid = b.Valid := by
  unfold forwardP at h1 h2
  rw [decide_eq_true ha, decide_eq_true hb] at h1 h2
  simp only [Bool.true_and] at h1 h2
  have hk := ha.2.1
  have hk2 := hb.2.1
  have hv := (bitsP_val ha.2.2.1).1
  have hv2 := (bitsP_val hb.2.2.1).1
  generalize a.Known = ka at *
  generalize b.Known = kb at *
  generalize a.Valid = va at *
  generalize b.Valid = vb at *
  clear ha hb
  rcases hk with rfl | rfl <;> rcases hk2 with rfl | rfl <;> rcases hv with rfl | rfl | rfl <;> rcases hv2 with rfl | rfl | rfl <;> first | exact ⟨rfl, rfl⟩ | (exact absurd h1 (by decide)) | (exact absurd h2 (by decide))

/-! FallbackEnds -/
theorem good_make {f : api_Fleet} {s : api_Rotation} (hr : RightOk f s) (ha : HA f s) (hw : (whyP f).2 = false) : makeE f s = 0 := by
  unfold makeE
  rw [if_neg (not_not_intro hr), hw, (hold_HA hr).2 ha]; rfl
/-! FallbackGoes -/
/-! FallbackNever -/
/-! FallbackExact -/

/-- the consumers of a pool, and its units -/
theorem pool_filter (f : api_Fleet) (p : Int) : f.Consumers.filter (fun c => c.Pool == p) = ((List.range f.Consumers.length).filter fun i => (f.Consumers.getD i default).Pool == p).map fun i => f.Consumers.getD i default := by
  have e : f.Consumers = (List.range f.Consumers.length).map fun i => f.Consumers.getD i default := by
    apply List.ext_getElem
    · simp
    · intro i h1 h2
      simp [List.getD, h1]
  conv => lhs; rw [e]
  rw [List.filter_map]
  rfl
theorem units_len {f : api_Fleet} (hf : FleetOk f) (p : Int) : (unitsP f p).length = (f.Consumers.filter fun c => c.Pool == p).length := by
  unfold unitsP
  rw [if_pos hf, pool_filter]
  simp
/-- fitting, said of the pool's consumers alone -/
def fitL (slots : Int) (cs : List api_Consumer) : Bool := if cs.length = 1 then ((cs.headD default).Live && ((cs.headD default).Dual || slots == 2)) else decide (1 < cs.length)
theorem fit_fitL {f : api_Fleet} (hf : FleetOk f) (p : Int) : fitP f p = fitL f.Slots (f.Consumers.filter fun c => c.Pool == p) := by
  unfold fitP fitL
  rw [units_len hf]
  by_cases h : (f.Consumers.filter fun c => c.Pool == p).length = 1
  · rw [if_pos h, if_pos h]
    have hc : consAt f ((unitsP f p).headD 0).toNat = (f.Consumers.filter fun c => c.Pool == p).headD default := by
      rw [pool_filter]
      unfold unitsP
      rw [if_pos hf]
      have hl : ((List.range f.Consumers.length).filter fun i => (f.Consumers.getD i default).Pool == p).length = 1 := by
        rw [pool_filter] at h; simpa using h
      obtain ⟨x, hx⟩ := List.length_eq_one_iff.1 hl
      rw [hx]
      simp [consAt]
    rw [hc]
  · rw [if_neg h, if_neg h]
/-- the first pool that does not fit -/
theorem why_first {f : api_Fleet} (h : (whyP f).2 = true) : (whyP f).1.Pool ∈ poolsP f ∧ fitP f (whyP f).1.Pool = false ∧ ∀ q, q ∈ poolsP f → q < (whyP f).1.Pool → fitP f q = true := by
  unfold whyP at h ⊢
  cases hf : (poolsP f).find? (fun p => !fitP f p) with
  | none => rw [hf] at h; cases h
  | some p =>
    simp only
    have h1 := List.find?_some hf
    refine ⟨List.mem_of_find?_eq_some hf, by simpa using h1, fun q hq hlt => ?_⟩
    obtain ⟨_, la, lb, e, hall⟩ := List.find?_eq_some_iff_append.1 hf
    have hs : (poolsP f).Pairwise (· < ·) := by unfold poolsP; exact range_sorted _ _
    rw [e] at hs hq
    rcases List.mem_append.1 hq with hm | hm
    · simpa using hall q hm
    · rcases List.mem_cons.1 hm with rfl | hm
      · omega
      · have := (List.pairwise_append.1 hs).2.1
        have := (List.pairwise_cons.1 this).1 q hm
        omega
/-! PlanHelps -/
theorem helps_more {f : api_Fleet} (hf : FleetOk f) (h7 : f.Consumers.length ≤ 7) {p : Int} (hp : p ∈ poolsP f) : fitP ⟨f.Slots, f.Consumers ++ [⟨p, false, false⟩]⟩ p = true := by
  obtain ⟨_, i, hi, e⟩ := mem_poolsP.1 hp
  have hpp := hf.2.2.2 i hi
  have hg : FleetOk ⟨f.Slots, f.Consumers ++ [⟨p, false, false⟩]⟩ := ⟨hf.1, by simp, by simp; omega, fun k hk => by
    simp only [List.getElem_append]
    split
    · exact hf.2.2.2 k ‹_›
    · simp only [List.getElem_singleton]
      unfold poolP at hpp ⊢
      rw [e] at hpp; exact hpp⟩
  rw [fit_fitL hg]
  have hm : f.Consumers[i] ∈ f.Consumers.filter (fun c => c.Pool == p) := List.mem_filter.2 ⟨List.getElem_mem hi, by simp [e]⟩
  have := List.length_pos_of_mem hm
  unfold fitL
  simp only [List.filter_append, List.length_append]
  have h1 : ([(⟨p, false, false⟩ : api_Consumer)].filter fun c => c.Pool == p).length = 1 := by simp
  rw [h1, if_neg (by omega)]
  exact decide_eq_true (by omega)
theorem helps_set {f : api_Fleet} (hf : FleetOk f) {i : Nat} (hi : i < f.Consumers.length) {c : api_Consumer} (hc : c.Pool = f.Consumers[i].Pool) (hl : f.Consumers[i].Live = true → c.Live = true) {p : Int} (h : fitP f p = true) : fitP ⟨2, f.Consumers.set i c⟩ p = true := by
  have hs : f.Consumers.map (·.Pool) = (f.Consumers.set i c).map (·.Pool) := by
    rw [List.map_set, hc]
    apply List.ext_getElem?
    intro j
    rw [List.getElem?_set]
    split
    · rename_i e; subst e; simp [hi]
    · rfl
  have hu := units_same (f := ⟨2, f.Consumers⟩) (g := ⟨2, f.Consumers.set i c⟩) rfl hs
  have hf2 : FleetOk ⟨2, f.Consumers⟩ := ⟨.inr rfl, hf.2⟩
  have hup : unitsP ⟨2, f.Consumers.set i c⟩ p = unitsP f p := by
    rw [← hu.2 p hf2]
    unfold unitsP
    rw [if_pos hf, if_pos hf2]
  unfold fitP at h ⊢
  rw [hup]
  by_cases h1 : (unitsP f p).length = 1
  · rw [if_pos h1] at h ⊢
    simp only [Bool.and_eq_true] at h ⊢
    generalize ((unitsP f p).headD 0).toNat = k at h ⊢
    have : (consAt ⟨2, f.Consumers.set i c⟩ k).Live = true := by
      have h0 := h.1
      unfold consAt at h0 ⊢
      by_cases e : k = i
      · rw [e] at h0 ⊢
        have e2 : (f.Consumers.set i c).getD i default = c := by simp [List.getD, hi]
        have e3 : f.Consumers.getD i default = f.Consumers[i] := by simp [List.getD, hi]
        simp only [e2]
        rw [e3] at h0
        exact hl h0
      · have e2 : (f.Consumers.set i c).getD k default = f.Consumers.getD k default := by simp [List.getD, List.getElem?_set, show ¬ i = k from fun q => e q.symm]
        simp only [e2]; exact h0
    exact ⟨this, by simp⟩
  · rw [if_neg h1] at h ⊢; exact h

def thereP (o : Int) : Bool := o != 1 && o != 4
def nextO (os : List Int) (t : List api_Attempt) : Int := os.getD t.length 0
def tryP (x : api_Step) (s n : api_Rotation) (os : List Int) : Nat → List api_Attempt → List api_Rotation → Bool × List api_Attempt × List api_Rotation
  | 0, t, st => (false, t, st)
  | k + 1, t, st => if thereP (nextO os t) = true then (true, t ++ [⟨x, nextO os t, thereP (nextO os t)⟩], (if nextO os t = 4 then st ++ [n] else st) ++ [n])
      else tryP x s n os k (t ++ [⟨x, nextO os t, thereP (nextO os t)⟩]) ((if nextO os t = 4 then st ++ [n] else st) ++ [s])
theorem tryP_eq {x : api_Step} {s n : api_Rotation} {os : List Int} {k : Nat} {t : List api_Attempt} {st : List api_Rotation} : tryP x s n os (k + 1) t st = if thereP (nextO os t) = true then (true, t ++ [⟨x, nextO os t, thereP (nextO os t)⟩], (if nextO os t = 4 then st ++ [n] else st) ++ [n])
      else tryP x s n os k (t ++ [⟨x, nextO os t, thereP (nextO os t)⟩]) ((if nextO os t = 4 then st ++ [n] else st) ++ [s]) := rfl
theorem tryP_len (x : api_Step) (s n : api_Rotation) (os : List Int) : ∀ (k : Nat) (t : List api_Attempt) (st : List api_Rotation), (tryP x s n os k t st).2.1.length ≤ t.length + k ∧ (tryP x s n os k t st).2.2.length ≤ st.length + 2 * k := fun k => by
  induction k with
  | zero => intro t st; exact ⟨Nat.le_refl _, Nat.le_refl _⟩
  | succ k ih =>
    intro t st
    rw [tryP_eq]
    have hst : (if nextO os t = 4 then st ++ [n] else st).length ≤ st.length + 1 := by split <;> simp
    split
    · simp only [List.length_append, List.length_singleton]; omega
    · have := ih (t ++ [⟨x, nextO os t, thereP (nextO os t)⟩]) ((if nextO os t = 4 then st ++ [n] else st) ++ [s])
      simp only [List.length_append, List.length_singleton] at this ⊢
      omega
theorem fcopy_sp {s : api_Rotation} (h8 : s.Units.length ≤ 1000) : fleet_Copy s = some s := by
  unfold fleet_Copy slices_Clone_api_Unit
  rw [ck_t (by omega)]; rfl
theorem look_sp {r : runner_runner} {s : api_Rotation} (h8 : s.Units.length ≤ 1000) (hs : r.states.length ≤ 100000) : runner_runner_look_o0_6_7 r s = some ⟨r.fleet, r.state, r.outcomes, r.tried, r.states ++ [s]⟩ := by
  unfold runner_runner_look_o0_6_7
  rw [fcopy_sp h8]
  simp only [Option.bind_some]
  rw [ck_t (by simp; omega)]; rfl
theorem next_sp (r : runner_runner) (ht : r.tried.length ≤ 100000) : runner_runner_next_o0_6_7 r = some (nextO r.outcomes r.tried, r) := by
  unfold runner_runner_next_o0_6_7 nextO
  by_cases h : r.tried.length < r.outcomes.length
  · rw [if_pos (by simp; omega), idx_lt h]
    simp [List.getD, h]
  · rw [if_neg (by simp; omega)]
    simp [List.getD, h]
theorem there_sp (o : Int) : runner_there o = some (thereP o) := rfl
abbrev SRn : Type := Int × (List api_Consumer) × Int × Int × (List api_Unit) × (List Int) × (List api_Attempt) × (List api_Rotation)
def packR (f : api_Fleet) (s : api_Rotation) (os : List Int) (t : List api_Attempt) (st : List api_Rotation) : SRn := (f.Slots, f.Consumers, s.Known, s.Valid, s.Units, os, t, st)
def tryE (f : api_Fleet) (s n : api_Rotation) (os : List Int) (r : Bool × List api_Attempt × List api_Rotation) : SRn ⊕ (Int × runner_runner) := if r.1 = true then .inr (0, ⟨f, n, os, r.2.1, r.2.2⟩) else .inl (packR f s os r.2.1 r.2.2)
theorem try_loop {x : api_Step} {f : api_Fleet} {s n : api_Rotation} (hs : s.Units.length ≤ 1000) (hn : n.Units.length ≤ 1000) {os : List Int} {e : Int} : ∀ (k j : Nat) (t : List api_Attempt) (st : List api_Rotation), j + k = 6 → t.length ≤ 50000 + j → st.length ≤ 50000 + 2 * j →
    iter (runner_runner_step_o0_6_7_l0 x (n, e)) ((j : Int), packR f s os t st) = some (tryE f s n os (tryP x s n os k t st)) := fun k => by
  induction k with
  | zero =>
    intro j t st h _ _
    have : j = 6 := by omega
    subst this
    refine iter_out ?_
    unfold runner_runner_step_o0_6_7_l0
    rw [if_neg (by simp)]; rfl
  | succ k ih =>
    intro j t st h h1 h2
    have hj : j < 6 := by omega
    rw [tryP_eq]
    have hA : runner_runner_step_o0_6_7_l0 x (n, e) ((j : Int), packR f s os t st) = runner_runner_step_o0_6_7_j1 (nextO os t, ⟨f, s, os, t, st⟩) (n, e) ((j : Int), packR f s os t st) (f.Slots, f.Consumers, s.Known, s.Valid, s.Units, os, (if nextO os t = 4 then st ++ [n] else st), t ++ [⟨x, nextO os t, thereP (nextO os t)⟩]) := by
      conv => lhs; unfold runner_runner_step_o0_6_7_l0
      rw [if_pos (by simp; omega)]
      simp only [packR]
      rw [next_sp _ (by simp only; omega)]
      simp only [Option.bind_some, there_sp]
      rw [ck_t (by simp; omega)]
      simp only [Option.bind_some]
      by_cases h4 : nextO os t = 4
      · rw [if_pos (by simpa using h4), look_sp hn (by simp only; omega), if_pos h4]; rfl
      · rw [if_neg (by simpa using h4), if_neg h4]
    have hB : (if nextO os t = 4 then st ++ [n] else st).length ≤ st.length + 1 := by split <;> simp
    by_cases ht : thereP (nextO os t) = true
    · rw [if_pos ht]
      refine iter_out ?_
      rw [hA]
      unfold runner_runner_step_o0_6_7_j1
      simp only [there_sp, Option.bind_some]
      rw [if_pos ht, look_sp hn (by simp only; omega)]; rfl
    · rw [if_neg ht]
      have hgo : runner_runner_step_o0_6_7_l0 x (n, e) ((j : Int), packR f s os t st) = some (.go (((j + 1 : Nat) : Int), packR f s os (t ++ [⟨x, nextO os t, thereP (nextO os t)⟩]) ((if nextO os t = 4 then st ++ [n] else st) ++ [s]))) := by
        rw [hA]
        unfold runner_runner_step_o0_6_7_j1
        simp only [there_sp, Option.bind_some]
        rw [if_neg ht, look_sp hs (by simp only; omega)]
        simp only [Option.bind_some]
        rw [w64 (by omega) (by omega)]; rfl
      rw [iter_go hgo]
      exact ih (j + 1) _ _ (by omega) (by simp; omega) (by simp; omega)
theorem step_sp {x : api_Step} {f : api_Fleet} {s : api_Rotation} (hr : RightOk f s) {os : List Int} {t : List api_Attempt} {st : List api_Rotation} (ht : t.length ≤ 50000) (hst : st.length ≤ 50000) :
    runner_runner_step_o0_6_7 ⟨f, s, os, t, st⟩ x = some (if (applyP f s x).2 ≠ 0 then ((applyP f s x).2, ⟨f, s, os, t, st⟩) else
      if (tryP x s (applyP f s x).1 os 6 t st).1 = true then (0, ⟨f, (applyP f s x).1, os, (tryP x s (applyP f s x).1 os 6 t st).2.1, (tryP x s (applyP f s x).1 os 6 t st).2.2⟩)
      else (40, ⟨f, s, os, (tryP x s (applyP f s x).1 os 6 t st).2.1, (tryP x s (applyP f s x).1 os 6 t st).2.2⟩)) := by
  unfold runner_runner_step_o0_6_7
  simp only [apply_sp, Option.bind_some]
  by_cases h0 : (applyP f s x).2 = 0
  · rw [if_neg (by simpa using h0), if_neg (not_not_intro h0)]
    have hn := (apply_right hr h0).1.len
    have l8 := hr.len
    have := try_loop (x := x) (f := f) (s := s) (n := (applyP f s x).1) (by omega) (by omega) (os := os) (e := (applyP f s x).2) 6 0 t st (by omega) (by omega) (by omega)
    have e1 : iter (runner_runner_step_o0_6_7_l0 x (applyP f s x)) (0, f.Slots, f.Consumers, s.Known, s.Valid, s.Units, os, t, st) = some (tryE f s (applyP f s x).1 os (tryP x s (applyP f s x).1 os 6 t st)) := this
    rw [e1]
    simp only [Option.bind_some, tryE]
    by_cases h1 : (tryP x s (applyP f s x).1 os 6 t st).1 = true
    · rw [if_pos h1, if_pos h1]
    · rw [if_neg h1, if_neg h1]; rfl
  · rw [if_pos (by simpa using h0), if_pos h0]

/-! Whole runs -/
def runT (f : api_Fleet) (os : List Int) : List api_Step → api_Rotation → List api_Attempt → List api_Rotation → (api_Rotation × List api_Attempt × List api_Rotation) × Int
  | [], s, t, st => ((s, t, st), 0)
  | x :: l, s, t, st => if (applyP f s x).2 ≠ 0 then ((s, t, st), (applyP f s x).2) else
      if (tryP x s (applyP f s x).1 os 6 t st).1 = true then runT f os l (applyP f s x).1 (tryP x s (applyP f s x).1 os 6 t st).2.1 (tryP x s (applyP f s x).1 os 6 t st).2.2
      else ((s, (tryP x s (applyP f s x).1 os 6 t st).2.1, (tryP x s (applyP f s x).1 os 6 t st).2.2), 40)
theorem runT_eq {f : api_Fleet} {os : List Int} {x : api_Step} {l : List api_Step} {s : api_Rotation} {t : List api_Attempt} {st : List api_Rotation} : runT f os (x :: l) s t st = if (applyP f s x).2 ≠ 0 then ((s, t, st), (applyP f s x).2) else
      if (tryP x s (applyP f s x).1 os 6 t st).1 = true then runT f os l (applyP f s x).1 (tryP x s (applyP f s x).1 os 6 t st).2.1 (tryP x s (applyP f s x).1 os 6 t st).2.2
      else ((s, (tryP x s (applyP f s x).1 os 6 t st).2.1, (tryP x s (applyP f s x).1 os 6 t st).2.2), 40) := rfl
def runTE (f : api_Fleet) (os : List Int) (r : (api_Rotation × List api_Attempt × List api_Rotation) × Int) : SRn ⊕ ((Option runner_runner) × Int) := if r.2 = 0 then .inl (packR f r.1.1 os r.1.2.1 r.1.2.2) else .inr (some ⟨f, r.1.1, os, r.1.2.1, r.1.2.2⟩, r.2)
theorem runT_loop {f : api_Fleet} {os : List Int} {l : List api_Step} (hl : l.length ≤ 1000) : ∀ (m i : Nat) (s : api_Rotation) (t : List api_Attempt) (st : List api_Rotation), i + m = l.length → RightOk f s → t.length ≤ 6 * i → st.length ≤ 12 * i + 1 →
    iter (runner_run_l0 l) ((i : Int), packR f s os t st) = some (runTE f os (runT f os (l.drop i) s t st)) := fun m => by
  induction m with
  | zero =>
    intro i s t st h _ _ _
    have : i = l.length := by omega
    subst this
    rw [List.drop_length]
    refine iter_out ?_
    unfold runner_run_l0
    rw [if_neg (by simp)]; rfl
  | succ m ih =>
    intro i s t st h hr h1 h2
    have hi : i < l.length := by omega
    rw [List.drop_eq_getElem_cons hi, runT_eq]
    have hA : runner_run_l0 l ((i : Int), packR f s os t st) = (runner_runner_step_o0_6_7 ⟨f, s, os, t, st⟩ l[i]).bind fun y7 => if (y7.1 != 0) = true then some (.out (.inr ((some y7.2), y7.1)))
        else some (.go (IntKind.i64.wrap ((i : Int) + 1), y7.2.fleet.Slots, y7.2.fleet.Consumers, y7.2.state.Known, y7.2.state.Valid, y7.2.state.Units, y7.2.outcomes, y7.2.tried, y7.2.states)) := by
      unfold runner_run_l0
      rw [if_pos (by simp; omega), idx_lt hi]; rfl
    rw [step_sp hr (by omega) (by omega)] at hA
    simp only [Option.bind_some] at hA
    obtain ⟨q1, q2⟩ := tryP_len l[i] s (applyP f s l[i]).1 os 6 t st
    by_cases h0 : (applyP f s l[i]).2 = 0
    · rw [if_neg (not_not_intro h0)] at hA ⊢
      by_cases h3 : (tryP l[i] s (applyP f s l[i]).1 os 6 t st).1 = true
      · rw [if_pos h3] at hA ⊢
        simp only at hA
        rw [if_neg (by simp), w64 (by omega) (by omega)] at hA
        rw [iter_go hA]
        exact ih (i + 1) _ _ _ (by omega) (apply_right hr h0).1 (by omega) (by omega)
      · rw [if_neg h3] at hA ⊢
        simp only at hA
        rw [if_pos (by simp)] at hA
        refine (iter_out hA).trans ?_
        simp [runTE]
    · rw [if_pos h0] at hA ⊢
      simp only at hA
      rw [if_pos (by simpa using h0)] at hA
      refine (iter_out hA).trans ?_
      simp [runTE, h0]
def outOk (os : List Int) : Prop := ∀ o ∈ os, 0 ≤ o ∧ o ≤ 4
theorem outs_sp {os : List Int} (ho : outOk os) (hl : os.length ≤ 100000) : slices_ContainsFunc_int_at_runner_check_1 os = some false := by
  unfold slices_ContainsFunc_int_at_runner_check_1 slices_IndexFunc_int_at_runner_check_1
  have : iter (slices_IndexFunc_int_at_runner_check_1_l0 os) 0 = some (.inl ()) := by
    have := iter_find (body := slices_IndexFunc_int_at_runner_check_1_l0 os) os (fun _ => false) (Sum.inl ()) (Sum.inl ()) (fun i hi => ?_) ?_
    · rw [this]; simp
    · unfold slices_IndexFunc_int_at_runner_check_1_l0
      have := ho _ (List.getElem_mem hi)
      rw [if_pos (by simp; omega), idx_lt hi, w64 (by omega) (by omega)]
      simp only [Option.bind_some, runner_check_1, runner_outcome]
      rw [if_neg (by simp; omega), if_neg (by simp)]; rfl
    · unfold slices_IndexFunc_int_at_runner_check_1_l0
      rw [if_neg (by simp)]
  rw [this]
  simp
theorem rrun_sp {f : api_Fleet} {s : api_Rotation} (hr : RightOk f s) {l : List api_Step} (hl : l.length ≤ 120) {os : List Int} (ho : outOk os) (hos : os.length ≤ 100000) :
    runner_run f s l os = some (some ⟨f, (runT f os l s [] [s]).1.1, os, (runT f os l s [] [s]).1.2.1, (runT f os l s [] [s]).1.2.2⟩, (runT f os l s [] [s]).2) := by
  unfold runner_run runner_check
  rw [right_sp, decide_eq_true hr]
  simp only [Option.bind_some]
  rw [if_neg (by simp), if_neg (by simp; omega), outs_sp ho hos]
  simp only [Option.bind_some]
  rw [if_neg (by simp)]
  simp only [Option.bind_some]
  have l8 := hr.len
  rw [if_neg (by simp), fcopy_sp (by omega)]
  simp only [Option.bind_some]
  rw [look_sp (by omega) (by simp)]
  simp only [Option.bind_some, List.nil_append]
  have := runT_loop (f := f) (os := os) (l := l) (by omega) l.length 0 s [] [s] (by omega) hr (by simp) (by simp)
  rw [List.drop_zero] at this
  have e1 : iter (runner_run_l0 l) (0, f.Slots, f.Consumers, s.Known, s.Valid, s.Units, os, [], [s]) = some (runTE f os (runT f os l s [] [s])) := this
  rw [e1]
  simp only [Option.bind_some, runTE]
  by_cases h : (runT f os l s [] [s]).2 = 0
  · rw [if_pos h, h]; rfl
  · rw [if_neg h]
theorem Run_sp {f : api_Fleet} {s : api_Rotation} (hr : RightOk f s) {l : List api_Step} (hl : l.length ≤ 120) {os : List Int} (ho : outOk os) (hos : os.length ≤ 100000) :
    runner_Run f s l os = some ((runT f os l s [] [s]).1.1, (runT f os l s [] [s]).1.2.1, (runT f os l s [] [s]).2) := by
  unfold runner_Run
  rw [rrun_sp hr hl ho hos]; rfl
theorem States_sp {f : api_Fleet} {s : api_Rotation} (hr : RightOk f s) {l : List api_Step} (hl : l.length ≤ 120) {os : List Int} (ho : outOk os) (hos : os.length ≤ 100000) :
    runner_States f s l os = some ((runT f os l s [] [s]).1.2.2, (runT f os l s [] [s]).2) := by
  unfold runner_States
  rw [rrun_sp hr hl ho hos]; rfl

/-! awake -/
/-! Outcomes that do the step -/
def muteOk (os : List Int) : Prop := ∀ o ∈ os, o = 0 ∨ o = 2 ∨ o = 3
theorem muteNil : muteOk [] := fun o h => by cases h
theorem mute_next {os : List Int} (h : muteOk os) (t : List api_Attempt) : nextO os t = 0 ∨ nextO os t = 2 ∨ nextO os t = 3 := by
  unfold nextO
  by_cases hl : t.length < os.length
  · have : os.getD t.length 0 = os[t.length] := by simp [List.getD, hl]
    rw [this]; exact h _ (List.getElem_mem hl)
  · left; simp [List.getD, hl]
theorem mute_try {os : List Int} (h : muteOk os) {x : api_Step} {s n : api_Rotation} {k : Nat} {t : List api_Attempt} {st : List api_Rotation} : tryP x s n os (k + 1) t st = (true, t ++ [⟨x, nextO os t, true⟩], st ++ [n]) := by
  rw [tryP_eq]
  have hn := mute_next h t
  have h1 : thereP (nextO os t) = true := by rcases hn with e | e | e <;> rw [e] <;> rfl
  have h2 : ¬ nextO os t = 4 := by omega
  rw [h1, if_pos rfl, if_neg h2]
theorem mute_run {f : api_Fleet} {os : List Int} (h : muteOk os) : ∀ (l : List api_Step) (s : api_Rotation) (t : List api_Attempt) (st : List api_Rotation), safeRun f s l →
    ∃ t', runT f os l s t st = ((endS f s l, t', st ++ (runP f s l).1), 0) ∧ t'.length = t.length + l.length := fun l => by
  induction l with
  | nil => intro s t st _; exact ⟨t, by simp [runT, endS, runP], by simp⟩
  | cons x l ih =>
    intro s t st hs
    have h0 := safe_possible hs.1
    obtain ⟨t', e1, e2⟩ := ih (applyP f s x).1 (t ++ [⟨x, nextO os t, true⟩]) (st ++ [(applyP f s x).1]) hs.2
    refine ⟨t', ?_, by rw [e2]; simp; omega⟩
    rw [runT_eq, if_neg (not_not_intro h0), mute_try h, if_pos rfl]
    simp only
    rw [e1]
    have hr0 : RightOk f s := by
      apply Decidable.byContradiction
      intro hr
      have := safe_not hr x
      rw [hs.1] at this; cases this
    have h1 := (safeRun_run l _ (apply_right hr0 h0).1 hs.2).1
    rw [runP_eq, if_neg (not_not_intro h0), if_neg (not_not_intro h1)]
    simp [endS]
theorem pick_ex {m : make_Tape} (h : TOk m) {l : List Int} (h0 : 0 < l.length) (hl : l.length ≤ 100) : ∃ v m', make_Pick m l = some (v, m') ∧ v ∈ l ∧ TOk m' := by
  unfold make_Pick
  obtain ⟨v, m', e, v1, v2, t⟩ := next_ex h (n := (l.length : Int)) (by omega)
  rw [e]
  simp only [Option.bind_some]
  rw [idx_toNat v1 (by omega)]
  exact ⟨_, _, rfl, List.getElem_mem _, t⟩
abbrev SO : Type := Int × (List Int) × Int × (List Int)
theorem mute_out {os : List Int} (h : muteOk os) : outOk os := fun o ho => by have := h o ho; omega

def chkR (l : List api_Step) : List api_Attempt → Nat → Nat → Nat → Nat → Prop
  | [], i, c, i', c' => i = i' ∧ c = c'
  | a :: r, i, c, i', c' => l[i]? = some a.Step ∧ c + 1 ≤ 6 ∧ (if a.There = true then chkR l r (i + 1) 0 i' c' else chkR l r i (c + 1) i' c')
theorem chk_append {l : List api_Step} {b : List api_Attempt} {i1 c1 i2 c2 : Nat} : ∀ (a : List api_Attempt) (i c : Nat), chkR l a i c i1 c1 → chkR l b i1 c1 i2 c2 → chkR l (a ++ b) i c i2 c2 := fun a => by
  induction a with
  | nil => intro i c h1 h2; obtain ⟨rfl, rfl⟩ := h1; exact h2
  | cons x a ih =>
    intro i c h1 h2
    obtain ⟨e1, e2, e3⟩ := h1
    refine ⟨e1, e2, ?_⟩
    by_cases ht : x.There = true
    · rw [if_pos ht] at e3 ⊢; exact ih _ _ e3 h2
    · rw [if_neg ht] at e3 ⊢; exact ih _ _ e3 h2
theorem try_chk {l : List api_Step} {x : api_Step} {s n : api_Rotation} {os : List Int} {i : Nat} (hx : l[i]? = some x) : ∀ (k c : Nat) (t : List api_Attempt) (st : List api_Rotation), c + k = 6 →
    ∃ blk, (tryP x s n os k t st).2.1 = t ++ blk ∧ ((tryP x s n os k t st).1 = true → chkR l blk i c (i + 1) 0) ∧ ((tryP x s n os k t st).1 ≠ true → chkR l blk i c i 6) := fun k => by
  induction k with
  | zero =>
    intro c t st h
    refine ⟨[], by simp [tryP], ?_, fun _ => ⟨rfl, by omega⟩⟩
    intro h1
    simp [tryP] at h1
  | succ k ih =>
    intro c t st h
    rw [tryP_eq]
    by_cases ht : thereP (nextO os t) = true
    · rw [if_pos ht]
      refine ⟨_, rfl, fun _ => ⟨hx, by omega, ?_⟩, fun h => absurd rfl h⟩
      rw [if_pos ht]; exact ⟨rfl, rfl⟩
    · rw [if_neg ht]
      obtain ⟨blk, e1, e2, e3⟩ := ih (c + 1) (t ++ [⟨x, nextO os t, thereP (nextO os t)⟩]) ((if nextO os t = 4 then st ++ [n] else st) ++ [s]) (by omega)
      refine ⟨⟨x, nextO os t, thereP (nextO os t)⟩ :: blk, by rw [e1]; simp, fun h => ⟨hx, by omega, ?_⟩, fun h => ⟨hx, by omega, ?_⟩⟩
      · rw [if_neg ht]; exact e2 h
      · rw [if_neg ht]; exact e3 h
theorem run_chk {f : api_Fleet} {os : List Int} {l : List api_Step} : ∀ (m i : Nat) (s : api_Rotation) (t : List api_Attempt) (st : List api_Rotation), i + m = l.length → safeRun f s (l.drop i) →
    ∃ blk, (runT f os (l.drop i) s t st).1.2.1 = t ++ blk ∧ (((runT f os (l.drop i) s t st).2 = 0 ∧ chkR l blk i 0 l.length 0) ∨ ((runT f os (l.drop i) s t st).2 = 40 ∧ ∃ i', chkR l blk i 0 i' 6)) := fun m => by
  induction m with
  | zero =>
    intro i s t st h hs
    have : i = l.length := by omega
    subst this
    rw [List.drop_length]
    exact ⟨[], by simp [runT], .inl ⟨rfl, rfl, rfl⟩⟩
  | succ m ih =>
    intro i s t st h hs
    have hi : i < l.length := by omega
    rw [List.drop_eq_getElem_cons hi] at hs ⊢
    have h0 := safe_possible hs.1
    rw [runT_eq, if_neg (not_not_intro h0)]
    obtain ⟨b1, e1, e2, e3⟩ := try_chk (l := l) (x := l[i]) (s := s) (n := (applyP f s l[i]).1) (os := os) (i := i) (List.getElem?_eq_getElem hi) 6 0 t st rfl
    by_cases ht : (tryP l[i] s (applyP f s l[i]).1 os 6 t st).1 = true
    · rw [if_pos ht]
      obtain ⟨b2, e4, e5⟩ := ih (i + 1) (applyP f s l[i]).1 (tryP l[i] s (applyP f s l[i]).1 os 6 t st).2.1 (tryP l[i] s (applyP f s l[i]).1 os 6 t st).2.2 (by omega) hs.2
      refine ⟨b1 ++ b2, by rw [e4, e1, List.append_assoc], ?_⟩
      rcases e5 with ⟨e5, e6⟩ | ⟨e5, i', e6⟩
      · exact .inl ⟨e5, chk_append _ _ _ (e2 ht) e6⟩
      · exact .inr ⟨e5, i', chk_append _ _ _ (e2 ht) e6⟩
    · rw [if_neg ht]
      exact ⟨b1, e1, .inr ⟨rfl, i, e3 ht⟩⟩
theorem outcomes_ex {m : make_Tape} (h : TOk m) {n : Int} (h0 : 0 ≤ n) (hn : n ≤ 1000) : ∃ os m', make_Outcomes m n = some (os, m') ∧ outOk os ∧ os.length ≤ 1000 ∧ TOk m' := by
  unfold make_Outcomes
  rw [w64 (by omega) (by omega)]
  obtain ⟨v, m1, e1, v1, v2, t1⟩ := next_ex h (n := n + 1) (by omega)
  rw [e1]
  simp only [Option.bind_some]
  have key : ∃ e, iter make_Outcomes_l0 (v, m1.L, m1.at_, []) = some e ∧ (TOk ⟨e.1, e.2.1⟩ ∧ outOk e.2.2 ∧ e.2.2.length ≤ 1000) := by
    refine iter_ex (body := make_Outcomes_l0) (fun q : SO => 0 ≤ q.1 ∧ q.1 ≤ 1000 ∧ TOk ⟨q.2.1, q.2.2.1⟩ ∧ outOk q.2.2.2 ∧ (q.2.2.2.length : Int) + q.1 ≤ 1000) (fun q => q.1.toNat) _ ?_ ⟨by simp only; omega, by simp only; omega, t1, mute_out muteNil, by simp; omega⟩
    rintro ⟨j, L, at_, os⟩ ⟨g1, g0, g2, g3, g4⟩
    simp only at g1 g0 g2 g3 g4 ⊢
    unfold make_Outcomes_l0
    by_cases hj : 0 < j
    · left
      simp only
      obtain ⟨v, m2, e2, v1, t2⟩ := pick_ex g2 (l := [0, 0, 1, 2, 3, 4, 0]) (by simp) (by simp)
      rw [if_pos (by simpa using hj), e2]
      simp only [Option.bind_some]
      rw [ck_t (by simp; omega), w64 (by omega) (by omega)]
      refine ⟨_, rfl, ⟨by simp only; omega, by simp only; omega, t2, fun o ho => ?_, by simp; omega⟩, by simp; omega⟩
      rcases List.mem_append.1 ho with ho | ho
      · exact g3 o ho
      · rw [List.mem_singleton] at ho; subst ho; simp at v1; omega
    · right
      simp only
      rw [if_neg (by simpa using hj)]
      exact ⟨_, rfl, g2, g3, by simp only; omega⟩
  obtain ⟨e, he, t, ho, hl⟩ := key
  rw [he]
  exact ⟨_, _, rfl, ho, hl, t⟩
theorem runT_len {f : api_Fleet} {os : List Int} : ∀ (l : List api_Step) (s : api_Rotation) (t : List api_Attempt) (st : List api_Rotation), (runT f os l s t st).1.2.1.length ≤ t.length + 6 * l.length ∧ (runT f os l s t st).1.2.2.length ≤ st.length + 12 * l.length := fun l => by
  induction l with
  | nil => intro s t st; exact ⟨Nat.le_refl _, Nat.le_refl _⟩
  | cons x l ih =>
    intro s t st
    rw [runT_eq]
    have hq := tryP_len x s (applyP f s x).1 os 6 t st
    by_cases h0 : (applyP f s x).2 = 0
    · rw [if_neg (not_not_intro h0)]
      by_cases ht : (tryP x s (applyP f s x).1 os 6 t st).1 = true
      · rw [if_pos ht]
        have := ih (applyP f s x).1 (tryP x s (applyP f s x).1 os 6 t st).2.1 (tryP x s (applyP f s x).1 os 6 t st).2.2
        simp only [List.length_cons]; omega
      · rw [if_neg ht]; simp only [List.length_cons]; omega
    · rw [if_pos h0]; simp only [List.length_cons]; omega

theorem try_more {x : api_Step} {s n : api_Rotation} {os : List Int} : ∀ (k : Nat) (t : List api_Attempt) (st : List api_Rotation), st.getLast? = some s →
    ∃ m1, (tryP x s n os k t st).2.2 = st ++ m1 ∧ (∀ r ∈ m1, r = s ∨ r = n) ∧ (st ++ m1).getLast? = some (if (tryP x s n os k t st).1 = true then n else s) ∧ ((tryP x s n os k t st).1 = true → t.length + 1 ≤ (tryP x s n os k t st).2.1.length) := fun k => by
  induction k with
  | zero =>
    intro t st h
    refine ⟨[], by simp [tryP], by simp, by simp [tryP, h], ?_⟩
    intro h1
    simp [tryP] at h1
  | succ k ih =>
    intro t st h
    rw [tryP_eq]
    obtain ⟨m0, hm0, hm1⟩ : ∃ m0, (if nextO os t = 4 then st ++ [n] else st) = st ++ m0 ∧ ∀ r ∈ m0, r = n := by
      by_cases h4 : nextO os t = 4
      · exact ⟨[n], by rw [if_pos h4], by simp⟩
      · exact ⟨[], by rw [if_neg h4]; simp, by simp⟩
    rw [hm0]
    by_cases ht : thereP (nextO os t) = true
    · rw [if_pos ht]
      refine ⟨m0 ++ [n], by simp, fun r hr => ?_, ?_, fun _ => by simp⟩
      · rcases List.mem_append.1 hr with hr | hr
        · exact .inr (hm1 r hr)
        · rw [List.mem_singleton] at hr; exact .inr hr
      · rw [← List.append_assoc, List.getLast?_concat, if_pos rfl]
    · rw [if_neg ht]
      obtain ⟨m1, e1, e2, e3, e4⟩ := ih (t ++ [⟨x, nextO os t, thereP (nextO os t)⟩]) (st ++ m0 ++ [s]) (by rw [List.getLast?_concat])
      refine ⟨m0 ++ [s] ++ m1, by rw [e1]; simp, fun r hr => ?_, ?_, fun h1 => ?_⟩
      · rcases List.mem_append.1 hr with hr | hr
        · rcases List.mem_append.1 hr with hr | hr
          · exact .inr (hm1 r hr)
          · rw [List.mem_singleton] at hr; exact .inl hr
        · exact e2 r hr
      · rw [← e3]; simp
      · have := e4 h1
        simp only [List.length_append, List.length_singleton] at this; omega
theorem run_states {f : api_Fleet} {os : List Int} : ∀ (l : List api_Step) (s : api_Rotation) (t : List api_Attempt) (st : List api_Rotation), RightOk f s → safeRun f s l → st.getLast? = some s →
    ∃ more, (runT f os l s t st).1.2.2 = st ++ more ∧ (∀ r ∈ more, r = s ∨ r ∈ (runP f s l).1) ∧ (st ++ more).getLast? = some (runT f os l s t st).1.1 ∧
      ((runT f os l s t st).2 = 0 ∨ (runT f os l s t st).2 = 40) ∧ ((runT f os l s t st).2 = 0 → (runT f os l s t st).1.1 = endS f s l ∧ t.length + l.length ≤ (runT f os l s t st).1.2.1.length) := fun l => by
  induction l with
  | nil => intro s t st _ _ h; exact ⟨[], by simp [runT], by simp, by simpa [runT] using h, .inl rfl, fun _ => ⟨rfl, by simp [runT]⟩⟩
  | cons x l ih =>
    intro s t st hr hs h
    have h0 := safe_possible hs.1
    have r1 := (apply_right hr h0).1
    have q1 := (safeRun_run l _ r1 hs.2).1
    have eP : (runP f s (x :: l)).1 = (applyP f s x).1 :: (runP f (applyP f s x).1 l).1 := by rw [runP_eq, if_neg (not_not_intro h0), if_neg (not_not_intro q1)]
    rw [runT_eq, if_neg (not_not_intro h0), eP]
    obtain ⟨m1, e1, e2, e3, e4⟩ := try_more (x := x) (s := s) (n := (applyP f s x).1) (os := os) 6 t st h
    by_cases ht : (tryP x s (applyP f s x).1 os 6 t st).1 = true
    · rw [if_pos ht]
      rw [if_pos ht, ← e1] at e3
      obtain ⟨m2, g1, g2, g3, g4, g5⟩ := ih (applyP f s x).1 (tryP x s (applyP f s x).1 os 6 t st).2.1 (tryP x s (applyP f s x).1 os 6 t st).2.2 r1 hs.2 e3
      refine ⟨m1 ++ m2, by rw [g1, e1, List.append_assoc], fun r hm => ?_, ?_, g4, fun he => ⟨(g5 he).1, ?_⟩⟩
      · rcases List.mem_append.1 hm with hm | hm
        · rcases e2 r hm with h1 | h1
          · exact .inl h1
          · exact .inr (h1 ▸ List.mem_cons_self ..)
        · rcases g2 r hm with h1 | h1
          · exact .inr (h1 ▸ List.mem_cons_self ..)
          · exact .inr (List.mem_cons_of_mem _ h1)
      · rw [← List.append_assoc, ← e1]; exact g3
      · have := (g5 he).2
        have := e4 ht
        simp only [List.length_cons]; omega
    · rw [if_neg ht]
      rw [if_neg ht] at e3
      refine ⟨m1, e1, fun r hm => ?_, e3, .inr rfl, fun he => by simp at he⟩
      rcases e2 r hm with h1 | h1
      · exact .inl h1
      · exact .inr (h1 ▸ List.mem_cons_self ..)
theorem sorted_sub_len : ∀ (b a : List Int), a.Pairwise (· < ·) → b.Pairwise (· < ·) → (∀ x ∈ a, x ∈ b) → a.length ≤ b.length := fun b => by
  induction b with
  | nil =>
    intro a _ _ h
    cases a with
    | nil => simp
    | cons x a => exact absurd (h x (List.mem_cons_self ..)) (by simp)
  | cons y b ih =>
    intro a ha hb h
    rw [List.pairwise_cons] at hb
    cases a with
    | nil => simp
    | cons x a =>
      rw [List.pairwise_cons] at ha
      by_cases e : x = y
      · subst e
        have := ih a ha.2 hb.2 fun z hz => by
          rcases List.mem_cons.1 (h z (List.mem_cons_of_mem _ hz)) with e | h1
          · subst e; exact absurd (ha.1 z hz) (by omega)
          · exact h1
        simp only [List.length_cons]; omega
      · have hx : x ∈ b := by
          rcases List.mem_cons.1 (h x (List.mem_cons_self ..)) with e1 | h1
          · exact absurd e1 e
          · exact h1
        have := ih (x :: a) (List.pairwise_cons.2 ha) hb.2 fun z hz => by
          rcases List.mem_cons.1 hz with e1 | hz
          · subst e1; exact hx
          · rcases List.mem_cons.1 (h z (List.mem_cons_of_mem _ hz)) with e1 | h1
            · subst e1
              have := ha.1 z hz; have := hb.1 x hx; omega
            · exact h1
        simp only [List.length_cons] at this ⊢; omega
theorem idx_last {α : Type} [Inhabited α] {l : List α} {x : α} (h : l.getLast? = some x) (hl : l.length ≤ 100000) : 0 < l.length ∧ IntKind.i64.wrap ((l.length : Int) - 1) = (l.length : Int) - 1 ∧ idx l ((l.length : Int) - 1) = some x := by
  have h0 : 0 < l.length := by
    cases l with
    | nil => cases h
    | cons a l => simp
  refine ⟨h0, w64 (by omega) (by omega), ?_⟩
  rw [idx_toNat (by omega) (by omega)]
  rw [List.getLast?_eq_getElem?] at h
  have e : ((l.length : Int) - 1).toNat = l.length - 1 := by omega
  rw [List.getElem?_eq_getElem (by omega)] at h
  simp only [e]
  exact h

def attOk (a : api_Attempt) : Prop := 0 ≤ a.Outcome ∧ a.Outcome ≤ 4 ∧ a.There = thereP a.Outcome
theorem nextO_ok {os : List Int} (ho : outOk os) (t : List api_Attempt) : 0 ≤ nextO os t ∧ nextO os t ≤ 4 := by
  unfold nextO
  by_cases hl : t.length < os.length
  · have : os.getD t.length 0 = os[t.length] := by simp [List.getD, hl]
    rw [this]; exact ho _ (List.getElem_mem hl)
  · have : os.getD t.length 0 = 0 := by simp [List.getD, hl]
    rw [this]; omega
theorem try_att {x : api_Step} {s n : api_Rotation} {os : List Int} (ho : outOk os) : ∀ (k : Nat) (t : List api_Attempt) (st : List api_Rotation), (∀ a ∈ t, attOk a) → ∀ a ∈ (tryP x s n os k t st).2.1, attOk a := fun k => by
  induction k with
  | zero => intro t st h; exact h
  | succ k ih =>
    intro t st h
    have h2 : ∀ a ∈ t ++ [⟨x, nextO os t, thereP (nextO os t)⟩], attOk a := fun a ha => by
      rcases List.mem_append.1 ha with ha | ha
      · exact h a ha
      · rw [List.mem_singleton] at ha; subst ha; exact ⟨(nextO_ok ho t).1, (nextO_ok ho t).2, rfl⟩
    rw [tryP_eq]
    by_cases ht : thereP (nextO os t) = true
    · rw [if_pos ht]; exact h2
    · rw [if_neg ht]; exact ih _ _ h2
theorem run_att {f : api_Fleet} {os : List Int} (ho : outOk os) : ∀ (l : List api_Step) (s : api_Rotation) (t : List api_Attempt) (st : List api_Rotation), (∀ a ∈ t, attOk a) → ∀ a ∈ (runT f os l s t st).1.2.1, attOk a := fun l => by
  induction l with
  | nil => intro s t st h; exact h
  | cons x l ih =>
    intro s t st h
    rw [runT_eq]
    by_cases h0 : (applyP f s x).2 = 0
    · rw [if_neg (not_not_intro h0)]
      by_cases ht : (tryP x s (applyP f s x).1 os 6 t st).1 = true
      · rw [if_pos ht]; exact ih _ _ _ (try_att ho 6 t st h)
      · rw [if_neg ht]; exact try_att ho 6 t st h
    · rw [if_pos h0]; exact h
theorem run_left {f : api_Fleet} {os : List Int} {l : List api_Step} : ∀ (m i : Nat) (s : api_Rotation) (t : List api_Attempt) (st : List api_Rotation), i + m = l.length → RightOk f s → safeRun f s (l.drop i) →
    ∃ blk i' c', (runT f os (l.drop i) s t st).1.2.1 = t ++ blk ∧ chkR l blk i 0 i' c' ∧ i' ≤ l.length ∧ RightOk f (runT f os (l.drop i) s t st).1.1 ∧ safeRun f (runT f os (l.drop i) s t st).1.1 (l.drop i') ∧
      endS f (runT f os (l.drop i) s t st).1.1 (l.drop i') = endS f s (l.drop i) ∧ (((runT f os (l.drop i) s t st).2 = 0 ∧ i' = l.length) ∨ ((runT f os (l.drop i) s t st).2 = 40 ∧ i' < l.length)) := fun m => by
  induction m with
  | zero =>
    intro i s t st h hr hs
    have : i = l.length := by omega
    subst this
    refine ⟨[], l.length, 0, ?_, ⟨rfl, rfl⟩, Nat.le_refl _, ?_⟩
    · rw [List.drop_length]; simp [runT]
    · rw [List.drop_length]; exact ⟨hr, trivial, rfl, .inl ⟨rfl, rfl⟩⟩
  | succ m ih =>
    intro i s t st h hr hs
    have hi : i < l.length := by omega
    have hd := List.drop_eq_getElem_cons hi
    have hs0 := hs
    rw [hd] at hs ⊢
    have h0 := safe_possible hs.1
    rw [runT_eq, if_neg (not_not_intro h0)]
    obtain ⟨b1, e1, e2, e3⟩ := try_chk (l := l) (x := l[i]) (s := s) (n := (applyP f s l[i]).1) (os := os) (i := i) (List.getElem?_eq_getElem hi) 6 0 t st rfl
    by_cases ht : (tryP l[i] s (applyP f s l[i]).1 os 6 t st).1 = true
    · rw [if_pos ht]
      obtain ⟨b2, i', c', e4, e5, e6, e7, e8, e9, e10⟩ := ih (i + 1) (applyP f s l[i]).1 (tryP l[i] s (applyP f s l[i]).1 os 6 t st).2.1 (tryP l[i] s (applyP f s l[i]).1 os 6 t st).2.2 (by omega) (apply_right hr h0).1 hs.2
      exact ⟨b1 ++ b2, i', c', by rw [e4, e1, List.append_assoc], chk_append _ _ _ (e2 ht) e5, e6, e7, e8, e9, e10⟩
    · rw [if_neg ht]
      exact ⟨b1, i, 6, e1, e3 ht, by omega, hr, hs0, by rw [hd], .inr ⟨rfl, hi⟩⟩
theorem left_l0 {tr : List api_Attempt} (hl : tr.length ≤ 100000) (h : ∀ a ∈ tr, attOk a) : iter (runner_Left_l0 tr) 0 = some (.inl ()) := by
  have := iter_find (body := runner_Left_l0 tr) tr (fun _ => false) (Sum.inl ()) (Sum.inl ()) (fun i hi => ?_) ?_
  · rw [this]; simp
  · obtain ⟨h1, h2, h3⟩ := h _ (List.getElem_mem hi)
    unfold runner_Left_l0
    rw [if_pos (by simp; omega), idx_lt hi, w64 (by omega) (by omega)]
    simp only [Option.bind_some, runner_outcome, there_sp]
    rw [if_neg (by simp; omega)]
    simp only [Option.bind_some]
    rw [h3, if_neg (by simp), if_neg (by simp)]; rfl
  · unfold runner_Left_l0
    rw [if_neg (by simp)]
theorem left_l1 {tr : List api_Attempt} {l : List api_Step} (htr : tr.length ≤ 100000) (hl : l.length ≤ 1000) {i' c' : Nat} : ∀ (n k i c : Nat), k + n = tr.length → i ≤ k → chkR l (tr.drop k) i c i' c' →
    iter (runner_Left_l1 tr l) ((i : Int), (k : Int)) = some (.inl (i' : Int)) := fun n => by
  induction n with
  | zero =>
    intro k i c h _ hc
    have : k = tr.length := by omega
    subst this
    rw [List.drop_length] at hc
    obtain ⟨rfl, rfl⟩ := hc
    refine iter_out ?_
    unfold runner_Left_l1
    rw [if_neg (by simp)]
  | succ n ih =>
    intro k i c h hik hc
    have hk : k < tr.length := by omega
    rw [List.drop_eq_getElem_cons hk] at hc
    obtain ⟨h1, h2, h3⟩ := hc
    have hi : i < l.length := by
      apply Decidable.byContradiction
      intro hn
      rw [List.getElem?_eq_none (by omega)] at h1; cases h1
    rw [List.getElem?_eq_getElem hi, Option.some.injEq] at h1
    have hA : runner_Left_l1 tr l ((i : Int), (k : Int)) = some (.go (if tr[k].There = true then (((i + 1 : Nat) : Int), ((k + 1 : Nat) : Int)) else ((i : Int), ((k + 1 : Nat) : Int)))) := by
      unfold runner_Left_l1
      simp only
      rw [if_pos (by simp; omega), idx_lt hk]
      simp only [Option.bind_some]
      rw [if_neg (by simp; omega), idx_lt hi]
      simp only [Option.bind_some]
      rw [h1, if_neg (by simp), w64 (x := (i : Int) + 1) (by omega) (by omega), w64 (x := (k : Int) + 1) (by omega) (by omega)]
      by_cases ht : tr[k].There = true
      · rw [if_pos ht, if_pos ht]; rfl
      · rw [if_neg ht, if_neg ht]; rfl
    rw [iter_go hA]
    by_cases ht : tr[k].There = true
    · rw [if_pos ht] at h3 ⊢
      exact ih (k + 1) (i + 1) 0 (by omega) (by omega) h3
    · rw [if_neg ht] at h3 ⊢
      exact ih (k + 1) i (c + 1) (by omega) (by omega) h3
theorem left_sp {tr : List api_Attempt} {l : List api_Step} (htr : tr.length ≤ 100000) (hl : l.length ≤ 1000) (h : ∀ a ∈ tr, attOk a) {i' c' : Nat} (hi : i' ≤ l.length) (hc : chkR l tr 0 0 i' c') : runner_Left l tr = some (l.drop i', 0) := by
  unfold runner_Left
  rw [left_l0 htr h]
  simp only [Option.bind_some]
  have := left_l1 htr hl tr.length 0 0 0 (by omega) (Nat.le_refl _) (by rw [List.drop_zero]; exact hc)
  rw [show ((0 : Int), (0 : Int)) = (((0 : Nat) : Int), ((0 : Nat) : Int)) from rfl, this]
  simp only [Option.bind_some]
  rw [ck_t (by omega)]
  simp only [Option.bind_some, slices_Clone_api_Step]
  rw [ck_t (by simp; omega)]
  rfl

/-! Numbers -/
def digU (u : api_Unit) : Int := 4 * u.Stored + u.Used
def foldN (a : Int) (us : List api_Unit) : Int := us.foldl (fun a u => 16 * a + digU u) a
def numP (s : api_Rotation) : Int := foldN (4 * s.Known + s.Valid) s.Units
def DigOk (us : List api_Unit) : Prop := ∀ u ∈ us, 0 ≤ u.Stored ∧ u.Stored ≤ 3 ∧ 0 ≤ u.Used ∧ u.Used ≤ 3
theorem right_dig {f : api_Fleet} {s : api_Rotation} (h : RightOk f s) : DigOk s.Units := fun u hu => by
  obtain ⟨i, hi, rfl⟩ := List.getElem_of_mem hu
  have hi' : i < f.Consumers.length := by rw [← h.2.2.2.1]; exact hi
  obtain ⟨h1, h2⟩ := unit_cases (h.unit hi hi')
  omega
theorem foldN_lt : ∀ (us : List api_Unit) (a : Int) (B : Nat), DigOk us → 0 ≤ a → a < B → 0 ≤ foldN a us ∧ foldN a us < ((B * 16 ^ us.length : Nat) : Int)
  | [], a, B, _, h0, h1 => ⟨h0, by simpa [foldN] using h1⟩
  | u :: us, a, B, hd, h0, h1 => by
    have hu := hd u (List.mem_cons_self ..)
    have := foldN_lt us (16 * a + digU u) (B * 16) (fun v hv => hd v (List.mem_cons_of_mem _ hv)) (by unfold digU; omega) (by unfold digU; omega)
    refine ⟨this.1, ?_⟩
    have e : B * 16 ^ (u :: us).length = B * 16 * 16 ^ us.length := by rw [List.length_cons, Nat.pow_succ, Nat.mul_assoc, Nat.mul_comm 16]
    rw [e]
    exact this.2
theorem foldN_inj : ∀ (us vs : List api_Unit) (a b : Int), us.length = vs.length → DigOk us → DigOk vs → foldN a us = foldN b vs → a = b ∧ us.map (fun u => (u.Stored, u.Used)) = vs.map (fun u => (u.Stored, u.Used))
  | [], [], a, b, _, _, _, h => ⟨h, rfl⟩
  | [], _ :: _, _, _, hl, _, _, _ => by simp at hl
  | _ :: _, [], _, _, hl, _, _, _ => by simp at hl
  | u :: us, v :: vs, a, b, hl, hu, hv, h => by
    have h1 := hu u (List.mem_cons_self ..)
    have h2 := hv v (List.mem_cons_self ..)
    obtain ⟨e1, e2⟩ := foldN_inj us vs (16 * a + digU u) (16 * b + digU v) (by simpa using hl) (fun w hw => hu w (List.mem_cons_of_mem _ hw)) (fun w hw => hv w (List.mem_cons_of_mem _ hw)) h
    unfold digU at e1
    refine ⟨by omega, ?_⟩
    rw [List.map_cons, List.map_cons, e2]
    have a1 : u.Stored = v.Stored := by omega
    have a2 : u.Used = v.Used := by omega
    rw [a1, a2]
theorem num_inj {f : api_Fleet} {s t : api_Rotation} (hs : RightOk f s) (ht : RightOk f t) (h : numP s = numP t) : s = t := by
  have hl : s.Units.length = t.Units.length := by rw [hs.2.2.2.1, ht.2.2.2.1]
  obtain ⟨e1, e2⟩ := foldN_inj _ _ _ _ hl (right_dig hs) (right_dig ht) h
  have k1 := hs.2.1
  have k2 := ht.2.1
  have v1 := (bitsP_val hs.2.2.1).1
  have v2 := (bitsP_val ht.2.2.1).1
  have hk : s.Known = t.Known := by omega
  have hv : s.Valid = t.Valid := by omega
  have hu : s.Units = t.Units := by
    apply List.ext_getElem hl
    intro i h1 h2
    have hi : i < f.Consumers.length := by rw [← hs.2.2.2.1]; exact h1
    have e := congrArg (fun l : List (Int × Int) => l[i]?) e2
    simp only [List.getElem?_map, List.getElem?_eq_getElem h1, List.getElem?_eq_getElem h2, Option.map_some, Option.some.injEq, Prod.mk.injEq] at e
    have c1 := (unit_cases (hs.unit h1 hi)).2
    have c2 := (unit_cases (ht.unit h2 hi)).2
    have hup : s.Units[i].Up = t.Units[i].Up := by
      rcases c1 with ⟨a, b, _⟩ | ⟨a, b⟩ <;> rcases c2 with ⟨c, d, _⟩ | ⟨c, d⟩
      · rw [a, c]
      · omega
      · omega
      · rw [a, c]
    generalize s.Units[i] = x at *
    generalize t.Units[i] = y at *
    obtain ⟨x1, x2, x3⟩ := x
    obtain ⟨y1, y2, y3⟩ := y
    simp only at e hup
    rw [hup, e.1, e.2]
  obtain ⟨a, b, c⟩ := s
  obtain ⟨a', b', c'⟩ := t
  simp only at hk hv hu
  rw [hk, hv, hu]
theorem num_lt {f : api_Fleet} {s : api_Rotation} (h : RightOk f s) (h3 : f.Consumers.length ≤ 3) : 0 ≤ numP s ∧ numP s < 65536 := by
  have k1 := h.2.1
  have v1 := (bitsP_val h.2.2.1).1
  obtain ⟨a, b⟩ := foldN_lt s.Units (4 * s.Known + s.Valid) 16 (right_dig h) (by omega) (by omega)
  refine ⟨a, ?_⟩
  have hl : s.Units.length = 0 ∨ s.Units.length = 1 ∨ s.Units.length = 2 ∨ s.Units.length = 3 := by have := h.2.2.2.1; omega
  unfold numP
  rcases hl with e | e | e | e <;> rw [e] at b <;> simp at b <;> omega
/-! What is seen -/
def kvN (t : api_Rotation) : Int × Bool := (numP t, true)
theorem mfind_kv (x : Int) (t : api_Rotation) (A : List (Int × Bool)) : mfind inE x (kvN t :: A) = if x = numP t then some (0, true) else (mfind inE x A).map fun r => (r.1 + 1, r.2) := by
  have h0 : mfind inE x (kvN t :: A) = if inE x (kvN t).1 = true then some (0, (kvN t).2) else (mfind inE x A).map fun r => (r.1 + 1, r.2) := rfl
  rw [h0]
  by_cases h : x = numP t
  · rw [if_pos h, if_pos (by simp [inE, kvN, h])]; rfl
  · rw [if_neg h, if_neg (by simp [inE, kvN, h])]
theorem mget_kv (x : Int) : ∀ A : List api_Rotation, (mget inE (A.map kvN) x).getD false = decide (x ∈ A.map numP)
  | [] => rfl
  | t :: A => by
    have ih := mget_kv x A
    unfold mget at ih ⊢
    rw [List.map_cons, mfind_kv]
    by_cases h : x = numP t
    · simp [h]
    · rw [if_neg h, List.map_cons]
      simp only [Option.map_map, List.mem_cons, h, false_or]
      rw [← ih]
      rfl
theorem mset_kv {x : Int} {A : List api_Rotation} (h : x ∉ A.map numP) : mset inE (A.map kvN) x true = A.map kvN ++ [(x, true)] := by
  have : mfind inE x (A.map kvN) = none := by
    induction A with
    | nil => rfl
    | cons t A ih =>
      simp only [List.map_cons, List.mem_cons, not_or] at h
      rw [List.map_cons, mfind_kv, if_neg h.1, ih h.2]; rfl
  unfold mset
  rw [this]
def addA (A : List api_Rotation) (t : api_Rotation) : List api_Rotation := if numP t ∈ A.map numP then A else A ++ [t]
def succs (f : api_Fleet) (s : api_Rotation) : List api_Rotation := (choicesC (safeP f s) f.Consumers.length).map fun x => (applyP f s x).1
def expandA (f : api_Fleet) (A : List api_Rotation) (s : api_Rotation) : List api_Rotation := (succs f s).foldl addA A
theorem mem_succs {f : api_Fleet} {s t : api_Rotation} (hr : RightOk f s) : t ∈ succs f s ↔ ∃ x, safeP f s x = true ∧ t = (applyP f s x).1 := by
  unfold succs
  rw [List.mem_map]
  constructor
  · rintro ⟨x, hx, rfl⟩
    obtain ⟨_, _, _, _, h⟩ := mem_choicesC.1 hx
    exact ⟨x, h, rfl⟩
  · rintro ⟨x, hx, rfl⟩
    obtain ⟨_, hk, _, _⟩ := apply_right hr (safe_possible hx)
    exact ⟨x, mem_choicesC.2 ⟨hk.1, hk.2.1, hk.2.2.1, hk.2.2.2.1, hx⟩, rfl⟩
theorem succ_right {f : api_Fleet} {s t : api_Rotation} (hr : RightOk f s) (h : t ∈ succs f s) : RightOk f t := by
  obtain ⟨x, hx, rfl⟩ := (mem_succs hr).1 h
  exact (apply_right hr (safe_possible hx)).1
/-- what is seen is right, and each number but once -/
structure SeenOk (f : api_Fleet) (A : List api_Rotation) : Prop where
  right : ∀ t ∈ A, RightOk f t
  nodup : (A.map numP).Nodup
theorem addA_mem {f : api_Fleet} {A : List api_Rotation} (h : SeenOk f A) {t : api_Rotation} (ht : RightOk f t) : SeenOk f (addA A t) ∧ (∃ N, addA A t = A ++ N) ∧ t ∈ addA A t ∧ ∀ u ∈ addA A t, u ∈ A ∨ u = t := by
  unfold addA
  split
  · rename_i hm
    obtain ⟨u, hu, e⟩ := List.mem_map.1 hm
    have : u = t := num_inj (h.right u hu) ht e
    subst this
    exact ⟨h, ⟨[], by simp⟩, hu, fun u hu => .inl hu⟩
  · rename_i hm
    refine ⟨⟨fun u hu => ?_, ?_⟩, ⟨[t], rfl⟩, by simp, fun u hu => by simpa using hu⟩
    · rcases List.mem_append.1 hu with hu | hu
      · exact h.right u hu
      · rw [List.mem_singleton.1 hu]; exact ht
    · rw [List.map_append]
      refine List.nodup_append.2 ⟨h.nodup, by simp, fun a ha b hb => ?_⟩
      simp only [List.map_cons, List.map_nil, List.mem_singleton] at hb
      intro e
      exact hm (by rw [← hb, ← e]; exact ha)
theorem fold_add {f : api_Fleet} : ∀ (l : List api_Rotation) (A : List api_Rotation), SeenOk f A → (∀ t ∈ l, RightOk f t) → SeenOk f (l.foldl addA A) ∧ (∃ N, l.foldl addA A = A ++ N) ∧ (∀ t ∈ l, t ∈ l.foldl addA A) ∧ ∀ u ∈ l.foldl addA A, u ∈ A ∨ u ∈ l
  | [], A, h, _ => ⟨h, ⟨[], by simp⟩, (fun t ht => by cases ht), fun u hu => .inl hu⟩
  | t :: l, A, h, hl => by
    obtain ⟨h1, ⟨N1, e1⟩, h3, h4⟩ := addA_mem h (hl t (List.mem_cons_self ..))
    obtain ⟨g1, ⟨N2, e2⟩, g3, g4⟩ := fold_add l (addA A t) h1 (fun u hu => hl u (List.mem_cons_of_mem _ hu))
    simp only [List.foldl_cons]
    refine ⟨g1, ⟨N1 ++ N2, by rw [e2, e1, List.append_assoc]⟩, fun u hu => ?_, fun u hu => ?_⟩
    · rcases List.mem_cons.1 hu with rfl | hu
      · rw [e2]; exact List.mem_append_left _ h3
      · exact g3 u hu
    · rcases g4 u hu with hu | hu
      · rcases h4 u hu with hu | hu
        · exact .inl hu
        · exact .inr (by rw [hu]; exact List.mem_cons_self ..)
      · exact .inr (List.mem_cons_of_mem _ hu)
theorem expand_ok {f : api_Fleet} {A : List api_Rotation} {s : api_Rotation} (h : SeenOk f A) (hs : RightOk f s) : SeenOk f (expandA f A s) ∧ (∃ N, expandA f A s = A ++ N) ∧ (∀ t ∈ succs f s, t ∈ expandA f A s) ∧ ∀ u ∈ expandA f A s, u ∈ A ∨ u ∈ succs f s :=
  fold_add (succs f s) A h fun t ht => succ_right hs ht
theorem level_ok {f : api_Fleet} : ∀ (l : List api_Rotation) (A : List api_Rotation), SeenOk f A → (∀ t ∈ l, RightOk f t) → SeenOk f (l.foldl (expandA f) A) ∧ (∃ N, l.foldl (expandA f) A = A ++ N) ∧ (∀ s ∈ l, ∀ t ∈ succs f s, t ∈ l.foldl (expandA f) A) ∧ ∀ u ∈ l.foldl (expandA f) A, u ∈ A ∨ ∃ s ∈ l, u ∈ succs f s
  | [], A, h, _ => ⟨h, ⟨[], by simp⟩, (fun t ht => by cases ht), fun u hu => .inl hu⟩
  | s :: l, A, h, hl => by
    obtain ⟨h1, ⟨N1, e1⟩, h3, h4⟩ := expand_ok h (hl s (List.mem_cons_self ..))
    obtain ⟨g1, ⟨N2, e2⟩, g3, g4⟩ := level_ok l (expandA f A s) h1 (fun u hu => hl u (List.mem_cons_of_mem _ hu))
    simp only [List.foldl_cons]
    refine ⟨g1, ⟨N1 ++ N2, by rw [e2, e1, List.append_assoc]⟩, fun u hu t ht => ?_, fun u hu => ?_⟩
    · rcases List.mem_cons.1 hu with rfl | hu
      · rw [e2]; exact List.mem_append_left _ (h3 t ht)
      · exact g3 u hu t ht
    · rcases g4 u hu with hu | ⟨s', hs', hu⟩
      · rcases h4 u hu with hu | hu
        · exact .inl hu
        · exact .inr ⟨s, List.mem_cons_self .., hu⟩
      · exact .inr ⟨s', List.mem_cons_of_mem _ hs', hu⟩
/-- distinct numbers below a bound are no more than the bound -/
theorem nodup_le : ∀ (M : Nat) (l : List Int), l.Nodup → (∀ x ∈ l, 0 ≤ x ∧ x < M) → l.length ≤ M
  | 0, l, _, h => by
    cases l with
    | nil => simp
    | cons x l => have := h x (List.mem_cons_self ..); omega
  | M + 1, l, hn, h => by
    have h1 := nodup_le M (l.filter fun x => x != (M : Int)) (hn.filter _) (fun x hx => by
      obtain ⟨a, b⟩ := List.mem_filter.1 hx
      have := h x a
      simp only [bne_iff_ne, ne_eq] at b
      omega)
    have h2 : ∀ l : List Int, l.Nodup → l.length ≤ (l.filter fun x => x != (M : Int)).length + 1 := fun l => by
      induction l with
      | nil => intro _; simp
      | cons x l ih =>
        intro hn
        obtain ⟨hx, hn⟩ := List.nodup_cons.1 hn
        by_cases e : x = (M : Int)
        · have : (l.filter fun y => y != (M : Int)) = l := List.filter_eq_self.2 fun y hy => by
            simp only [bne_iff_ne, ne_eq]
            intro e2; exact hx (by rw [e, ← e2]; exact hy)
          rw [List.filter_cons, if_neg (by simp [e]), this]; simp
        · rw [List.filter_cons, if_pos (by simpa using e)]
          have := ih hn
          simp; omega
    have := h2 l hn
    omega
theorem seen_len {f : api_Fleet} {A : List api_Rotation} (h : SeenOk f A) (h3 : f.Consumers.length ≤ 3) : A.length ≤ 65536 := by
  have := nodup_le 65536 (A.map numP) h.nodup (fun x hx => by
    obtain ⟨t, ht, rfl⟩ := List.mem_map.1 hx
    exact num_lt (h.right t ht) h3)
  simpa using this
/-! The innermost loop: the steps from one state -/
def dd (f : api_Fleet) (L d : Int) (l : List api_Rotation) : Int := if d < 0 ∧ l.any (endedP f) = true then L else d
theorem dd_cons {f : api_Fleet} {L d : Int} (hL : 0 ≤ L) (x : api_Rotation) (l : List api_Rotation) : dd f L (if d < 0 ∧ endedP f x = true then L else d) l = dd f L d (x :: l) := by
  unfold dd
  rw [List.any_cons]
  by_cases hd : d < 0
  · cases hx : endedP f x with
    | true =>
      simp only [hd, true_and, if_true, Bool.true_or]
      rw [if_neg (by omega)]
    | false => simp [hd]
  · simp [hd]
/-! Reached -/
def reach (f : api_Fleet) (s0 : api_Rotation) (k : Nat) (t : api_Rotation) : Prop := ∃ l, safeRun f s0 l ∧ endS f s0 l = t ∧ l.length = k
theorem safeRun_split {f : api_Fleet} {x : api_Step} : ∀ (l : List api_Step) (s : api_Rotation), safeRun f s (l ++ [x]) → safeRun f s l ∧ safeP f (endS f s l) x = true := fun l => by
  induction l with
  | nil => intro s h; exact ⟨trivial, h.1⟩
  | cons y l ih =>
    intro s h
    obtain ⟨h1, h2⟩ := ih _ h.2
    exact ⟨⟨h.1, h1⟩, h2⟩
theorem reach_right {f : api_Fleet} {s0 t : api_Rotation} {k : Nat} (hr : RightOk f s0) (h : reach f s0 k t) : RightOk f t := by
  obtain ⟨l, h1, rfl, _⟩ := h
  exact (safeRun_run l s0 hr h1).2.1
theorem reach_succ {f : api_Fleet} {s0 t : api_Rotation} {k : Nat} (hr : RightOk f s0) (h : reach f s0 (k + 1) t) : ∃ t', reach f s0 k t' ∧ t ∈ succs f t' := by
  obtain ⟨l, h1, rfl, h3⟩ := h
  rcases List.eq_nil_or_concat l with rfl | ⟨l', x, rfl⟩
  · simp at h3
  · rw [List.concat_eq_append] at h1 h3 ⊢
    obtain ⟨a, b⟩ := safeRun_split l' s0 h1
    have hr' := (safeRun_run l' s0 hr a).2.1
    refine ⟨endS f s0 l', ⟨l', a, rfl, by simpa using h3⟩, (mem_succs hr').2 ⟨x, b, ?_⟩⟩
    exact (safeRun_snoc l' s0 a b).2
theorem reach_step {f : api_Fleet} {s0 t u : api_Rotation} {k : Nat} (hr : RightOk f s0) (h : reach f s0 k t) (hu : u ∈ succs f t) : reach f s0 (k + 1) u := by
  have ht := reach_right hr h
  obtain ⟨x, hx, rfl⟩ := (mem_succs ht).1 hu
  obtain ⟨l, h1, rfl, h3⟩ := h
  obtain ⟨a, b⟩ := safeRun_snoc l s0 h1 hx
  exact ⟨l ++ [x], a, b, by simp [h3]⟩
theorem reach_0 {f : api_Fleet} {s0 t : api_Rotation} (h : reach f s0 0 t) : t = s0 := by
  obtain ⟨l, _, rfl, h3⟩ := h
  rw [List.eq_nil_of_length_eq_zero h3]; rfl
/-- what holds ahead of a level -/
structure BfsOk (f : api_Fleet) (s0 : api_Rotation) (L : Nat) (d cnt : Int) (A : List api_Rotation) (c : Nat) : Prop where
  seen : SeenOk f A
  le : c ≤ A.length
  lv : L ≤ c
  cn : cnt = c
  ini : s0 ∈ A
  re : ∀ t ∈ A, ∃ k, reach f s0 k t
  clo : ∀ t ∈ A.take c, ∀ u ∈ succs f t, u ∈ A
  low : ∀ (k : Nat) (t : api_Rotation), reach f s0 k t → k < L → t ∈ A.take c
  lvl : ∀ t ∈ A.drop c, reach f s0 L t
  dist : (d = -1 ∧ ∀ t ∈ A.take c, endedP f t = false) ∨ (0 ≤ d ∧ (∃ t, reach f s0 d.toNat t ∧ endedP f t = true) ∧ ∀ (k : Nat) (t : api_Rotation), reach f s0 k t → endedP f t = true → d ≤ k)
def found (f : api_Fleet) (s0 : api_Rotation) (d : Int) : Prop := (d = -1 ∧ ∀ (k : Nat) (t : api_Rotation), reach f s0 k t → endedP f t = false) ∨ (0 ≤ d ∧ (∃ t, reach f s0 d.toNat t ∧ endedP f t = true) ∧ ∀ (k : Nat) (t : api_Rotation), reach f s0 k t → endedP f t = true → d ≤ k)
theorem low_in {f : api_Fleet} {s0 : api_Rotation} (hr : RightOk f s0) {L : Nat} {d cnt : Int} {A : List api_Rotation} {c : Nat} (h : BfsOk f s0 L d cnt A c) {k : Nat} {t : api_Rotation} (ht : reach f s0 k t) (hk : k ≤ L) : t ∈ A := by
  cases k with
  | zero => rw [reach_0 ht]; exact h.ini
  | succ k =>
    obtain ⟨t', h1, h2⟩ := reach_succ hr ht
    exact h.clo t' (h.low k t' h1 (by omega)) t h2
theorem all_in {f : api_Fleet} {s0 : api_Rotation} (hr : RightOk f s0) {L : Nat} {d cnt : Int} {A : List api_Rotation} (h : BfsOk f s0 L d cnt A A.length) : ∀ (k : Nat) (t : api_Rotation), reach f s0 k t → t ∈ A := fun k => by
  have hc := h.clo
  rw [List.take_length] at hc
  induction k with
  | zero => intro t ht; rw [reach_0 ht]; exact h.ini
  | succ k ih =>
    intro t ht
    obtain ⟨t', h1, h2⟩ := reach_succ hr ht
    exact hc t' (ih t' h1) t h2
theorem bfs_step {f : api_Fleet} {s0 : api_Rotation} (hr : RightOk f s0) {L : Nat} {d cnt : Int} {A : List api_Rotation} {c : Nat} (h : BfsOk f s0 L d cnt A c) (hne : c < A.length) : BfsOk f s0 (L + 1) (dd f (L : Int) d (A.drop c)) (cnt + ((A.drop c).length : Nat)) ((A.drop c).foldl (expandA f) A) A.length ∧ ∃ N, (A.drop c).foldl (expandA f) A = A ++ N := by
  have hcr : ∀ t ∈ A.drop c, RightOk f t := fun t ht => h.seen.right t (List.mem_of_mem_drop ht)
  obtain ⟨g1, ⟨N, e⟩, g3, g4⟩ := level_ok (A.drop c) A h.seen hcr
  refine ⟨⟨g1, by rw [e, List.length_append]; omega, by have := h.lv; omega, ?_, by rw [e]; exact List.mem_append_left _ h.ini, fun t ht => ?_, fun t ht u hu => ?_, fun k t ht hk => ?_, fun t ht => ?_, ?_⟩, N, e⟩
  · have := h.cn; have := h.le; rw [List.length_drop]; omega
  · rcases g4 t ht with ht | ⟨s, hs, ht⟩
    · exact h.re t ht
    · obtain ⟨k, hk⟩ := h.re s (List.mem_of_mem_drop hs)
      exact ⟨k + 1, reach_step hr hk ht⟩
  · rw [e, List.take_left'] at ht
    · rw [← List.take_append_drop c A] at ht
      rcases List.mem_append.1 ht with ht | ht
      · rw [e]; exact List.mem_append_left _ (h.clo t ht u hu)
      · exact g3 t ht u hu
    · rfl
  · rw [e, List.take_left' rfl]
    exact low_in hr h ht (Nat.lt_succ_iff.1 hk)
  · have hnd := g1.nodup
    rw [e, List.drop_left'  rfl] at ht
    have hin : t ∈ (A.drop c).foldl (expandA f) A := by rw [e]; exact List.mem_append_right _ ht
    rcases g4 t hin with hA | ⟨s, hs, ht2⟩
    · rw [e, List.map_append] at hnd
      exact absurd rfl ((List.nodup_append.1 hnd).2.2 (numP t) (List.mem_map_of_mem hA) (numP t) (List.mem_map_of_mem ht))
    · exact reach_step hr (h.lvl s hs) ht2
  · unfold dd
    rcases h.dist with ⟨hd, hn⟩ | ⟨hd, ⟨t, ht, hte⟩, hm⟩
    · by_cases hany : (A.drop c).any (endedP f) = true
      · rw [if_pos ⟨by omega, hany⟩]
        right
        obtain ⟨t, ht, hte⟩ := List.any_eq_true.1 hany
        refine ⟨by omega, ⟨t, by rw [Int.toNat_natCast]; exact h.lvl t ht, hte⟩, fun k u hu hue => ?_⟩
        by_cases hk : k < L
        · have := hn u (h.low k u hu hk)
          rw [hue] at this; cases this
        · omega
      · rw [if_neg (fun q => hany q.2)]
        left
        refine ⟨hd, fun t ht => ?_⟩
        rw [e, List.take_left' rfl, ← List.take_append_drop c A] at ht
        rcases List.mem_append.1 ht with ht | ht
        · exact hn t ht
        · cases hte : endedP f t with
          | false => rfl
          | true => exact absurd (List.any_eq_true.2 ⟨t, ht, hte⟩) hany
    · rw [if_neg (fun q => by omega)]
      exact .inr ⟨hd, ⟨t, ht, hte⟩, hm⟩
abbrev SS : Type := Int × Int × Int × (List (Int × Bool)) × (List api_Rotation)
/-- a pool that does not fit has one unit alone, not live, or with one slot for one secret -/
theorem unfit {f : api_Fleet} (hf : FleetOk f) {q : Int} (hq : q ∈ poolsP f) (h : fitP f q = false) : ∃ i, i < f.Consumers.length ∧ (∀ j, j < f.Consumers.length → poolAt f j = poolAt f i → j = i) ∧ ((consAt f i).Live = false ∨ ((consAt f i).Dual = false ∧ f.Slots = 1)) := by
  obtain ⟨_, i0, hi0, e0⟩ := mem_poolsP.1 hq
  have hm0 : (i0 : Int) ∈ unitsP f q := (in_pool hf).2 ⟨i0, rfl, hi0, by simpa [poolAt, List.getD, hi0] using e0⟩
  have hl0 := List.length_pos_of_mem hm0
  unfold fitP at h
  by_cases h1 : (unitsP f q).length = 1
  · rw [if_pos h1] at h
    obtain ⟨x, hx⟩ := List.length_eq_one_iff.1 h1
    have hm : x ∈ unitsP f q := by rw [hx]; simp
    obtain ⟨i, rfl, hi, hp⟩ := (in_pool hf).1 hm
    refine ⟨i, hi, fun j hj hpj => ?_, ?_⟩
    · have : (j : Int) ∈ unitsP f q := (in_pool hf).2 ⟨j, rfl, hj, hpj.trans hp⟩
      rw [hx] at this
      have := List.mem_singleton.1 this
      omega
    · rw [hx] at h
      simp only [List.headD_cons, Int.toNat_natCast] at h
      cases hl : (consAt f i).Live with
      | false => exact .inl rfl
      | true =>
        right
        rw [hl, Bool.true_and] at h
        simp only [Bool.or_eq_false_iff, beq_eq_false_iff_ne, ne_eq] at h
        exact ⟨h.1, hf.1.resolve_right h.2⟩
  · rw [if_neg h1] at h
    have : ¬ 1 < (unitsP f q).length := by simpa using h
    omega
/-- the sole unit goes on using the old secret -/
def oldU (f : api_Fleet) (i : Nat) (s : api_Rotation) : Prop := (unitAt s i).Up = true ∧ (unitAt s i).Used = 1 ∧ ((consAt f i).Live = true → (unitAt s i).Stored = 1 ∧ s.Valid = 1)
theorem bA21 : bAnd .i64 2 1 = 0 := by decide
theorem sole_HA {f : api_Fleet} {s : api_Rotation} {i : Nat} (hi : i < f.Consumers.length) (hs : ∀ j, j < f.Consumers.length → poolAt f j = poolAt f i → j = i) (h : HA f s) : servesU s (unitAt s i) = true := by
  obtain ⟨j, h1, h2, h3⟩ := h i hi
  rw [hs j h1 h2] at h3
  exact h3
theorem old_step {f : api_Fleet} {s : api_Rotation} {x : api_Step} {i : Nat} (hr : RightOk f s) (hi : i < f.Consumers.length) (hsole : ∀ j, j < f.Consumers.length → poolAt f j = poolAt f i → j = i) (hu : (consAt f i).Live = false ∨ ((consAt f i).Dual = false ∧ f.Slots = 1)) (ho : oldU f i s) (ha : HA f s) (hx : safeP f s x = true) : oldU f i (applyP f s x).1 := by
  have ha' := safe_HA hr ha hx
  obtain ⟨hr', hk, hok, e⟩ := apply_right hr (safe_possible hx)
  have hsv := sole_HA hi hsole ha'
  rw [e] at hsv hr' ⊢
  obtain ⟨o1, o2, o3⟩ := ho
  have hil : i < s.Units.length := by rw [hr.2.2.2.1]; exact hi
  obtain ⟨k1, k2, k3, k4, k5⟩ := hk
  unfold okStep at hok
  unfold nextS at hsv ⊢
  by_cases c1 : x.Kind = 1
  · rw [if_pos c1] at hsv ⊢
    exact ⟨o1, o2, o3⟩
  rw [if_neg c1] at hsv hok ⊢
  by_cases c2 : x.Kind = 2
  · rw [if_pos c2] at hsv hok ⊢
    refine ⟨o1, o2, fun hl => ?_⟩
    simp only [Bool.and_eq_true, beq_iff_eq] at hok
    rcases hu with hu | hu
    · rw [hl] at hu; cases hu
    · omega
  rw [if_neg c2] at hsv hok ⊢
  by_cases c3 : x.Kind = 3
  · rw [if_pos c3] at hsv
    exfalso
    have : servesU (⟨s.Known, 2, s.Units⟩ : api_Rotation) (unitAt (⟨s.Known, 2, s.Units⟩ : api_Rotation) i) = (bAnd .i64 (unitAt s i).Used 2 != 0) := rfl
    rw [this, o2] at hsv
    exact absurd hsv (by decide)
  rw [if_neg c3] at hsv hok ⊢
  by_cases c8 : x.Kind = 8
  · rw [if_pos c8] at hsv
    exfalso
    have : servesU (⟨s.Known, 2, s.Units⟩ : api_Rotation) (unitAt (⟨s.Known, 2, s.Units⟩ : api_Rotation) i) = (bAnd .i64 (unitAt s i).Used 2 != 0) := rfl
    rw [this, o2] at hsv
    exact absurd hsv (by decide)
  rw [if_neg c8] at hsv hok ⊢
  by_cases hxi : x.Unit.toNat = i
  · have e1 : f.Consumers.getD x.Unit.toNat default = consAt f i := by rw [hxi]; rfl
    have e2 : s.Units.getD x.Unit.toNat default = unitAt s i := by rw [hxi]; rfl
    rw [e1, e2] at hok
    rw [e1, e2, hxi] at hsv ⊢
    have e3 : unitAt (⟨s.Known, s.Valid, s.Units.set i (unitStep (consAt f i) (unitAt s i) x.Kind (s.Known == 3)).2⟩ : api_Rotation) i = (unitStep (consAt f i) (unitAt s i) x.Kind (s.Known == 3)).2 := by rw [unitAt_set hil, if_pos rfl]
    rw [e3] at hsv
    unfold oldU
    rw [e3]
    have k4567 : x.Kind = 4 ∨ x.Kind = 5 ∨ x.Kind = 6 ∨ x.Kind = 7 := by omega
    rcases k4567 with q | q | q | q
    · rw [q, us4] at hok hsv ⊢
      simp only at hsv ⊢
      cases hl : (consAt f i).Live with
      | false =>
        have : fixU (consAt f i) ⟨(unitAt s i).Up, bif (consAt f i).Dual then 3 else 2, (unitAt s i).Used⟩ = ⟨(unitAt s i).Up, bif (consAt f i).Dual then 3 else 2, (unitAt s i).Used⟩ := by unfold fixU; rw [hl]; rfl
        rw [this]
        exact ⟨o1, o2, fun h => by cases h⟩
      | true =>
        exfalso
        rcases hu with hu | hu
        · rw [hl] at hu; cases hu
        · have : fixU (consAt f i) ⟨(unitAt s i).Up, bif (consAt f i).Dual then 3 else 2, (unitAt s i).Used⟩ = ⟨true, 2, 2⟩ := by unfold fixU; rw [hl, o1, hu.1]; rfl
          rw [this] at hsv
          unfold servesU at hsv
          rw [(o3 hl).2] at hsv
          exact absurd hsv (by decide)
    · exfalso
      rw [q, us5] at hsv
      unfold servesU at hsv
      simp only [and_0] at hsv
      simp at hsv
    · exfalso
      rw [q, us6] at hok
      simp only [o1] at hok
      cases hok
    · rw [q, us7] at hok hsv ⊢
      simp only at hsv ⊢
      cases hl : (consAt f i).Live with
      | false =>
        have : fixU (consAt f i) ⟨(unitAt s i).Up, 2, (unitAt s i).Used⟩ = ⟨(unitAt s i).Up, 2, (unitAt s i).Used⟩ := by unfold fixU; rw [hl]; rfl
        rw [this]
        exact ⟨o1, o2, fun h => by cases h⟩
      | true =>
        exfalso
        have := (o3 hl).1
        simp only [beq_iff_eq] at hok
        omega
  · unfold oldU
    have e3 : ∀ u : api_Unit, unitAt (⟨s.Known, s.Valid, s.Units.set x.Unit.toNat u⟩ : api_Rotation) i = unitAt s i := fun u => by
      rw [unitAt_set (by have := hr.2.2.2.1; omega), if_neg (fun e => hxi e.symm)]
    rw [e3]
    exact ⟨o1, o2, o3⟩
theorem never_ended {f : api_Fleet} (hf : FleetOk f) (h : (whyP f).2 = true) : ∀ (k : Nat) (t : api_Rotation), reach f (startR f) k t → endedP f t = false := by
  obtain ⟨w1, w2, _⟩ := why_first h
  obtain ⟨i, hi, hsole, hu⟩ := unfit hf w1 w2
  have hr : RightOk f (startR f) := start_right hf
  have key : ∀ (l : List api_Step) (s : api_Rotation), RightOk f s → HA f s → oldU f i s → safeRun f s l → oldU f i (endS f s l) ∧ RightOk f (endS f s l) := fun l => by
    induction l with
    | nil => intro s h1 _ h3 _; exact ⟨h3, h1⟩
    | cons x l ih =>
      intro s h1 h2 h3 h4
      exact ih _ (apply_right h1 (safe_possible h4.1)).1 (safe_HA h1 h2 h4.1) (old_step h1 hi hsole hu h3 h2 h4.1) h4.2
  rintro k t ⟨l, h1, rfl, _⟩
  have h0 : oldU f i (startR f) := by
    have : unitAt (startR f) i = ⟨true, 1, 1⟩ := by simp [unitAt, startR, List.getD, hi]
    unfold oldU
    rw [this]
    exact ⟨rfl, rfl, fun _ => ⟨rfl, rfl⟩⟩
  obtain ⟨⟨_, o2, _⟩, hre⟩ := key l (startR f) hr (start_HA f) h0 h1
  cases he : endedP f (endS f (startR f) l) with
  | false => rfl
  | true =>
    unfold endedP at he
    simp only [Bool.and_eq_true, List.all_eq_true] at he
    have hil : i < (endS f (startR f) l).Units.length := by rw [hre.2.2.2.1]; exact hi
    have := he.2.2 _ (List.getElem_mem hil)
    rw [unitAt_get] at this
    unfold endedU at this
    rw [o2] at this
    simp at this

/-! Keys -/
def upI (u : api_Unit) : Int := bif u.Up then 1 else 0
def keyP (s : api_Rotation) : List Int := [s.Known, s.Valid, (unitAt s 0).Stored, (unitAt s 0).Used, upI (unitAt s 0), (unitAt s 1).Stored, (unitAt s 1).Used, upI (unitAt s 1), (unitAt s 2).Stored, (unitAt s 2).Used, upI (unitAt s 2)]
def setU (arr : List Int) (i : Nat) (u : api_Unit) : List Int := bif u.Up then ((arr.set (2 + 3 * i) u.Stored).set (3 + 3 * i) u.Used).set (4 + 3 * i) 1 else (arr.set (2 + 3 * i) u.Stored).set (3 + 3 * i) u.Used
theorem setU_len {arr : List Int} {i : Nat} {u : api_Unit} : (setU arr i u).length = arr.length := by unfold setU; cases u.Up <;> simp
theorem key_step {x : search_found} {i : Nat} (hi : i < x.Rotation.Units.length) (h3 : i < 3) {arr : List Int} (ha : arr.length = 11) : search_found_key_l0 x ((i : Int), arr) = some (.go (((i + 1 : Nat) : Int), setU arr i x.Rotation.Units[i])) := by
  unfold search_found_key_l0
  simp only
  rw [if_pos (by simp; omega), idx_lt hi, w64 (x := 3 * (i : Int)) (by omega) (by omega), w64 (x := 2 + 3 * (i : Int)) (by omega) (by omega), w64 (x := 3 + 3 * (i : Int)) (by omega) (by omega), w64 (x := 4 + 3 * (i : Int)) (by omega) (by omega), w64 (x := (i : Int) + 1) (by omega) (by omega)]
  have e2 : (2 + 3 * (i : Int)).toNat = 2 + 3 * i := by omega
  have e3 : (3 + 3 * (i : Int)).toNat = 3 + 3 * i := by omega
  have e4 : (4 + 3 * (i : Int)).toNat = 4 + 3 * i := by omega
  simp only [Option.bind_some, e2, e3, e4]
  rw [ck_t (by omega)]
  simp only [Option.bind_some]
  rw [ck_t (by omega)]
  simp only [Option.bind_some]
  rw [ck_t (by omega)]
  simp only [Option.bind_some]
  rw [ck_t (by simp; omega)]
  simp only [Option.bind_some]
  unfold setU
  cases x.Rotation.Units[i].Up with
  | false => rw [if_neg (by simp)]; rfl
  | true =>
    rw [if_pos rfl, ck_t (by omega)]
    simp only [Option.bind_some]
    rw [ck_t (by simp; omega)]
    rfl
theorem key_out {x : search_found} {i : Nat} (hi : i = x.Rotation.Units.length) {arr : List Int} : search_found_key_l0 x ((i : Int), arr) = some (.out arr) := by
  unfold search_found_key_l0
  rw [if_neg (by simp; omega)]
theorem key_sp {x : search_found} (h3 : x.Rotation.Units.length ≤ 3) : search_found_key x = some (keyP x.Rotation) := by
  have key : iter (search_found_key_l0 x) (0, ([x.Rotation.Known, x.Rotation.Valid, 0, 0, 0, 0, 0, 0, 0, 0, 0] : List Int)) = some (keyP x.Rotation) := by
    have hs := fun (i : Nat) (arr : List Int) (hi : i < x.Rotation.Units.length) (ha : arr.length = 11) => key_step (x := x) hi (by omega) ha
    have ho := fun (i : Nat) (arr : List Int) (hi : i = x.Rotation.Units.length) => key_out (x := x) hi (arr := arr)
    obtain ⟨⟨kn, va, us⟩, fa, st, be⟩ := x
    simp only at h3 hs ho ⊢
    match us, h3 with
    | [], _ => exact iter_out (ho 0 _ rfl)
    | [a], _ =>
      rw [show (0 : Int) = ((0 : Nat) : Int) from rfl, iter_go (hs 0 _ (by simp) rfl), iter_out (ho 1 _ rfl)]
      obtain ⟨a1, a2, a3⟩ := a
      cases a1 <;> rfl
    | [a, b], _ =>
      rw [show (0 : Int) = ((0 : Nat) : Int) from rfl, iter_go (hs 0 _ (by simp) rfl), iter_go (hs 1 _ (by simp) (by rw [setU_len]; rfl)), iter_out (ho 2 _ rfl)]
      obtain ⟨a1, a2, a3⟩ := a
      obtain ⟨b1, b2, b3⟩ := b
      cases a1 <;> cases b1 <;> rfl
    | [a, b, c], _ =>
      rw [show (0 : Int) = ((0 : Nat) : Int) from rfl, iter_go (hs 0 _ (by simp) rfl), iter_go (hs 1 _ (by simp) (by rw [setU_len]; rfl)), iter_go (hs 2 _ (by simp) (by rw [setU_len, setU_len]; rfl)), iter_out (ho 3 _ rfl)]
      obtain ⟨a1, a2, a3⟩ := a
      obtain ⟨b1, b2, b3⟩ := b
      obtain ⟨c1, c2, c3⟩ := c
      cases a1 <;> cases b1 <;> cases c1 <;> rfl
    | _ :: _ :: _ :: _ :: _, h => simp at h
  unfold search_found_key
  rw [key]
  rfl
theorem key_num {s t : api_Rotation} (hl : s.Units.length = t.Units.length) (h3 : s.Units.length ≤ 3) (h : keyP s = keyP t) : numP s = numP t := by
  obtain ⟨kn, va, us⟩ := s
  obtain ⟨kn', va', us'⟩ := t
  simp only at hl h3
  unfold keyP unitAt at h
  simp only [List.cons.injEq] at h
  obtain ⟨rfl, rfl, h⟩ := h
  unfold numP foldN digU
  match us, us', hl, h3 with
  | [], [], _, _ => rfl
  | [a], [b], _, _ => simp at h ⊢; rw [h.1, h.2.1]
  | [a, b], [c, d], _, _ => simp at h ⊢; rw [h.1, h.2.1, h.2.2.2.1, h.2.2.2.2.1]
  | [a, b, c], [d, e, g], _, _ => simp at h ⊢; rw [h.1, h.2.1, h.2.2.2.1, h.2.2.2.2.1, h.2.2.2.2.2.2.1, h.2.2.2.2.2.2.2.1]
  | _ :: _ :: _ :: _ :: _, _, _, h => simp at h
theorem key_inj {f : api_Fleet} {s t : api_Rotation} (hs : RightOk f s) (ht : RightOk f t) (h3 : f.Consumers.length ≤ 3) (h : keyP s = keyP t) : s = t :=
  num_inj hs ht (key_num (by rw [hs.2.2.2.1, ht.2.2.2.1]) (by rw [hs.2.2.2.1]; exact h3) h)
theorem arE_eq {a b : List Int} (ha : a.length = 11) (hb : b.length = 11) : arE 11 a b = decide (a = b) := by
  match a, b, ha, hb with
  | [a0, a1, a2, a3, a4, a5, a6, a7, a8, a9, a10], [b0, b1, b2, b3, b4, b5, b6, b7, b8, b9, b10], _, _ =>
    have : arE 11 [a0, a1, a2, a3, a4, a5, a6, a7, a8, a9, a10] [b0, b1, b2, b3, b4, b5, b6, b7, b8, b9, b10] = ((a0 == b0) && ((a1 == b1) && ((a2 == b2) && ((a3 == b3) && ((a4 == b4) && ((a5 == b5) && ((a6 == b6) && ((a7 == b7) && ((a8 == b8) && ((a9 == b9) && ((a10 == b10) && true))))))))))) := rfl
    rw [this]
    have hb : ∀ a b : Int, (a == b) = decide (a = b) := fun a b => by cases h : (a == b) <;> simp_all
    simp only [hb, Bool.decide_and, List.cons.injEq, Bool.and_true, and_true]
theorem keyP_len (s : api_Rotation) : (keyP s).length = 11 := rfl
def kvK (t : api_Rotation) : List Int × Bool := (keyP t, true)
theorem mfind_kvK (u t : api_Rotation) (A : List (List Int × Bool)) : mfind (arE 11) (keyP u) (kvK t :: A) = if keyP u = keyP t then some (0, true) else (mfind (arE 11) (keyP u) A).map fun r => (r.1 + 1, r.2) := by
  have h0 : mfind (arE 11) (keyP u) (kvK t :: A) = if arE 11 (keyP u) (kvK t).1 = true then some (0, (kvK t).2) else (mfind (arE 11) (keyP u) A).map fun r => (r.1 + 1, r.2) := rfl
  rw [h0, show (kvK t).1 = keyP t from rfl, arE_eq (keyP_len _) (keyP_len t)]
  simp only [decide_eq_true_eq]
  rfl
theorem mget_kvK (u : api_Rotation) : ∀ A : List api_Rotation, (mget (arE 11) (A.map kvK) (keyP u)).getD false = decide (keyP u ∈ A.map keyP)
  | [] => rfl
  | t :: A => by
    have ih := mget_kvK u A
    unfold mget at ih ⊢
    rw [List.map_cons, mfind_kvK]
    by_cases h : keyP u = keyP t
    · simp [h]
    · rw [if_neg h, List.map_cons]
      simp only [Option.map_map, List.mem_cons, h, false_or]
      rw [← ih]
      rfl
theorem mset_kvK {u : api_Rotation} {A : List api_Rotation} (h : keyP u ∉ A.map keyP) : mset (arE 11) (A.map kvK) (keyP u) true = A.map kvK ++ [kvK u] := by
  have : mfind (arE 11) (keyP u) (A.map kvK) = none := by
    induction A with
    | nil => rfl
    | cons t A ih =>
      simp only [List.map_cons, List.mem_cons, not_or] at h
      rw [List.map_cons, mfind_kvK, if_neg h.1, ih h.2]; rfl
  unfold mset
  rw [this]
  rfl
theorem key_mem {f : api_Fleet} {A : List api_Rotation} {u : api_Rotation} (h : ∀ t ∈ A, RightOk f t) (hu : RightOk f u) (h3 : f.Consumers.length ≤ 3) : keyP u ∈ A.map keyP ↔ u ∈ A := by
  rw [List.mem_map]
  constructor
  · rintro ⟨t, ht, e⟩
    rw [← key_inj (h t ht) hu h3 e]; exact ht
  · intro hm; exact ⟨u, hm, rfl⟩

/-! The queue -/
structure QI (f : api_Fleet) (s0 : api_Rotation) (E : List search_found) (i k : Nat) : Prop where
  seen : SeenOk f (E.map (·.Rotation))
  hd : E[0]? = some ⟨s0, 0, ⟨0, 0⟩, -1⟩
  le : i ≤ E.length
  par : ∀ (j : Nat) (x : search_found), E[j]? = some x → (j = 0 ∧ x = ⟨s0, 0, ⟨0, 0⟩, -1⟩) ∨ ∃ (b : Nat) (y : search_found), x.before = (b : Int) ∧ b < j ∧ E[b]? = some y ∧ x.far = y.far + 1 ∧ safeP f y.Rotation x.step = true ∧ x.Rotation = (applyP f y.Rotation x.step).1
  fb : ∀ (j : Nat) (x : search_found), E[j]? = some x → 0 ≤ x.far ∧ x.far ≤ (j : Int)
  mono : ∀ (j l : Nat) (x y : search_found), j ≤ l → E[j]? = some x → E[l]? = some y → x.far ≤ y.far
  near : ∀ (j : Nat) (x y : search_found), E[j]? = some x → E[i]? = some y → x.far ≤ y.far + 1
  clo : ∀ (j : Nat) (x : search_found), j < i → E[j]? = some x → ∀ u ∈ succs f x.Rotation, ∃ y ∈ E, y.Rotation = u ∧ y.far ≤ x.far + 1
  clk : ∀ (x : search_found), E[i]? = some x → ∀ (m : Nat) (u : api_Rotation), m < k → (succs f x.Rotation)[m]? = some u → ∃ y ∈ E, y.Rotation = u ∧ y.far ≤ x.far + 1
theorem qi_start {f : api_Fleet} {s0 : api_Rotation} (hr : RightOk f s0) : QI f s0 [⟨s0, 0, ⟨0, 0⟩, -1⟩] 0 0 := by
  have one : ∀ (j : Nat) (x : search_found), [(⟨s0, 0, ⟨0, 0⟩, -1⟩ : search_found)][j]? = some x → j = 0 ∧ x = ⟨s0, 0, ⟨0, 0⟩, -1⟩ := fun j x h => by
    cases j with
    | zero => exact ⟨rfl, by simpa using h.symm⟩
    | succ j => simp at h
  refine ⟨⟨fun t ht => ?_, by simp⟩, rfl, by simp, fun j x h => .inl (one j x h), fun j x h => ?_, fun j l x y _ h1 h2 => ?_, fun j x y h1 h2 => ?_, fun j x h => by omega, fun x _ m u h => by omega⟩
  · simp at ht; rw [ht]; exact hr
  · obtain ⟨rfl, rfl⟩ := one j x h; simp
  · rw [(one j x h1).2, (one l y h2).2]; simp
  · rw [(one j x h1).2, (one 0 y h2).2]; simp
theorem qi_next {f : api_Fleet} {s0 : api_Rotation} {E : List search_found} {i : Nat} {x : search_found} (h : QI f s0 E i (succs f x.Rotation).length) (hx : E[i]? = some x) : QI f s0 E (i + 1) 0 := by
  have hi : i < E.length := (List.getElem?_eq_some_iff.1 hx).1
  refine ⟨h.seen, h.hd, hi, h.par, h.fb, h.mono, fun j y z h1 h2 => ?_, fun j y hj h1 u hu => ?_, fun _ _ m u hm => by omega⟩
  · have := h.near j y x h1 hx
    have := h.mono i (i + 1) x z (by omega) hx h2
    omega
  · by_cases hji : j < i
    · exact h.clo j y hji h1 u hu
    · have : j = i := by omega
      subst this
      rw [hx] at h1
      obtain rfl := Option.some.inj h1
      obtain ⟨m, hm, rfl⟩ := List.getElem_of_mem hu
      exact h.clk x hx m _ hm (List.getElem?_eq_getElem hm)
open Classical in
noncomputable def addE (E : List search_found) (y : search_found) : List search_found := if y.Rotation ∈ E.map (·.Rotation) then E else E ++ [y]
theorem qi_add {f : api_Fleet} {s0 : api_Rotation} {E : List search_found} {i k : Nat} {x : search_found} {st : api_Step} (h : QI f s0 E i k) (hx : E[i]? = some x) (hs : safeP f x.Rotation st = true) (hk : (succs f x.Rotation)[k]? = some (applyP f x.Rotation st).1) : QI f s0 (addE E ⟨(applyP f x.Rotation st).1, x.far + 1, st, (i : Int)⟩) i (k + 1) ∧ (addE E ⟨(applyP f x.Rotation st).1, x.far + 1, st, (i : Int)⟩)[i]? = some x := by
  have hi : i < E.length := (List.getElem?_eq_some_iff.1 hx).1
  have hxr : RightOk f x.Rotation := h.seen.right _ (List.mem_map_of_mem (List.mem_of_getElem? hx))
  have hur := (apply_right hxr (safe_possible hs)).1
  unfold addE
  by_cases hm : (applyP f x.Rotation st).1 ∈ E.map (·.Rotation)
  · rw [if_pos hm]
    refine ⟨⟨h.seen, h.hd, h.le, h.par, h.fb, h.mono, h.near, h.clo, fun x' hx' m u hmk hu => ?_⟩, hx⟩
    by_cases hmk2 : m < k
    · exact h.clk x' hx' m u hmk2 hu
    · have : m = k := by omega
      subst this
      rw [hx] at hx'
      obtain rfl := Option.some.inj hx'
      rw [hk] at hu
      obtain rfl := Option.some.inj hu
      obtain ⟨y, hy, e⟩ := List.mem_map.1 hm
      obtain ⟨j, hj⟩ := List.getElem?_of_mem hy
      exact ⟨y, hy, e, h.near j y x hj hx⟩
  · rw [if_neg hm]
    generalize hn : (⟨(applyP f x.Rotation st).1, x.far + 1, st, (i : Int)⟩ : search_found) = n
    have old : ∀ (j : Nat) (y : search_found), (E ++ [n])[j]? = some y → (E[j]? = some y) ∨ (j = E.length ∧ y = n) := fun j y hy => by
      by_cases hj : j < E.length
      · rw [List.getElem?_append_left hj] at hy; exact .inl hy
      · rw [List.getElem?_append_right (by omega)] at hy
        have : j - E.length = 0 := by
          cases hd : j - E.length with
          | zero => rfl
          | succ q => rw [hd] at hy; simp at hy
        rw [this] at hy
        exact .inr ⟨by omega, by simpa using hy.symm⟩
    have keep : ∀ (j : Nat) (y : search_found), E[j]? = some y → (E ++ [n])[j]? = some y := fun j y hy => by
      rw [List.getElem?_append_left (List.getElem?_eq_some_iff.1 hy).1]; exact hy
    have nfar : n.far = x.far + 1 := by rw [← hn]
    have back : ∀ (j : Nat) (y : search_found), (E ++ [n])[j]? = some y → j < E.length → E[j]? = some y := fun j y hy hj => by
      rw [List.getElem?_append_left hj] at hy; exact hy
    have xfb := h.fb i x hx
    refine ⟨⟨?_, keep 0 _ h.hd, by rw [List.length_append]; omega, fun j y hy => ?_, fun j y hy => ?_, fun j l y z hjl hy hz => ?_, fun j y z hy hz => ?_, fun j y hj hy u hu => ?_, fun x' hx' m u hmk hu => ?_⟩, keep i x hx⟩
    · have := (addA_mem h.seen hur).1
      unfold addA at this
      rw [if_neg (fun hc => hm (by
        obtain ⟨t, ht, e⟩ := List.mem_map.1 hc
        rw [← num_inj (h.seen.right t ht) hur e]; exact ht))] at this
      rw [List.map_append, ← hn]
      exact this
    · rcases old j y hy with hy | ⟨rfl, rfl⟩
      · rcases h.par j y hy with h1 | ⟨b, z, h1, h2, h3, h4⟩
        · exact .inl h1
        · exact .inr ⟨b, z, h1, h2, keep b z h3, h4⟩
      · right
        refine ⟨i, x, by rw [← hn], hi, keep i x hx, nfar, by rw [← hn]; exact hs, by rw [← hn]⟩
    · rcases old j y hy with hy | ⟨rfl, rfl⟩
      · exact h.fb j y hy
      · omega
    · rcases old j y hy with hy1 | ⟨hy1, hy2⟩
      · rcases old l z hz with hz1 | ⟨hz1, hz2⟩
        · exact h.mono j l y z hjl hy1 hz1
        · have := h.near j y x hy1 hx
          rw [hz2]; omega
      · rcases old l z hz with hz1 | ⟨hz1, hz2⟩
        · have := (List.getElem?_eq_some_iff.1 hz1).1; omega
        · rw [hy2, hz2]; omega
    · have hz' := back i z hz hi
      rw [hx] at hz'
      have hzx := Option.some.inj hz'
      rw [← hzx]
      rcases old j y hy with hy | ⟨rfl, rfl⟩
      · exact h.near j y x hy hx
      · omega
    · obtain ⟨z, h1, h2, h3⟩ := h.clo j y hj (back j y hy (by omega)) u hu
      exact ⟨z, List.mem_append_left _ h1, h2, h3⟩
    · have hx'' := back i x' hx' hi
      rw [hx] at hx''
      obtain rfl := Option.some.inj hx''
      by_cases hmk2 : m < k
      · obtain ⟨z, h1, h2, h3⟩ := h.clk x hx m u hmk2 hu
        exact ⟨z, List.mem_append_left _ h1, h2, h3⟩
      · have : m = k := by omega
        subst this
        rw [hk] at hu
        obtain rfl := Option.some.inj hu
        exact ⟨n, by simp, by rw [← hn], by omega⟩
abbrev S9 : Type := Int × (List search_found) × (List ((List Int) × Bool))
theorem all_l1 {f : api_Fleet} (h3 : f.Consumers.length ≤ 3) {s0 : api_Rotation} {x : search_found} {i : Nat} {s5 : S9} (h5 : s5.1 = (i : Int)) (hr : RightOk f x.Rotation) : ∀ (m k : Nat) (E : List search_found), k + m = (choicesC (safeP f x.Rotation) f.Consumers.length).length → QI f s0 E i k → E[i]? = some x →
    ∃ E', iter (search_all_l1 (choicesC (safeP f x.Rotation) f.Consumers.length) f x s5) ((k : Int), E, E.map fun y => kvK y.Rotation) = some (E', E'.map fun y => kvK y.Rotation) ∧ QI f s0 E' i (choicesC (safeP f x.Rotation) f.Consumers.length).length ∧ E'[i]? = some x := fun m => by
  have c8 := hr.1.2.2.1
  have cl := choicesC_len (sf := safeP f x.Rotation) c8
  induction m with
  | zero =>
    intro k E h hq hx
    have hk : k = (choicesC (safeP f x.Rotation) f.Consumers.length).length := by omega
    refine ⟨E, ?_, by rw [← hk]; exact hq, hx⟩
    refine iter_out ?_
    unfold search_all_l1
    rw [if_neg (by simp; omega)]
  | succ m ih =>
    intro k E h hq hx
    have hk : k < (choicesC (safeP f x.Rotation) f.Consumers.length).length := by omega
    have hst := (mem_choicesC.1 (List.getElem_mem hk)).2.2.2.2
    have hsk : (succs f x.Rotation)[k]? = some (applyP f x.Rotation (choicesC (safeP f x.Rotation) f.Consumers.length)[k]).1 := by
      unfold succs
      rw [List.getElem?_map, List.getElem?_eq_getElem hk]; rfl
    have hur := (apply_right hr (safe_possible hst)).1
    obtain ⟨q1, q2⟩ := qi_add hq hx hst hsk
    have fx := hq.fb i x hx
    have hEl : E.length ≤ 65536 := by simpa using seen_len hq.seen h3
    have hi : i < E.length := (List.getElem?_eq_some_iff.1 hx).1
    have hstep : search_all_l1 (choicesC (safeP f x.Rotation) f.Consumers.length) f x s5 ((k : Int), E, E.map fun y => kvK y.Rotation) = some (.go (((k + 1 : Nat) : Int), addE E ⟨(applyP f x.Rotation (choicesC (safeP f x.Rotation) f.Consumers.length)[k]).1, x.far + 1, (choicesC (safeP f x.Rotation) f.Consumers.length)[k], (i : Int)⟩, (addE E ⟨(applyP f x.Rotation (choicesC (safeP f x.Rotation) f.Consumers.length)[k]).1, x.far + 1, (choicesC (safeP f x.Rotation) f.Consumers.length)[k], (i : Int)⟩).map fun y => kvK y.Rotation)) := by
      unfold search_all_l1
      simp only
      rw [if_pos (by simp; omega), idx_lt hk]
      simp only [Option.bind_some, apply_sp]
      rw [w64 (x := x.far + 1) (by omega) (by omega), h5, w64 (x := (k : Int) + 1) (by omega) (by omega)]
      generalize hst2 : (choicesC (safeP f x.Rotation) f.Consumers.length)[k] = st at *
      rw [key_sp (by simp only; rw [hur.2.2.2.1]; exact h3)]
      simp only [Option.bind_some]
      rw [ck_t (keyP_len _)]
      simp only [Option.bind_some]
      rw [show (E.map fun y => kvK y.Rotation) = (E.map (·.Rotation)).map kvK by rw [List.map_map]; rfl, mget_kvK]
      have km := key_mem hq.seen.right hur h3
      unfold addE
      by_cases hm : (applyP f x.Rotation st).1 ∈ E.map (·.Rotation)
      · rw [if_pos hm, decide_eq_true (km.2 hm), if_neg (by simp), List.map_map]; rfl
      · rw [if_neg hm, decide_eq_false (fun h => hm (km.1 h)), if_pos (by rfl), ck_t (by simp; omega)]
        simp only [Option.bind_some]
        rw [mset_kvK (fun h => hm (km.1 h))]
        simp [List.map_append]
    rw [iter_go hstep]
    exact ih (k + 1) _ (by omega) q1 q2
theorem all_ex {f : api_Fleet} (h3 : f.Consumers.length ≤ 3) {s0 : api_Rotation} (hr : RightOk f s0) : ∃ E, search_all f s0 = some E ∧ QI f s0 E E.length 0 := by
  unfold search_all
  rw [ck_t (by simp)]
  simp only [Option.bind_some]
  rw [show idx [(⟨s0, 0, (⟨0, 0⟩ : api_Step), (-1)⟩ : search_found)] 0 = some ⟨s0, 0, ⟨0, 0⟩, -1⟩ from rfl]
  simp only [Option.bind_some]
  rw [key_sp (by simp only; rw [hr.2.2.2.1]; exact h3)]
  simp only [Option.bind_some]
  rw [ck_t (keyP_len _)]
  simp only [Option.bind_some]
  have key : ∃ E, iter (search_all_l0 f) (0, [⟨s0, 0, ⟨0, 0⟩, -1⟩], mset (arE 11) [] (keyP s0) true) = some E ∧ QI f s0 E E.length 0 := by
    refine iter_ex (fun s : S9 => ∃ (i : Nat) (E : List search_found), s = ((i : Int), E, E.map fun y => kvK y.Rotation) ∧ QI f s0 E i 0) (fun s => 65536 - s.1.toNat) (fun E => QI f s0 E E.length 0) (fun s hs => ?_) ⟨0, _, rfl, qi_start hr⟩
    obtain ⟨i, E, rfl, h⟩ := hs
    have hEl : E.length ≤ 65536 := by simpa using seen_len h.seen h3
    unfold search_all_l0
    simp only
    by_cases hi : i < E.length
    · left
      have hx : E[i]? = some E[i] := List.getElem?_eq_getElem hi
      have hxr : RightOk f E[i].Rotation := h.seen.right _ (List.mem_map_of_mem (List.getElem_mem hi))
      have c8 := hxr.1.2.2.1
      obtain ⟨E', g1, g2, g3⟩ := all_l1 h3 (s0 := s0) (x := E[i]) (i := i) (s5 := ((i : Int), E, E.map fun y => kvK y.Rotation)) rfl hxr (choicesC (safeP f E[i].Rotation) f.Consumers.length).length 0 E (by omega) h hx
      rw [if_pos (by simp; omega), ck_t (by omega), idx_lt hi]
      simp only [Option.bind_some]
      rw [choices_sp (by rw [hxr.2.2.2.1]; omega), hxr.2.2.2.1]
      simp only [Option.bind_some]
      rw [show ((0 : Int), E, E.map fun y => kvK y.Rotation) = (((0 : Nat) : Int), E, E.map fun y => kvK y.Rotation) from rfl, g1, w64 (by omega) (by omega)]
      refine ⟨_, rfl, ⟨i + 1, E', rfl, qi_next (by unfold succs; rw [List.length_map]; exact g2) g3⟩, ?_⟩
      simp only
      omega
    · right
      rw [if_neg (by simp; omega)]
      have := h.le
      have e : i = E.length := by omega
      subst e
      exact ⟨E, rfl, h⟩
  obtain ⟨E, h1, h2⟩ := key
  refine ⟨E, ?_, h2⟩
  rw [h1]
  rfl
theorem q_reach {f : api_Fleet} {s0 : api_Rotation} (hr : RightOk f s0) {E : List search_found} {i k : Nat} (h : QI f s0 E i k) : ∀ (n j : Nat) (x : search_found), j < n → E[j]? = some x → reach f s0 x.far.toNat x.Rotation := fun n => by
  induction n with
  | zero => intro j x hj; omega
  | succ n ih =>
    intro j x hj hx
    rcases h.par j x hx with ⟨_, rfl⟩ | ⟨b, y, h1, h2, h3, h4, h5, h6⟩
    · exact ⟨[], trivial, rfl, rfl⟩
    · have hy := ih b y (by omega) h3
      have := h.fb b y h3
      have hyr := h.seen.right _ (List.mem_map_of_mem (List.mem_of_getElem? h3))
      rw [h4, show (y.far + 1).toNat = y.far.toNat + 1 by omega]
      exact reach_step hr hy ((mem_succs hyr).2 ⟨x.step, h5, h6⟩)
theorem q_all {f : api_Fleet} {s0 : api_Rotation} (hr : RightOk f s0) {E : List search_found} (h : QI f s0 E E.length 0) : ∀ (k : Nat) (t : api_Rotation), reach f s0 k t → ∃ x ∈ E, x.Rotation = t ∧ x.far ≤ (k : Int) := fun k => by
  induction k with
  | zero =>
    intro t ht
    exact ⟨_, List.mem_of_getElem? h.hd, (reach_0 ht).symm, by simp⟩
  | succ k ih =>
    intro t ht
    obtain ⟨t', h1, h2⟩ := reach_succ hr ht
    obtain ⟨x, hx, rfl, hf⟩ := ih t' h1
    obtain ⟨j, hj⟩ := List.getElem?_of_mem hx
    obtain ⟨y, a, b, c⟩ := h.clo j x (List.getElem?_eq_some_iff.1 hj).1 hj t h2
    exact ⟨y, a, b, by omega⟩
theorem nodup_of_map {α β : Type} {g : α → β} : ∀ {l : List α}, (l.map g).Nodup → l.Nodup
  | [], _ => List.nodup_nil
  | x :: l, h => by
    rw [List.map_cons, List.nodup_cons] at h
    exact List.nodup_cons.2 ⟨fun hx => h.1 (List.mem_map_of_mem hx), nodup_of_map h.2⟩
theorem nodup_len {α : Type} [DecidableEq α] : ∀ {l m : List α}, l.Nodup → (∀ x ∈ l, x ∈ m) → l.length ≤ m.length
  | [], m, _, _ => by simp
  | x :: l, m, hn, h => by
    obtain ⟨h1, h2⟩ := List.nodup_cons.1 hn
    have hx := h x (List.mem_cons_self ..)
    have := nodup_len (m := m.erase x) h2 (fun y hy => (List.mem_erase_of_ne (fun e => h1 (by rw [← e]; exact hy))).2 (h y (List.mem_cons_of_mem _ hy)))
    rw [List.length_erase_of_mem hx] at this
    have := List.length_pos_of_mem hx
    rw [List.length_cons]; omega
/-- the states that are reached: as many as the search counts -/
theorem q_len {f g : api_Fleet} {A B : List api_Rotation} (hA : SeenOk f A) (h : ∀ t ∈ A, t ∈ B) : A.length ≤ B.length := by
  have := nodup_len (l := A.map numP) (m := B.map numP) hA.nodup (fun x hx => by
    obtain ⟨t, ht, rfl⟩ := List.mem_map.1 hx
    exact List.mem_map_of_mem (h t ht))
  simpa using this

theorem idx_end {f : api_Fleet} {E : List search_found} (hE : E.length ≤ 65536) : ∃ d, slices_IndexFunc_search_found_at_search_end_1_b E f = some (d, f) ∧ ((d = -1 ∧ ∀ x ∈ E, endedP f x.Rotation = false) ∨ ∃ (i : Nat) (x : search_found), d = (i : Int) ∧ E[i]? = some x ∧ endedP f x.Rotation = true ∧ ∀ (j : Nat) (y : search_found), j < i → E[j]? = some y → endedP f y.Rotation = false) := by
  have key : ∀ (m i : Nat), i + m = E.length → (∀ (j : Nat) (y : search_found), j < i → E[j]? = some y → endedP f y.Rotation = false) →
      ∃ e, iter (slices_IndexFunc_search_found_at_search_end_1_b_l0 E) ((i : Int), f.Slots, f.Consumers) = some e ∧ ((e = .inl (f.Slots, f.Consumers) ∧ ∀ x ∈ E, endedP f x.Rotation = false) ∨ ∃ (i : Nat) (x : search_found), e = .inr ((i : Int), f) ∧ E[i]? = some x ∧ endedP f x.Rotation = true ∧ ∀ (j : Nat) (y : search_found), j < i → E[j]? = some y → endedP f y.Rotation = false) := fun m => by
    induction m with
    | zero =>
      intro i h hn
      refine ⟨_, iter_out (e := .inl (f.Slots, f.Consumers)) ?_, .inl ⟨rfl, fun x hx => ?_⟩⟩
      · unfold slices_IndexFunc_search_found_at_search_end_1_b_l0
        rw [if_neg (by simp; omega)]
      · obtain ⟨j, hj⟩ := List.getElem?_of_mem hx
        exact hn j x (by have := (List.getElem?_eq_some_iff.1 hj).1; omega) hj
    | succ m ih =>
      intro i h hn
      have hi : i < E.length := by omega
      have hstep : slices_IndexFunc_search_found_at_search_end_1_b_l0 E ((i : Int), f.Slots, f.Consumers) = some (if endedP f E[i].Rotation = true then .out (.inr ((i : Int), f)) else .go (((i + 1 : Nat) : Int), f.Slots, f.Consumers)) := by
        unfold slices_IndexFunc_search_found_at_search_end_1_b_l0 search_end_1_cb
        simp only
        rw [if_pos (by simp; omega), idx_lt hi]
        simp only [Option.bind_some, fended_sp]
        rw [w64 (by omega) (by omega)]
        by_cases he : endedP f E[i].Rotation = true
        · rw [if_pos he, if_pos he]
        · rw [if_neg he, if_neg he]; rfl
      by_cases he : endedP f E[i].Rotation = true
      · rw [if_pos he] at hstep
        exact ⟨_, iter_out hstep, .inr ⟨i, E[i], rfl, List.getElem?_eq_getElem hi, he, hn⟩⟩
      · rw [if_neg he] at hstep
        rw [iter_go hstep]
        refine ih (i + 1) (by omega) fun j y hj hy => ?_
        by_cases hji : j < i
        · exact hn j y hji hy
        · have : j = i := by omega
          subst this
          rw [List.getElem?_eq_getElem hi] at hy
          obtain rfl := Option.some.inj hy
          exact Bool.eq_false_iff.2 he
  obtain ⟨e, h1, h2⟩ := key E.length 0 (by omega) (fun j y h => by omega)
  unfold slices_IndexFunc_search_found_at_search_end_1_b
  rw [show (0 : Int) = ((0 : Nat) : Int) from rfl, h1]
  simp only [Option.bind_some]
  rcases h2 with ⟨rfl, h⟩ | ⟨i, x, rfl, h⟩
  · exact ⟨-1, rfl, .inl ⟨rfl, h⟩⟩
  · exact ⟨(i : Int), rfl, .inr ⟨i, x, rfl, h⟩⟩
theorem scheck_sp (f : api_Fleet) (s : api_Rotation) : search_check f s = some (if ¬ RightOk f s then 36 else if 3 < (f.Consumers.length : Int) then 3 else 0) := by
  unfold search_check
  rw [right_sp]
  by_cases h : RightOk f s
  · simp only [h, decide_true, Option.bind_some, not_true_eq_false, if_false]
    rw [if_neg (by simp)]
    by_cases h3 : 3 < (f.Consumers.length : Int) <;> simp [h3]
  · simp [h]
theorem check0 {f : api_Fleet} {s : api_Rotation} (h3 : f.Consumers.length ≤ 3) (hr : RightOk f s) : (if ¬ RightOk f s then (36 : Int) else if 3 < (f.Consumers.length : Int) then 3 else 0) = 0 := by
  rw [if_neg (not_not_intro hr), if_neg (by omega)]
/-- the queue and the first end in it -/
theorem end_ex {f : api_Fleet} {s : api_Rotation} (h3 : f.Consumers.length ≤ 3) (hr : RightOk f s) : ∃ E d, search_end f s = some (E, d, 0) ∧ QI f s E E.length 0 ∧ ((d = -1 ∧ found f s (-1)) ∨ ∃ (i : Nat) (x : search_found), d = (i : Int) ∧ E[i]? = some x ∧ endedP f x.Rotation = true ∧ found f s x.far) := by
  obtain ⟨E, h1, h2⟩ := all_ex h3 hr
  have hEl : E.length ≤ 65536 := by simpa using seen_len h2.seen h3
  obtain ⟨d, g1, g2⟩ := idx_end (f := f) hEl
  refine ⟨E, d, ?_, h2, ?_⟩
  · unfold search_end
    rw [scheck_sp, check0 h3 hr]
    simp only [Option.bind_some]
    rw [if_neg (by simp), h1]
    simp only [Option.bind_some, g1]
  · rcases g2 with ⟨rfl, g⟩ | ⟨i, x, rfl, hx, he, hn⟩
    · left
      refine ⟨rfl, .inl ⟨rfl, fun k t ht => ?_⟩⟩
      obtain ⟨x, hx, rfl, _⟩ := q_all hr h2 k t ht
      exact g x hx
    · right
      refine ⟨i, x, rfl, hx, he, .inr ⟨(h2.fb i x hx).1, ⟨x.Rotation, q_reach hr h2 (i + 1) i x (by omega) hx, he⟩, fun k t ht hte => ?_⟩⟩
      obtain ⟨y, hy, rfl, hk⟩ := q_all hr h2 k t ht
      obtain ⟨j, hj⟩ := List.getElem?_of_mem hy
      have hij : i ≤ j := Nat.le_of_not_lt fun hlt => by
        have := hn j y hlt hj
        rw [hte] at this; cases this
      have := h2.mono i j x y hij hx hj
      omega
theorem found_far {f : api_Fleet} {s : api_Rotation} {d e : Int} (h1 : found f s d) (h2 : found f s e) : d = e := by
  rcases h1 with ⟨rfl, a⟩ | ⟨a0, ⟨t, a1, a2⟩, a3⟩ <;> rcases h2 with ⟨rfl, b⟩ | ⟨b0, ⟨u, b1, b2⟩, b3⟩
  · rfl
  · rw [a _ u b1] at b2; cases b2
  · rw [b _ t a1] at a2; cases a2
  · have := a3 _ u b1 b2
    have := b3 _ t a1 a2
    omega

theorem dist_ex {f : api_Fleet} {s : api_Rotation} (h3 : f.Consumers.length ≤ 3) (hr : RightOk f s) : ∃ d, search_Distance f s = some ((if 0 > d then 0 else d), decide (0 ≤ d), 0) ∧ found f s d := by
  obtain ⟨E, d, h1, h2, h4⟩ := end_ex h3 hr
  unfold search_Distance
  rw [h1]
  simp only [Option.bind_some]
  rcases h4 with ⟨rfl, hf⟩ | ⟨i, x, rfl, hx, he, hf⟩
  · exact ⟨-1, rfl, hf⟩
  · have := (h2.fb i x hx).1
    refine ⟨x.far, ?_, hf⟩
    rw [if_neg (by simp), idx_nat, hx]
    simp only [Option.bind_some]
    rw [if_neg (by omega), decide_eq_true this]
/-! Turned around -/
/-! How a measure bounds the distance -/
theorem pot {f : api_Fleet} {s0 : api_Rotation} (μ : api_Rotation → Nat) (hr : RightOk f s0) (hs : ∀ s x, RightOk f s → safeP f s x = true → μ s ≤ μ (applyP f s x).1 + 1) : ∀ (k : Nat) (t : api_Rotation), reach f s0 k t → μ s0 ≤ μ t + k := fun k => by
  induction k with
  | zero => intro t ht; rw [reach_0 ht]; omega
  | succ k ih =>
    intro t ht
    obtain ⟨u, h1, h2⟩ := reach_succ hr ht
    have hu := reach_right hr h1
    obtain ⟨x, hx, rfl⟩ := (mem_succs hu).1 h2
    have := ih u h1
    have := hs u x hu hx
    omega
theorem reach_cons {f : api_Fleet} {s t : api_Rotation} {x : api_Step} {k : Nat} (hx : safeP f s x = true) (h : reach f (applyP f s x).1 k t) : reach f s (k + 1) t := by
  obtain ⟨l, h1, h2, h3⟩ := h
  exact ⟨x :: l, ⟨hx, h1⟩, h2, by simp [h3]⟩
theorem found_is {f : api_Fleet} {s t : api_Rotation} {d : Nat} (h1 : reach f s d t) (h2 : endedP f t = true) (h3 : ∀ (k : Nat) (u : api_Rotation), reach f s k u → endedP f u = true → d ≤ k) : found f s (d : Int) :=
  .inr ⟨by omega, ⟨t, by rw [Int.toNat_natCast]; exact h1, h2⟩, fun k u a b => by have := h3 k u a b; omega⟩
/-! The law of what is reached -/
theorem SearchLess_in {f : api_Fleet} {s : api_Rotation} (h3 : f.Consumers.length ≤ 3) (hr : RightOk f s) {E : List search_found} (h : QI f s E E.length 0) : 1 ≤ E.length ∧ (E.length = 1 ↔ (choicesC (safeP f s) f.Consumers.length) = []) := by
  have h0 : 0 < E.length := (List.getElem?_eq_some_iff.1 h.hd).1
  refine ⟨h0, fun h1 => ?_, fun hc => ?_⟩
  · cases hc : choicesC (safeP f s) f.Consumers.length with
    | nil => rfl
    | cons x l =>
      exfalso
      have hx : safeP f s x = true := (mem_choicesC.1 (by rw [hc]; exact List.mem_cons_self ..)).2.2.2.2
      obtain ⟨_, hk, hok, e⟩ := apply_right hr (safe_possible hx)
      obtain ⟨y, hy, e2, _⟩ := h.clo 0 _ h0 h.hd (applyP f s x).1 ((mem_succs hr).2 ⟨x, hx, rfl⟩)
      obtain ⟨j, hj⟩ := List.getElem?_of_mem hy
      have : j = 0 := by have := (List.getElem?_eq_some_iff.1 hj).1; omega
      subst this
      rw [h.hd] at hj
      obtain rfl := Option.some.inj hj
      exact next_ne hr hk hok (by rw [← e]; exact e2)
  · apply Nat.le_antisymm _ h0
    apply Nat.le_of_not_lt
    intro h1
    have hx : E[1]? = some E[1] := List.getElem?_eq_getElem h1
    rcases h.par 1 _ hx with ⟨a, _⟩ | ⟨b, y, _, a2, a3, _, a5, _⟩
    · cases a
    · have : b = 0 := by omega
      subst this
      rw [h.hd] at a3
      obtain rfl := Option.some.inj a3
      obtain ⟨_, hk, _⟩ := apply_right hr (safe_possible a5)
      have := mem_choicesC.2 ⟨hk.1, hk.2.1, hk.2.2.1, hk.2.2.2.1, a5⟩
      rw [hc] at this
      cases this

/-! The example: four steps -/
def fS : api_Fleet := ⟨2, [⟨0, true, true⟩]⟩
def sS (k v st us : Int) : api_Rotation := ⟨k, v, [⟨true, st, us⟩]⟩
theorem fS_ok : FleetOk fS := by decide
theorem sS_right {k v st us : Int} (h : (k = 1 ∧ v = 1 ∧ st = 1 ∧ us = 1) ∨ (k = 3 ∧ (v = 1 ∨ v = 2) ∧ (st = 1 ∨ st = 2 ∨ st = 3) ∧ us = st)) : RightOk fS (sS k v st us) := by
  refine ⟨fS_ok, ?_, ?_, rfl, fun i h1 h2 => ?_⟩
  · rcases h with ⟨rfl, _⟩ | ⟨rfl, _⟩ <;> simp [sS]
  · rcases h with ⟨rfl, rfl, _⟩ | ⟨rfl, rfl | rfl, _⟩
    · exact (by decide : bitsP 1 1 true = true)
    · exact (by decide : bitsP 1 3 true = true)
    · exact (by decide : bitsP 2 3 true = true)
  · have : i = 0 := by simp [fS] at h2; omega
    subst this
    have q1 : unitP ⟨0, true, true⟩ ⟨true, 1, 1⟩ 3 = true := by decide
    have q2 : unitP ⟨0, true, true⟩ ⟨true, 2, 2⟩ 3 = true := by decide
    have q3 : unitP ⟨0, true, true⟩ ⟨true, 3, 3⟩ 3 = true := by decide
    rcases h with ⟨rfl, rfl, rfl, rfl⟩ | ⟨rfl, rfl | rfl, rfl | rfl | rfl, rfl⟩
    · exact (by decide : unitP ⟨0, true, true⟩ ⟨true, 1, 1⟩ 1 = true)
    · exact q1
    · exact q2
    · exact q3
    · exact q1
    · exact q2
    · exact q3
theorem sS_safe {k v st us k' v' st' us' kind : Int} (h : RightOk fS (sS k v st us)) (h' : RightOk fS (sS k' v' st' us')) (hk : kindOk fS ⟨kind, 0⟩) (ho : okStep fS (sS k v st us) ⟨kind, 0⟩ = true) (hn : nextS fS (sS k v st us) ⟨kind, 0⟩ = sS k' v' st' us') (hw : servedRaw fS (sS k' v' st' us') = [0]) (hw0 : servedRaw fS (sS k v st us) = [0]) : safeP fS (sS k v st us) ⟨kind, 0⟩ = true ∧ (applyP fS (sS k v st us) ⟨kind, 0⟩).1 = sS k' v' st' us' := by
  have e := apply_eq h hk ho
  rw [hn] at e
  refine ⟨?_, by rw [e]⟩
  unfold safeP
  rw [e]
  simp only [beq_self_eq_true, Bool.true_and, decide_eq_true_eq]
  intro p hp
  rw [(servedP_ok h).2, hw0] at hp
  rw [(servedP_ok h').2, hw]
  exact hp
theorem fS_reach : reach fS (startR fS) 4 (sS 3 2 2 2) := by
  have r0 : RightOk fS (sS 1 1 1 1) := sS_right (by simp)
  have r1 : RightOk fS (sS 3 1 1 1) := sS_right (by simp)
  have r2 : RightOk fS (sS 3 1 3 3) := sS_right (by simp)
  have r3 : RightOk fS (sS 3 2 3 3) := sS_right (by simp)
  have r4 : RightOk fS (sS 3 2 2 2) := sS_right (by simp)
  obtain ⟨a1, b1⟩ := sS_safe (kind := 1) r0 r1 (by unfold kindOk; decide) (by decide) rfl (by decide) (by decide)
  obtain ⟨a2, b2⟩ := sS_safe (kind := 4) r1 r2 (by unfold kindOk; decide) (by decide) rfl (by decide) (by decide)
  obtain ⟨a3, b3⟩ := sS_safe (kind := 3) r2 r3 (by unfold kindOk; decide) (by decide) rfl (by decide) (by decide)
  obtain ⟨a4, b4⟩ := sS_safe (kind := 7) r3 r4 (by unfold kindOk; decide) (by decide) rfl (by decide) (by decide)
  refine reach_cons (x := ⟨1, 0⟩) a1 ?_
  rw [show (applyP fS (startR fS) ⟨1, 0⟩).1 = sS 3 1 1 1 from b1]
  refine reach_cons a2 ?_
  rw [b2]
  refine reach_cons a3 ?_
  rw [b3]
  refine reach_cons a4 ?_
  rw [b4]
  exact ⟨[], trivial, rfl, rfl⟩
def muS (s : api_Rotation) : Nat := (if s.Known = 3 then 0 else 1) + (if s.Valid = 2 then 0 else 1) + (if (unitAt s 0).Stored = 2 then 0 else if (unitAt s 0).Stored = 3 then 1 else 2)
theorem muS_step (s : api_Rotation) (x : api_Step) (hr : RightOk fS s) (hx : safeP fS s x = true) : muS s ≤ muS (applyP fS s x).1 + 1 := by
  obtain ⟨hr', hk, hok, e⟩ := apply_right hr (safe_possible hx)
  rw [e]
  have hl : s.Units.length = 1 := hr.2.2.2.1
  have hst := unitP_stored (hr.unit (i := 0) (by omega) (by simp [fS]))
  rw [unitAt_get (by omega)] at hst
  obtain ⟨k1, k2, k3, k4, k5⟩ := hk
  have hx0 : x.Unit.toNat = 0 := by simp [fS] at k4; omega
  have hc : fS.Consumers.getD x.Unit.toNat default = ⟨0, true, true⟩ := by rw [hx0]; rfl
  have hu : s.Units.getD x.Unit.toNat default = unitAt s 0 := by rw [hx0]; rfl
  have hset : ∀ u : api_Unit, unitAt (⟨s.Known, s.Valid, s.Units.set x.Unit.toNat u⟩ : api_Rotation) 0 = u := fun u => by rw [hx0, unitAt_set (by omega), if_pos rfl]
  have hsame : ∀ k v : Int, unitAt (⟨k, v, s.Units⟩ : api_Rotation) 0 = unitAt s 0 := fun _ _ => rfl
  unfold okStep at hok
  unfold nextS muS
  by_cases c1 : x.Kind = 1
  · rw [if_pos c1]; simp only [hsame]; split <;> split <;> split <;> omega
  rw [if_neg c1] at hok ⊢
  by_cases c2 : x.Kind = 2
  · rw [if_pos c2]; simp only [hsame]; split <;> split <;> split <;> omega
  rw [if_neg c2] at hok ⊢
  by_cases c3 : x.Kind = 3
  · rw [if_pos c3]; simp only [hsame]; split <;> split <;> split <;> omega
  rw [if_neg c3] at hok ⊢
  by_cases c8 : x.Kind = 8
  · rw [if_pos c8]; simp only [hsame]; split <;> split <;> split <;> omega
  rw [if_neg c8] at hok ⊢
  rw [hc, hu] at hok ⊢
  rw [hset]
  have hf : ∀ u : api_Unit, (fixU ⟨0, true, true⟩ u).Stored = u.Stored := fun u => by unfold fixU; cases u.Up <;> rfl
  have k4567 : x.Kind = 4 ∨ x.Kind = 5 ∨ x.Kind = 6 ∨ x.Kind = 7 := by omega
  rcases k4567 with q | q | q | q
  · rw [q, us4] at hok ⊢
    simp only [hf, Bool.and_eq_true, beq_iff_eq] at hok ⊢
    rw [hok.2]; simp
  · rw [q, us5]; simp only; split <;> split <;> split <;> omega
  · rw [q, us6]; simp only; split <;> split <;> split <;> omega
  · rw [q, us7] at hok ⊢
    simp only [hf, beq_iff_eq] at hok ⊢
    rw [hok]; simp
end Go.Vl
