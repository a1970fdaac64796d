/- Plain laws of fleets: which are valid, which states are right. Conditions: none. -/
import Derived.Test.YtclmnpkhopioiabSm
import Derived.Test.YtclmnpkhopioiabPlB
set_option linter.unusedSimpArgs false
set_option linter.unusedVariables false
namespace Go.Vl
open Go

def bitsP (x known : Int) (two : Bool) : Bool := decide (0 < x) && (decide (x ≤ 3) && ((bAndNot .i64 x known == 0) && (two || x != 3)))
def unitP (c : api_Consumer) (u : api_Unit) (known : Int) : Bool := bitsP u.Stored known c.Dual && (bif u.Up then bitsP u.Used known c.Dual && (!c.Live || u.Used == u.Stored) else u.Used == 0)
def poolP (c : api_Consumer) : Bool := decide (0 ≤ c.Pool) && decide (c.Pool ≤ 7)
def FleetOk (f : api_Fleet) : Prop := (f.Slots = 1 ∨ f.Slots = 2) ∧ 1 ≤ f.Consumers.length ∧ f.Consumers.length ≤ 8 ∧ ∀ i, (h : i < f.Consumers.length) → poolP f.Consumers[i] = true
instance (f : api_Fleet) : Decidable (FleetOk f) := by unfold FleetOk; infer_instance
def RightOk (f : api_Fleet) (s : api_Rotation) : Prop := FleetOk f ∧ (s.Known = 1 ∨ s.Known = 3) ∧ bitsP s.Valid s.Known (f.Slots == 2) = true ∧ s.Units.length = f.Consumers.length ∧
  ∀ i, (h : i < s.Units.length) → (h' : i < f.Consumers.length) → unitP f.Consumers[i] s.Units[i] s.Known = true
instance (f : api_Fleet) (s : api_Rotation) : Decidable (RightOk f s) := by unfold RightOk; infer_instance

theorem bits_sp (x k : Int) (t : Bool) : fleet_bits x k t = some (bitsP x k t) := rfl
theorem in_sp (a b c : Int) : ref32_in a b c = some (decide (b ≤ a) && decide (a ≤ c)) := rfl

/-- an index loop over a list, as the walks print it -/
theorem contains_pool {l : List api_Consumer} (hl : l.length ≤ 1000) : slices_ContainsFunc_api_Consumer_at_fleet_Check_1 l = some (decide (¬ ∀ i, (h : i < l.length) → poolP l[i] = true)) := by
  have key : ∀ (m i : Nat), i + m = l.length → ∃ e, iter (slices_IndexFunc_api_Consumer_at_fleet_Check_1_l0 l) (i : Int) = some e ∧ ((e = .inl () ∧ ∀ j, i ≤ j → (h : j < l.length) → poolP l[j] = true) ∨ (∃ j : Nat, e = .inr (j : Int) ∧ i ≤ j ∧ ∃ h : j < l.length, poolP l[j] = false)) := fun m => by
    induction m with
    | zero =>
      intro i h
      refine ⟨.inl (), iter_out ?_, .inl ⟨rfl, fun j h1 h2 => by omega⟩⟩
      unfold slices_IndexFunc_api_Consumer_at_fleet_Check_1_l0
      rw [if_neg (by simp; omega)]
    | succ m ih =>
      intro i h
      have hi : i < l.length := by omega
      by_cases hp : poolP l[i] = true
      · obtain ⟨e, h1, h2⟩ := ih (i + 1) (by omega)
        refine ⟨e, ?_, ?_⟩
        · rw [← h1]
          refine iter_go ?_
          unfold slices_IndexFunc_api_Consumer_at_fleet_Check_1_l0
          rw [if_pos (by simp; omega), idx_lt hi]
          simp only [Option.bind_some, fleet_Check_1]
          have : ¬ (l[i].Pool < 0) ∧ ¬ (7 < l[i].Pool) := by simp [poolP] at hp; omega
          rw [if_neg (by simp [this.1, this.2]), w64 (by omega) (by omega)]; rfl
        · rcases h2 with ⟨h3, h4⟩ | ⟨j, h3, h4, h5⟩
          · exact .inl ⟨h3, fun j h5 h6 => by
              rcases Nat.lt_or_eq_of_le h5 with h7 | h7
              · exact h4 j h7 h6
              · subst h7; exact hp⟩
          · exact .inr ⟨j, h3, by omega, h5⟩
      · refine ⟨.inr (i : Int), iter_out ?_, .inr ⟨i, rfl, Nat.le_refl i, hi, by simpa using hp⟩⟩
        unfold slices_IndexFunc_api_Consumer_at_fleet_Check_1_l0
        rw [if_pos (by simp; omega), idx_lt hi]
        simp only [Option.bind_some, fleet_Check_1]
        have : l[i].Pool < 0 ∨ 7 < l[i].Pool := by simp [poolP] at hp; omega
        rw [if_pos (by simpa using this)]
  obtain ⟨e, h1, h2⟩ := key l.length 0 (by omega)
  unfold slices_ContainsFunc_api_Consumer_at_fleet_Check_1 slices_IndexFunc_api_Consumer_at_fleet_Check_1
  rw [show (0 : Int) = ((0 : Nat) : Int) from rfl, h1]
  rcases h2 with ⟨rfl, h3⟩ | ⟨j, rfl, h3, h4, h5⟩
  · simp only [Option.bind_some]
    congr 1
    have : ∀ i, (h : i < l.length) → poolP l[i] = true := fun i h => h3 i (Nat.zero_le i) h
    simp [this]
  · simp only [Option.bind_some]
    congr 1
    have : ¬ ∀ i, (h : i < l.length) → poolP l[i] = true := fun h => by have := h j h4; rw [h5] at this; cases this
    simp only [this, not_false_iff, decide_true]
    simp
theorem check_sp (f : api_Fleet) : fleet_Check f = some (if FleetOk f then 0 else 36) := by
  unfold fleet_Check
  by_cases h1 : f.Slots = 1 ∨ f.Slots = 2
  · by_cases h2 : 1 ≤ f.Consumers.length
    · by_cases h3 : f.Consumers.length ≤ 8
      · have hc := contains_pool (l := f.Consumers) (by omega)
        have e1 : ¬ (decide ((f.Consumers.length : Int) < 1)) = true := by simp; omega
        have e2 : ¬ (decide (8 < (f.Consumers.length : Int))) = true := by simp; omega
        by_cases h4 : ∀ i, (h : i < f.Consumers.length) → poolP f.Consumers[i] = true
        · have hok : FleetOk f := ⟨h1, h2, h3, h4⟩
          rw [if_pos hok]
          rcases h1 with h1 | h1 <;> simp [h1, e1, e2, hc, h4]
          all_goals (rw [if_neg (by omega), if_neg (by omega)]; simp)
        · have hok : ¬ FleetOk f := fun h => h4 h.2.2.2
          rw [if_neg hok]
          rcases h1 with h1 | h1 <;> simp [h1, e1, e2, hc, h4]
          all_goals (rw [if_neg (by omega), if_neg (by omega)]; simp)
      · have hok : ¬ FleetOk f := fun h => h3 h.2.2.1
        rw [if_neg hok]
        have e1 : ¬ (decide ((f.Consumers.length : Int) < 1)) = true := by simp; omega
        have e2 : (decide (8 < (f.Consumers.length : Int))) = true := by simp; omega
        rcases h1 with h1 | h1 <;> simp only [h1, e1, e2] <;> simp
    · have hok : ¬ FleetOk f := fun h => h2 h.2.1
      rw [if_neg hok]
      have e1 : (decide ((f.Consumers.length : Int) < 1)) = true := by simp; omega
      rcases h1 with h1 | h1 <;> simp only [h1, e1] <;> simp
  · have hok : ¬ FleetOk f := fun h => h1 h.1
    rw [if_neg hok]
    have a1 : (f.Slots != 1) = true := by simp; omega
    have a2 : (f.Slots != 2) = true := by simp; omega
    simp only [a1, a2]; simp
theorem unit_sp (c : api_Consumer) (u : api_Unit) (k : Int) : fleet_unit c u k = some (unitP c u k) := by
  unfold fleet_unit unitP
  simp only [bits_sp, Option.bind_some]
  cases bitsP u.Stored k c.Dual with
  | false => simp
  | true =>
    cases hu : u.Up with
    | false => simp
    | true =>
      cases bitsP u.Used k c.Dual with
      | false => simp
      | true => cases c.Live <;> simp
theorem right_loop (f : api_Fleet) (s : api_Rotation) (hl : s.Units.length = f.Consumers.length) (h8 : f.Consumers.length ≤ 1000) : iter (fleet_Right_l0 s f) 0 =
    some (if ∀ i, (h : i < s.Units.length) → (h' : i < f.Consumers.length) → unitP f.Consumers[i] s.Units[i] s.Known = true then .inl () else .inr false) := by
  rw [iter_all s.Units.length (fun i => if h : i < s.Units.length ∧ i < f.Consumers.length then unitP f.Consumers[i] s.Units[i] s.Known else true) (fun i hi => ?_) ?_]
  · congr 1
    have : (∀ i, i < s.Units.length → (if h : i < s.Units.length ∧ i < f.Consumers.length then unitP f.Consumers[i] s.Units[i] s.Known else true) = true) ↔ ∀ i, (h : i < s.Units.length) → (h' : i < f.Consumers.length) → unitP f.Consumers[i] s.Units[i] s.Known = true :=
      ⟨fun h i h1 h2 => by have := h i h1; rwa [dif_pos ⟨h1, h2⟩] at this, fun h i h1 => by rw [dif_pos ⟨h1, by omega⟩]; exact h i h1 (by omega)⟩
    simp only [this]
  · unfold fleet_Right_l0
    rw [if_neg (by simp)]
  · unfold fleet_Right_l0
    rw [if_pos (by simp; omega), idx_lt hi, idx_lt (by omega : i < f.Consumers.length)]
    simp only [Option.bind_some, unit_sp]
    rw [dif_pos ⟨hi, by omega⟩]
    cases unitP f.Consumers[i] s.Units[i] s.Known with
    | false => simp
    | true => simp; exact w64 (by omega) (by omega)
theorem right_sp (f : api_Fleet) (s : api_Rotation) : fleet_Right f s = some (decide (RightOk f s)) := by
  unfold fleet_Right
  rw [check_sp]
  by_cases hf : FleetOk f
  case neg =>
    have : ¬ RightOk f s := fun h => hf h.1
    simp [hf, this]
  simp only [hf, if_true, Option.bind_some, bits_sp]
  have h8 : f.Consumers.length ≤ 8 := hf.2.2.1
  by_cases hk : s.Known = 1 ∨ s.Known = 3
  case neg =>
    have : ¬ RightOk f s := fun h => hk h.2.1
    have a1 : (s.Known != 1) = true := by simp; omega
    have a2 : (s.Known != 3) = true := by simp; omega
    simp [a1, a2, this]
  cases hb : bitsP s.Valid s.Known (f.Slots == 2) with
  | false =>
    have : ¬ RightOk f s := fun h => by have := h.2.2.1; rw [hb] at this; cases this
    rcases hk with hk | hk <;> simp [hk, this]
  | true =>
    by_cases hl : s.Units.length = f.Consumers.length
    case neg =>
      have : ¬ RightOk f s := fun h => hl h.2.2.2.1
      have hl' : ((s.Units.length : Int) != (f.Consumers.length : Int)) = true := by simp; omega
      rcases hk with hk | hk <;> simp [hk, this, hl']
    have hl' : ((s.Units.length : Int) != (f.Consumers.length : Int)) = false := by simp; omega
    rw [right_loop f s hl (by omega)]
    by_cases hu : ∀ i, (h : i < s.Units.length) → (h' : i < f.Consumers.length) → unitP f.Consumers[i] s.Units[i] s.Known = true
    · have : RightOk f s := ⟨hf, hk, hb, hl, hu⟩
      rw [if_pos hu]
      rcases hk with hk | hk <;> simp [hk, this, hl']
    · have : ¬ RightOk f s := fun h => hu h.2.2.2.2
      rw [if_neg hu]
      rcases hk with hk | hk <;> simp [hk, this, hl']
theorem valid_sp (f : api_Fleet) : ref32_Valid f = some (decide (FleetOk f)) := by
  unfold ref32_Valid
  simp only [in_sp, Option.bind_some]
  by_cases h1 : f.Slots = 1 ∨ f.Slots = 2
  case neg =>
    have : ¬ FleetOk f := fun h => h1 h.1
    have e : (decide (1 ≤ f.Slots) && decide (f.Slots ≤ 2)) = false := by simp; omega
    simp [e, this]
  have e1 : (decide (1 ≤ f.Slots) && decide (f.Slots ≤ 2)) = true := by simp; omega
  by_cases h2 : 1 ≤ f.Consumers.length ∧ f.Consumers.length ≤ 8
  case neg =>
    have : ¬ FleetOk f := fun h => h2 ⟨h.2.1, h.2.2.1⟩
    have e : (decide (1 ≤ (f.Consumers.length : Int)) && decide ((f.Consumers.length : Int) ≤ 8)) = false := by simp; omega
    simp [e1, e, this]
  have e2 : (decide (1 ≤ (f.Consumers.length : Int)) && decide ((f.Consumers.length : Int) ≤ 8)) = true := by simp; omega
  have hloop : iter (ref32_Valid_l0 f) 0 = some (if ∀ i, (h : i < f.Consumers.length) → poolP f.Consumers[i] = true then .inl () else .inr false) := by
    rw [iter_all f.Consumers.length (fun i => if h : i < f.Consumers.length then poolP f.Consumers[i] else true) (fun i hi => ?_) ?_]
    · congr 1
      have : (∀ i, i < f.Consumers.length → (if h : i < f.Consumers.length then poolP f.Consumers[i] else true) = true) ↔ ∀ i, (h : i < f.Consumers.length) → poolP f.Consumers[i] = true :=
        ⟨fun h i h1 => by have := h i h1; rwa [dif_pos h1] at this, fun h i h1 => by rw [dif_pos h1]; exact h i h1⟩
      simp only [this]
    · unfold ref32_Valid_l0
      rw [if_neg (by simp)]
    · unfold ref32_Valid_l0
      rw [if_pos (by simp; omega), idx_lt hi]
      simp only [Option.bind_some, in_sp]
      rw [dif_pos hi]
      unfold poolP
      cases hp : (decide (0 ≤ f.Consumers[i].Pool) && decide (f.Consumers[i].Pool ≤ 7)) with
      | false => simp
      | true => simp; exact w64 (by omega) (by omega)
  rw [hloop]
  by_cases h4 : ∀ i, (h : i < f.Consumers.length) → poolP f.Consumers[i] = true
  · have : FleetOk f := ⟨h1, h2.1, h2.2, h4⟩
    simp only [e1, e2, this, if_pos h4]; simp
  · have : ¬ FleetOk f := fun h => h4 h.2.2.2
    simp only [e1, e2, this, if_neg h4]; simp
theorem rbits_sp (c : api_Consumer) (s : api_Rotation) (x : Int) : ref32_bits c s x = some (bitsP x s.Known c.Dual) := by
  unfold ref32_bits bitsP
  simp only [in_sp, Option.bind_some]
  by_cases h1 : 0 < x
  · by_cases h2 : x ≤ 3
    · have e : (decide (1 ≤ x) && decide (x ≤ 3)) = true := by simp; omega
      simp only [e, h1, h2]
      by_cases h3 : (bAndNot .i64 x s.Known == 0) = true
      · simp only [h3]
        have e' : 1 ≤ x := by omega
        cases c.Dual <;> by_cases h4 : x = 3 <;> simp [h4, e', h2]
      · simp only [h3]; simp
    · have e : (decide (1 ≤ x) && decide (x ≤ 3)) = false := by simp; omega
      simp [e, h2]
  · have e : (decide (1 ≤ x) && decide (x ≤ 3)) = false := by simp; omega
    simp [e, h1]
theorem rright_sp (f : api_Fleet) (s : api_Rotation) : ref32_Right f s = some (decide (RightOk f s)) := by
  unfold ref32_Right
  rw [valid_sp]
  by_cases hf : FleetOk f
  case neg =>
    have : ¬ RightOk f s := fun h => hf h.1
    simp [hf, this]
  simp only [hf, decide_true, Option.bind_some, in_sp]
  have h8 : f.Consumers.length ≤ 8 := hf.2.2.1
  by_cases hk : s.Known = 1 ∨ s.Known = 3
  case neg =>
    have : ¬ RightOk f s := fun h => hk h.2.1
    have a1 : (s.Known != 1) = true := by simp; omega
    have a2 : (s.Known != 3) = true := by simp; omega
    simp [a1, a2, this]
  have hloop : s.Units.length = f.Consumers.length → iter (ref32_Right_l0 s f) 0 = some (if ∀ i, (h : i < s.Units.length) → (h' : i < f.Consumers.length) → unitP f.Consumers[i] s.Units[i] s.Known = true then .inl () else .inr false) := fun hl => by
    rw [iter_all s.Units.length (fun i => if h : i < s.Units.length ∧ i < f.Consumers.length then unitP f.Consumers[i] s.Units[i] s.Known else true) (fun i hi => ?_) ?_]
    · congr 1
      have : (∀ i, i < s.Units.length → (if h : i < s.Units.length ∧ i < f.Consumers.length then unitP f.Consumers[i] s.Units[i] s.Known else true) = true) ↔ ∀ i, (h : i < s.Units.length) → (h' : i < f.Consumers.length) → unitP f.Consumers[i] s.Units[i] s.Known = true :=
        ⟨fun h i h1 h2 => by have := h i h1; rwa [dif_pos ⟨h1, h2⟩] at this, fun h i h1 => by rw [dif_pos ⟨h1, by omega⟩]; exact h i h1 (by omega)⟩
      simp only [this]
    · unfold ref32_Right_l0
      rw [if_neg (by simp)]
    · unfold ref32_Right_l0
      rw [if_pos (by simp; omega), idx_lt hi, idx_lt (by omega : i < f.Consumers.length)]
      simp only [Option.bind_some, rbits_sp]
      rw [dif_pos ⟨hi, by omega⟩, w64 (x := (i : Int) + 1) (by omega) (by omega)]
      unfold unitP
      have hw : ((i : Int) + 1) = ((i + 1 : Nat) : Int) := by omega
      rw [hw]
      cases bitsP s.Units[i].Stored s.Known f.Consumers[i].Dual with
      | false => simp
      | true =>
        cases hu : s.Units[i].Up with
        | false => by_cases h0 : s.Units[i].Used = 0 <;> simp [h0]
        | true =>
          cases bitsP s.Units[i].Used s.Known f.Consumers[i].Dual with
          | false => simp
          | true => cases f.Consumers[i].Live <;> by_cases h0 : s.Units[i].Used = s.Units[i].Stored <;> simp [h0]
  have hv : ∀ t : Bool, bitsP s.Valid s.Known t = ((decide (1 ≤ s.Valid) && decide (s.Valid ≤ 3)) && ((bAndNot .i64 s.Valid s.Known == 0) && (t || s.Valid != 3))) := fun t => by
    unfold bitsP
    rw [← Bool.and_assoc]
    congr 2
  have hs : f.Slots = 1 ∨ f.Slots = 2 := hf.1
  by_cases h1 : (decide (1 ≤ s.Valid) && decide (s.Valid ≤ 3)) = true
  case neg =>
    have h1 := Bool.eq_false_iff.2 h1
    have : ¬ RightOk f s := fun h => by have := h.2.2.1; rw [hv, h1] at this; simp at this
    rcases hk with hk | hk <;> simp [hk, this, h1]
  by_cases h2 : (bAndNot .i64 s.Valid s.Known == 0) = true
  case neg =>
    have h2 := Bool.eq_false_iff.2 h2
    have : ¬ RightOk f s := fun h => by have := h.2.2.1; rw [hv, h2] at this; simp at this
    have h2' : (bAndNot .i64 s.Valid s.Known != 0) = true := by simpa using h2
    rcases hk with hk | hk <;> simp only [h1, hk] at h2' ⊢ <;> simp [h2', this]
  have h2' : (bAndNot .i64 s.Valid s.Known != 0) = false := by simpa using h2
  by_cases h3 : s.Valid = 3 ∧ f.Slots = 1
  · have : ¬ RightOk f s := fun h => by have := h.2.2.1; rw [hv] at this; simp [h3.1, h3.2] at this
    rcases hk with hk | hk <;> (rw [hk, h3.1] at h2'; simp only [h1, hk]; simp [h2', this, h3.1, h3.2])
  have hb : bitsP s.Valid s.Known (f.Slots == 2) = true := by
    rw [hv, h1, h2]
    rcases hs with hs | hs
    · have : s.Valid ≠ 3 := fun e => h3 ⟨e, hs⟩
      simp [hs, this]
    · simp [hs]
  by_cases hl : s.Units.length = f.Consumers.length
  case neg =>
    have : ¬ RightOk f s := fun h => hl h.2.2.2.1
    have hl' : ((s.Units.length : Int) != (f.Consumers.length : Int)) = true := by simp; omega
    by_cases g3 : s.Valid = 3
    · have hs2 : f.Slots = 2 := by rcases hs with hs | hs; exact absurd ⟨g3, hs⟩ h3; exact hs
      rcases hk with hk | hk <;> (rw [hk, g3] at h2'; simp only [h1, hk]; simp [h2', this, g3, hs2, hl'])
    · rcases hk with hk | hk <;> simp only [h1, hk] at h2' ⊢ <;> simp [h2', this, g3, hl']
  have hl' : ((s.Units.length : Int) != (f.Consumers.length : Int)) = false := by simp; omega
  rw [hloop hl]
  have fin : (if ∀ i, (h : i < s.Units.length) → (h' : i < f.Consumers.length) → unitP f.Consumers[i] s.Units[i] s.Known = true then (.inl () : Unit ⊕ Bool) else .inr false) = if RightOk f s then .inl () else .inr false := by
    have : (∀ i, (h : i < s.Units.length) → (h' : i < f.Consumers.length) → unitP f.Consumers[i] s.Units[i] s.Known = true) ↔ RightOk f s := ⟨fun h => ⟨hf, hk, hb, hl, h⟩, fun h => h.2.2.2.2⟩
    simp only [this]
  rw [fin]
  by_cases hr : RightOk f s
  · by_cases g3 : s.Valid = 3
    · have hs2 : f.Slots = 2 := by rcases hs with hs | hs; exact absurd ⟨g3, hs⟩ h3; exact hs
      rcases hk with hk | hk <;> (rw [hk, g3] at h2'; simp only [h1, hk]; simp [h2', hr, g3, hs2, hl'])
    · rcases hk with hk | hk <;> simp only [h1, hk] at h2' ⊢ <;> simp [h2', hr, g3, hl']
  · by_cases g3 : s.Valid = 3
    · have hs2 : f.Slots = 2 := by rcases hs with hs | hs; exact absurd ⟨g3, hs⟩ h3; exact hs
      rcases hk with hk | hk <;> (rw [hk, g3] at h2'; simp only [h1, hk]; simp [h2', hr, g3, hs2, hl'])
    · rcases hk with hk | hk <;> simp only [h1, hk] at h2' ⊢ <;> simp [h2', hr, g3, hl']
end Go.Vl
