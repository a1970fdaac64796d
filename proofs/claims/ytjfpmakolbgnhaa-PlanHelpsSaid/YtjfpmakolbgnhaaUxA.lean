/- Plain laws of the given program's functions (texts laid into one). Conditions: none. -/
import Derived.Test.YtjfpmakolbgnhaaUm
import Derived.Test.YtjfpmakolbgnhaaPlB
set_option linter.unusedSimpArgs false
set_option linter.unusedVariables false
namespace Go.Vl
open Go

def bitsP (x known : Int) (two : Bool) : Bool := decide (0 < x) && (decide (x ≤ 3) && ((bAndNot .i64 x known == 0) && (two || x != 3)))
def unitP (c : api_Consumer) (u : api_Unit) (known : Int) : Bool := bitsP u.Stored known c.Dual && (bif u.Up then bitsP u.Used known c.Dual && (!c.Live || u.Used == u.Stored) else u.Used == 0)
def poolP (c : api_Consumer) : Bool := decide (0 ≤ c.Pool) && decide (c.Pool ≤ 7)
def FleetOk (f : api_Fleet) : Prop := (f.Slots = 1 ∨ f.Slots = 2) ∧ 1 ≤ f.Consumers.length ∧ f.Consumers.length ≤ 8 ∧ ∀ i, (h : i < f.Consumers.length) → poolP f.Consumers[i] = true
instance (f : api_Fleet) : Decidable (FleetOk f) := by unfold FleetOk; infer_instance
def RightOk (f : api_Fleet) (s : api_Rotation) : Prop := FleetOk f ∧ (s.Known = 1 ∨ s.Known = 3) ∧ bitsP s.Valid s.Known (f.Slots == 2) = true ∧ s.Units.length = f.Consumers.length ∧
  ∀ i, (h : i < s.Units.length) → (h' : i < f.Consumers.length) → unitP f.Consumers[i] s.Units[i] s.Known = true
instance (f : api_Fleet) (s : api_Rotation) : Decidable (RightOk f s) := by unfold RightOk; infer_instance

theorem bits_sp (x k : Int) (t : Bool) : fleet_bits x k t = some (bitsP x k t) := rfl
theorem in_sp (a b c : Int) : ref32_in a b c = some (decide (b ≤ a) && decide (a ≤ c)) := rfl

/-- an index loop over a list, as the walks print it -/
theorem contains_pool {l : List api_Consumer} (hl : l.length ≤ 1000) : slices_ContainsFunc_api_Consumer_at_fleet_Check_1 l = some (decide (¬ ∀ i, (h : i < l.length) → poolP l[i] = true)) := by
  have key : ∀ (m i : Nat), i + m = l.length → ∃ e, iter (slices_IndexFunc_api_Consumer_at_fleet_Check_1_l0 l) (i : Int) = some e ∧ ((e = .inl () ∧ ∀ j, i ≤ j → (h : j < l.length) → poolP l[j] = true) ∨ (∃ j : Nat, e = .inr (j : Int) ∧ i ≤ j ∧ ∃ h : j < l.length, poolP l[j] = false)) := fun m => by
    induction m with
    | zero =>
      intro i h
      refine ⟨.inl (), iter_out ?_, .inl ⟨rfl, fun j h1 h2 => by omega⟩⟩
      unfold slices_IndexFunc_api_Consumer_at_fleet_Check_1_l0
      rw [if_neg (by simp; omega)]
    | succ m ih =>
      intro i h
      have hi : i < l.length := by omega
      by_cases hp : poolP l[i] = true
      · obtain ⟨e, h1, h2⟩ := ih (i + 1) (by omega)
        refine ⟨e, ?_, ?_⟩
        · rw [← h1]
          refine iter_go ?_
          unfold slices_IndexFunc_api_Consumer_at_fleet_Check_1_l0
          rw [if_pos (by simp; omega), idx_lt hi]
          simp only [Option.bind_some, fleet_Check_1]
          have : ¬ (l[i].Pool < 0) ∧ ¬ (7 < l[i].Pool) := by simp [poolP] at hp; omega
          rw [if_neg (by simp [this.1, this.2]), w64 (by omega) (by omega)]; rfl
        · rcases h2 with ⟨h3, h4⟩ | ⟨j, h3, h4, h5⟩
          · exact .inl ⟨h3, fun j h5 h6 => by
              rcases Nat.lt_or_eq_of_le h5 with h7 | h7
              · exact h4 j h7 h6
              · subst h7; exact hp⟩
          · exact .inr ⟨j, h3, by omega, h5⟩
      · refine ⟨.inr (i : Int), iter_out ?_, .inr ⟨i, rfl, Nat.le_refl i, hi, by simpa using hp⟩⟩
        unfold slices_IndexFunc_api_Consumer_at_fleet_Check_1_l0
        rw [if_pos (by simp; omega), idx_lt hi]
        simp only [Option.bind_some, fleet_Check_1]
        have : l[i].Pool < 0 ∨ 7 < l[i].Pool := by simp [poolP] at hp; omega
        rw [if_pos (by simpa using this)]
  obtain ⟨e, h1, h2⟩ := key l.length 0 (by omega)
  unfold slices_ContainsFunc_api_Consumer_at_fleet_Check_1 slices_IndexFunc_api_Consumer_at_fleet_Check_1
  rw [show (0 : Int) = ((0 : Nat) : Int) from rfl, h1]
  rcases h2 with ⟨rfl, h3⟩ | ⟨j, rfl, h3, h4, h5⟩
  · simp only [Option.bind_some]
    congr 1
    have : ∀ i, (h : i < l.length) → poolP l[i] = true := fun i h => h3 i (Nat.zero_le i) h
    simp [this]
  · simp only [Option.bind_some]
    congr 1
    have : ¬ ∀ i, (h : i < l.length) → poolP l[i] = true := fun h => by have := h j h4; rw [h5] at this; cases this
    simp only [this, not_false_iff, decide_true]
    simp
theorem check_sp (f : api_Fleet) : fleet_Check f = some (if FleetOk f then 0 else 36) := by
  unfold fleet_Check
  by_cases h1 : f.Slots = 1 ∨ f.Slots = 2
  · by_cases h2 : 1 ≤ f.Consumers.length
    · by_cases h3 : f.Consumers.length ≤ 8
      · have hc := contains_pool (l := f.Consumers) (by omega)
        have e1 : ¬ (decide ((f.Consumers.length : Int) < 1)) = true := by simp; omega
        have e2 : ¬ (decide (8 < (f.Consumers.length : Int))) = true := by simp; omega
        by_cases h4 : ∀ i, (h : i < f.Consumers.length) → poolP f.Consumers[i] = true
        · have hok : FleetOk f := ⟨h1, h2, h3, h4⟩
          rw [if_pos hok]
          rcases h1 with h1 | h1 <;> simp [h1, e1, e2, hc, h4]
          all_goals (rw [if_neg (by omega), if_neg (by omega)]; simp)
        · have hok : ¬ FleetOk f := fun h => h4 h.2.2.2
          rw [if_neg hok]
          rcases h1 with h1 | h1 <;> simp [h1, e1, e2, hc, h4]
          all_goals (rw [if_neg (by omega), if_neg (by omega)]; simp)
      · have hok : ¬ FleetOk f := fun h => h3 h.2.2.1
        rw [if_neg hok]
        have e1 : ¬ (decide ((f.Consumers.length : Int) < 1)) = true := by simp; omega
        have e2 : (decide (8 < (f.Consumers.length : Int))) = true := by simp; omega
        rcases h1 with h1 | h1 <;> simp only [h1, e1, e2] <;> simp
    · have hok : ¬ FleetOk f := fun h => h2 h.2.1
      rw [if_neg hok]
      have e1 : (decide ((f.Consumers.length : Int) < 1)) = true := by simp; omega
      rcases h1 with h1 | h1 <;> simp only [h1, e1] <;> simp
  · have hok : ¬ FleetOk f := fun h => h1 h.1
    rw [if_neg hok]
    have a1 : (f.Slots != 1) = true := by simp; omega
    have a2 : (f.Slots != 2) = true := by simp; omega
    simp only [a1, a2]; simp
theorem unit_sp (c : api_Consumer) (u : api_Unit) (k : Int) : fleet_unit c u k = some (unitP c u k) := by
  unfold fleet_unit unitP
  simp only [bits_sp, Option.bind_some]
  cases bitsP u.Stored k c.Dual with
  | false => simp
  | true =>
    cases hu : u.Up with
    | false => simp
    | true =>
      cases bitsP u.Used k c.Dual with
      | false => simp
      | true => cases c.Live <;> simp
theorem right_loop (f : api_Fleet) (s : api_Rotation) (hl : s.Units.length = f.Consumers.length) (h8 : f.Consumers.length ≤ 1000) : iter (fleet_Right_l0 s f) 0 =
    some (if ∀ i, (h : i < s.Units.length) → (h' : i < f.Consumers.length) → unitP f.Consumers[i] s.Units[i] s.Known = true then .inl () else .inr false) := by
  rw [iter_all s.Units.length (fun i => if h : i < s.Units.length ∧ i < f.Consumers.length then unitP f.Consumers[i] s.Units[i] s.Known else true) (fun i hi => ?_) ?_]
  · congr 1
    have : (∀ i, i < s.Units.length → (if h : i < s.Units.length ∧ i < f.Consumers.length then unitP f.Consumers[i] s.Units[i] s.Known else true) = true) ↔ ∀ i, (h : i < s.Units.length) → (h' : i < f.Consumers.length) → unitP f.Consumers[i] s.Units[i] s.Known = true :=
      ⟨fun h i h1 h2 => by have := h i h1; rwa [dif_pos ⟨h1, h2⟩] at this, fun h i h1 => by rw [dif_pos ⟨h1, by omega⟩]; exact h i h1 (by omega)⟩
    simp only [this]
  · unfold fleet_Right_l0
    rw [if_neg (by simp)]
  · unfold fleet_Right_l0
    rw [if_pos (by simp; omega), idx_lt hi, idx_lt (by omega : i < f.Consumers.length)]
    simp only [Option.bind_some, unit_sp]
    rw [dif_pos ⟨hi, by omega⟩]
    cases unitP f.Consumers[i] s.Units[i] s.Known with
    | false => simp
    | true => simp; exact w64 (by omega) (by omega)
theorem right_sp (f : api_Fleet) (s : api_Rotation) : fleet_Right f s = some (decide (RightOk f s)) := by
  unfold fleet_Right
  rw [check_sp]
  by_cases hf : FleetOk f
  case neg =>
    have : ¬ RightOk f s := fun h => hf h.1
    simp [hf, this]
  simp only [hf, if_true, Option.bind_some, bits_sp]
  have h8 : f.Consumers.length ≤ 8 := hf.2.2.1
  by_cases hk : s.Known = 1 ∨ s.Known = 3
  case neg =>
    have : ¬ RightOk f s := fun h => hk h.2.1
    have a1 : (s.Known != 1) = true := by simp; omega
    have a2 : (s.Known != 3) = true := by simp; omega
    simp [a1, a2, this]
  cases hb : bitsP s.Valid s.Known (f.Slots == 2) with
  | false =>
    have : ¬ RightOk f s := fun h => by have := h.2.2.1; rw [hb] at this; cases this
    rcases hk with hk | hk <;> simp [hk, this]
  | true =>
    by_cases hl : s.Units.length = f.Consumers.length
    case neg =>
      have : ¬ RightOk f s := fun h => hl h.2.2.2.1
      have hl' : ((s.Units.length : Int) != (f.Consumers.length : Int)) = true := by simp; omega
      rcases hk with hk | hk <;> simp [hk, this, hl']
    have hl' : ((s.Units.length : Int) != (f.Consumers.length : Int)) = false := by simp; omega
    rw [right_loop f s hl (by omega)]
    by_cases hu : ∀ i, (h : i < s.Units.length) → (h' : i < f.Consumers.length) → unitP f.Consumers[i] s.Units[i] s.Known = true
    · have : RightOk f s := ⟨hf, hk, hb, hl, hu⟩
      rw [if_pos hu]
      rcases hk with hk | hk <;> simp [hk, this, hl']
    · have : ¬ RightOk f s := fun h => hu h.2.2.2.2
      rw [if_neg hu]
      rcases hk with hk | hk <;> simp [hk, this, hl']
theorem valid_sp (f : api_Fleet) : ref32_Valid f = some (decide (FleetOk f)) := by
  unfold ref32_Valid
  simp only [in_sp, Option.bind_some]
  by_cases h1 : f.Slots = 1 ∨ f.Slots = 2
  case neg =>
    have : ¬ FleetOk f := fun h => h1 h.1
    have e : (decide (1 ≤ f.Slots) && decide (f.Slots ≤ 2)) = false := by simp; omega
    simp [e, this]
  have e1 : (decide (1 ≤ f.Slots) && decide (f.Slots ≤ 2)) = true := by simp; omega
  by_cases h2 : 1 ≤ f.Consumers.length ∧ f.Consumers.length ≤ 8
  case neg =>
    have : ¬ FleetOk f := fun h => h2 ⟨h.2.1, h.2.2.1⟩
    have e : (decide (1 ≤ (f.Consumers.length : Int)) && decide ((f.Consumers.length : Int) ≤ 8)) = false := by simp; omega
    simp [e1, e, this]
  have e2 : (decide (1 ≤ (f.Consumers.length : Int)) && decide ((f.Consumers.length : Int) ≤ 8)) = true := by simp; omega
  have hloop : iter (ref32_Valid_l0 f) 0 = some (if ∀ i, (h : i < f.Consumers.length) → poolP f.Consumers[i] = true then .inl () else .inr false) := by
    rw [iter_all f.Consumers.length (fun i => if h : i < f.Consumers.length then poolP f.Consumers[i] else true) (fun i hi => ?_) ?_]
    · congr 1
      have : (∀ i, i < f.Consumers.length → (if h : i < f.Consumers.length then poolP f.Consumers[i] else true) = true) ↔ ∀ i, (h : i < f.Consumers.length) → poolP f.Consumers[i] = true :=
        ⟨fun h i h1 => by have := h i h1; rwa [dif_pos h1] at this, fun h i h1 => by rw [dif_pos h1]; exact h i h1⟩
      simp only [this]
    · unfold ref32_Valid_l0
      rw [if_neg (by simp)]
    · unfold ref32_Valid_l0
      rw [if_pos (by simp; omega), idx_lt hi]
      simp only [Option.bind_some, in_sp]
      rw [dif_pos hi]
      unfold poolP
      cases hp : (decide (0 ≤ f.Consumers[i].Pool) && decide (f.Consumers[i].Pool ≤ 7)) with
      | false => simp
      | true => simp; exact w64 (by omega) (by omega)
  rw [hloop]
  by_cases h4 : ∀ i, (h : i < f.Consumers.length) → poolP f.Consumers[i] = true
  · have : FleetOk f := ⟨h1, h2.1, h2.2, h4⟩
    simp only [e1, e2, this, if_pos h4]; simp
  · have : ¬ FleetOk f := fun h => h4 h.2.2.2
    simp only [e1, e2, this, if_neg h4]; simp
theorem rbits_sp (c : api_Consumer) (s : api_Rotation) (x : Int) : ref32_bits c s x = some (bitsP x s.Known c.Dual) := by
  unfold ref32_bits bitsP
  simp only [in_sp, Option.bind_some]
  by_cases h1 : 0 < x
  · by_cases h2 : x ≤ 3
    · have e : (decide (1 ≤ x) && decide (x ≤ 3)) = true := by simp; omega
      simp only [e, h1, h2]
      by_cases h3 : (bAndNot .i64 x s.Known == 0) = true
      · simp only [h3]
        have e' : 1 ≤ x := by omega
        cases c.Dual <;> by_cases h4 : x = 3 <;> simp [h4, e', h2]
      · simp only [h3]; simp
    · have e : (decide (1 ≤ x) && decide (x ≤ 3)) = false := by simp; omega
      simp [e, h2]
  · have e : (decide (1 ≤ x) && decide (x ≤ 3)) = false := by simp; omega
    simp [e, h1]
theorem rright_sp (f : api_Fleet) (s : api_Rotation) : ref32_Right f s = some (decide (RightOk f s)) := by
  unfold ref32_Right
  rw [valid_sp]
  by_cases hf : FleetOk f
  case neg =>
    have : ¬ RightOk f s := fun h => hf h.1
    simp [hf, this]
  simp only [hf, decide_true, Option.bind_some, in_sp]
  have h8 : f.Consumers.length ≤ 8 := hf.2.2.1
  by_cases hk : s.Known = 1 ∨ s.Known = 3
  case neg =>
    have : ¬ RightOk f s := fun h => hk h.2.1
    have a1 : (s.Known != 1) = true := by simp; omega
    have a2 : (s.Known != 3) = true := by simp; omega
    simp [a1, a2, this]
  have hloop : s.Units.length = f.Consumers.length → iter (ref32_Right_l0 s f) 0 = some (if ∀ i, (h : i < s.Units.length) → (h' : i < f.Consumers.length) → unitP f.Consumers[i] s.Units[i] s.Known = true then .inl () else .inr false) := fun hl => by
    rw [iter_all s.Units.length (fun i => if h : i < s.Units.length ∧ i < f.Consumers.length then unitP f.Consumers[i] s.Units[i] s.Known else true) (fun i hi => ?_) ?_]
    · congr 1
      have : (∀ i, i < s.Units.length → (if h : i < s.Units.length ∧ i < f.Consumers.length then unitP f.Consumers[i] s.Units[i] s.Known else true) = true) ↔ ∀ i, (h : i < s.Units.length) → (h' : i < f.Consumers.length) → unitP f.Consumers[i] s.Units[i] s.Known = true :=
        ⟨fun h i h1 h2 => by have := h i h1; rwa [dif_pos ⟨h1, h2⟩] at this, fun h i h1 => by rw [dif_pos ⟨h1, by omega⟩]; exact h i h1 (by omega)⟩
      simp only [this]
    · unfold ref32_Right_l0
      rw [if_neg (by simp)]
    · unfold ref32_Right_l0
      rw [if_pos (by simp; omega), idx_lt hi, idx_lt (by omega : i < f.Consumers.length)]
      simp only [Option.bind_some, rbits_sp]
      rw [dif_pos ⟨hi, by omega⟩, w64 (x := (i : Int) + 1) (by omega) (by omega)]
      unfold unitP
      have hw : ((i : Int) + 1) = ((i + 1 : Nat) : Int) := by omega
      rw [hw]
      cases bitsP s.Units[i].Stored s.Known f.Consumers[i].Dual with
      | false => simp
      | true =>
        cases hu : s.Units[i].Up with
        | false => by_cases h0 : s.Units[i].Used = 0 <;> simp [h0]
        | true =>
          cases bitsP s.Units[i].Used s.Known f.Consumers[i].Dual with
          | false => simp
          | true => cases f.Consumers[i].Live <;> by_cases h0 : s.Units[i].Used = s.Units[i].Stored <;> simp [h0]
  have hv : ∀ t : Bool, bitsP s.Valid s.Known t = ((decide (1 ≤ s.Valid) && decide (s.Valid ≤ 3)) && ((bAndNot .i64 s.Valid s.Known == 0) && (t || s.Valid != 3))) := fun t => by
    unfold bitsP
    rw [← Bool.and_assoc]
    congr 2
  have hs : f.Slots = 1 ∨ f.Slots = 2 := hf.1
  by_cases h1 : (decide (1 ≤ s.Valid) && decide (s.Valid ≤ 3)) = true
  case neg =>
    have h1 := Bool.eq_false_iff.2 h1
    have : ¬ RightOk f s := fun h => by have := h.2.2.1; rw [hv, h1] at this; simp at this
    rcases hk with hk | hk <;> simp [hk, this, h1]
  by_cases h2 : (bAndNot .i64 s.Valid s.Known == 0) = true
  case neg =>
    have h2 := Bool.eq_false_iff.2 h2
    have : ¬ RightOk f s := fun h => by have := h.2.2.1; rw [hv, h2] at this; simp at this
    have h2' : (bAndNot .i64 s.Valid s.Known != 0) = true := by simpa using h2
    rcases hk with hk | hk <;> simp only [h1, hk] at h2' ⊢ <;> simp [h2', this]
  have h2' : (bAndNot .i64 s.Valid s.Known != 0) = false := by simpa using h2
  by_cases h3 : s.Valid = 3 ∧ f.Slots = 1
  · have : ¬ RightOk f s := fun h => by have := h.2.2.1; rw [hv] at this; simp [h3.1, h3.2] at this
    rcases hk with hk | hk <;> (rw [hk, h3.1] at h2'; simp only [h1, hk]; simp [h2', this, h3.1, h3.2])
  have hb : bitsP s.Valid s.Known (f.Slots == 2) = true := by
    rw [hv, h1, h2]
    rcases hs with hs | hs
    · have : s.Valid ≠ 3 := fun e => h3 ⟨e, hs⟩
      simp [hs, this]
    · simp [hs]
  by_cases hl : s.Units.length = f.Consumers.length
  case neg =>
    have : ¬ RightOk f s := fun h => hl h.2.2.2.1
    have hl' : ((s.Units.length : Int) != (f.Consumers.length : Int)) = true := by simp; omega
    by_cases g3 : s.Valid = 3
    · have hs2 : f.Slots = 2 := by rcases hs with hs | hs; exact absurd ⟨g3, hs⟩ h3; exact hs
      rcases hk with hk | hk <;> (rw [hk, g3] at h2'; simp only [h1, hk]; simp [h2', this, g3, hs2, hl'])
    · rcases hk with hk | hk <;> simp only [h1, hk] at h2' ⊢ <;> simp [h2', this, g3, hl']
  have hl' : ((s.Units.length : Int) != (f.Consumers.length : Int)) = false := by simp; omega
  rw [hloop hl]
  have fin : (if ∀ i, (h : i < s.Units.length) → (h' : i < f.Consumers.length) → unitP f.Consumers[i] s.Units[i] s.Known = true then (.inl () : Unit ⊕ Bool) else .inr false) = if RightOk f s then .inl () else .inr false := by
    have : (∀ i, (h : i < s.Units.length) → (h' : i < f.Consumers.length) → unitP f.Consumers[i] s.Units[i] s.Known = true) ↔ RightOk f s := ⟨fun h => ⟨hf, hk, hb, hl, h⟩, fun h => h.2.2.2.2⟩
    simp only [this]
  rw [fin]
  by_cases hr : RightOk f s
  · by_cases g3 : s.Valid = 3
    · have hs2 : f.Slots = 2 := by rcases hs with hs | hs; exact absurd ⟨g3, hs⟩ h3; exact hs
      rcases hk with hk | hk <;> (rw [hk, g3] at h2'; simp only [h1, hk]; simp [h2', hr, g3, hs2, hl'])
    · rcases hk with hk | hk <;> simp only [h1, hk] at h2' ⊢ <;> simp [h2', hr, g3, hl']
  · by_cases g3 : s.Valid = 3
    · have hs2 : f.Slots = 2 := by rcases hs with hs | hs; exact absurd ⟨g3, hs⟩ h3; exact hs
      rcases hk with hk | hk <;> (rw [hk, g3] at h2'; simp only [h1, hk]; simp [h2', hr, g3, hs2, hl'])
    · rcases hk with hk | hk <;> simp only [h1, hk] at h2' ⊢ <;> simp [h2', hr, g3, hl']

def fixU (c : api_Consumer) (u : api_Unit) : api_Unit := bif c.Live && u.Up then ⟨u.Up, u.Stored, u.Stored⟩ else u
def unitStep (c : api_Consumer) (u : api_Unit) (kind : Int) (issued : Bool) : Bool × api_Unit :=
  if kind = 4 then (issued && u.Stored == 1, fixU c ⟨u.Up, bif c.Dual then 3 else 2, u.Used⟩)
  else if kind = 7 then (u.Stored == 3, fixU c ⟨u.Up, 2, u.Used⟩)
  else if kind = 5 then (u.Up, ⟨false, u.Stored, 0⟩)
  else if kind = 6 then (!u.Up, ⟨true, u.Stored, u.Stored⟩)
  else (false, fixU c u)
def issuerB (k : Int) : Bool := k == 1 || k == 2 || k == 3 || k == 8
def kindOk (f : api_Fleet) (x : api_Step) : Prop := 1 ≤ x.Kind ∧ x.Kind ≤ 8 ∧ 0 ≤ x.Unit ∧ x.Unit < f.Consumers.length ∧ (issuerB x.Kind = true → x.Unit = 0)
instance (f : api_Fleet) (x : api_Step) : Decidable (kindOk f x) := by unfold kindOk; infer_instance
def okStep (f : api_Fleet) (s : api_Rotation) (x : api_Step) : Bool :=
  if x.Kind = 1 then s.Known == 1 else if x.Kind = 2 then s.Known == 3 && (s.Valid == 1 && f.Slots == 2) else if x.Kind = 3 then s.Known == 3 && s.Valid == 1 else if x.Kind = 8 then s.Valid == 3
  else (unitStep (f.Consumers.getD x.Unit.toNat default) (s.Units.getD x.Unit.toNat default) x.Kind (s.Known == 3)).1
def nextS (f : api_Fleet) (s : api_Rotation) (x : api_Step) : api_Rotation :=
  if x.Kind = 1 then ⟨3, s.Valid, s.Units⟩ else if x.Kind = 2 then ⟨s.Known, 3, s.Units⟩ else if x.Kind = 3 then ⟨s.Known, 2, s.Units⟩ else if x.Kind = 8 then ⟨s.Known, 2, s.Units⟩
  else ⟨s.Known, s.Valid, s.Units.set x.Unit.toNat (unitStep (f.Consumers.getD x.Unit.toNat default) (s.Units.getD x.Unit.toNat default) x.Kind (s.Known == 3)).2⟩
def zeroR : api_Rotation := ⟨0, 0, []⟩
def applyP (f : api_Fleet) (s : api_Rotation) (x : api_Step) : api_Rotation × Int :=
  if ¬ RightOk f s then (zeroR, 36) else if ¬ kindOk f x then (zeroR, 2) else if okStep f s x = false then (zeroR, 37) else (nextS f s x, 0)

theorem and1_2 : bAnd .i64 1 2 = 0 := by decide
theorem and3_2 : bAnd .i64 3 2 = 2 := by decide
theorem or1_2 : bOr .i64 1 2 = 3 := by decide
theorem or3_2 : bOr .i64 3 2 = 3 := by decide
theorem knownB {k : Int} (h : k = 1 ∨ k = 3) : (bAnd .i64 k 2 != 0) = (k == 3) ∧ (bAnd .i64 k 2 == 0) = (k == 1) ∧ bOr .i64 k 2 = 3 := by
  rcases h with rfl | rfl
  · rw [and1_2, or1_2]; decide
  · rw [and3_2, or3_2]; decide
theorem copy_sp {s : api_Rotation} (h0 : 0 < s.Units.length) (h8 : s.Units.length ≤ 1000) : fleet_Copy_own2 s = some s := by
  unfold fleet_Copy_own2 slices_Clone_api_Unit_own0
  rw [ck_t ⟨by omega, h0⟩]; rfl
theorem rcopy_sp {s : api_Rotation} (h8 : s.Units.length ≤ 1000) : ref32_Copy_own2 s = some s := by
  unfold ref32_Copy_own2
  rw [ck_t (by omega)]; rfl
theorem RightOk.len {f : api_Fleet} {s : api_Rotation} (h : RightOk f s) : 0 < s.Units.length ∧ s.Units.length ≤ 8 := by
  have h1 := h.1.2.1; have h2 := h.1.2.2.1; have h3 := h.2.2.2.1; omega
theorem RightOk.unit {f : api_Fleet} {s : api_Rotation} (h : RightOk f s) {i : Nat} (hi : i < s.Units.length) (hi' : i < f.Consumers.length) : unitP f.Consumers[i] s.Units[i] s.Known = true := h.2.2.2.2 i hi hi'
theorem bitsP_val {x k : Int} {t : Bool} (h : bitsP x k t = true) : (x = 1 ∨ x = 2 ∨ x = 3) ∧ (bAndNot .i64 x k = 0) ∧ (t = true ∨ x ≠ 3) := by
  simp only [bitsP, Bool.and_eq_true, decide_eq_true_eq, beq_iff_eq, Bool.or_eq_true, bne_iff_ne] at h
  exact ⟨by omega, h.2.2.1, h.2.2.2⟩
theorem unitP_stored {c : api_Consumer} {u : api_Unit} {k : Int} (h : unitP c u k = true) : (u.Stored = 1 ∨ u.Stored = 2 ∨ u.Stored = 3) := by
  simp only [unitP, Bool.and_eq_true] at h
  exact (bitsP_val h.1).1

theorem change_sp {f : api_Fleet} {s : api_Rotation} {x : api_Step} {i : Nat} (hx : x.Unit = (i : Int)) (hi : i < s.Units.length) (hi' : i < f.Consumers.length) (b : Bool) :
    steps_change_el1_2 f.Consumers[i] s x.Unit x.Kind b = some ((unitStep f.Consumers[i] s.Units[i] x.Kind b).1, ⟨s.Known, s.Valid, s.Units.set i (unitStep f.Consumers[i] s.Units[i] x.Kind b).2⟩) := by
  have hset : ∀ u : api_Unit, idx (s.Units.set i u) (i : Int) = some u := fun u => by rw [idx_lt (by simpa using hi)]; simp
  have hself : s.Units.set i s.Units[i] = s.Units := List.set_getElem_self hi
  have j0 : ∀ (b : Bool) (u : api_Unit), steps_change_el1_2_j0 f.Consumers[i] x.Unit s (b, s.Units.set i u) = some (b, ⟨s.Known, s.Valid, s.Units.set i (fixU f.Consumers[i] u)⟩) := fun b u => by
    unfold steps_change_el1_2_j0 fixU
    rw [hx]
    simp only [hset, Option.bind_some, Int.toNat_natCast, List.set_set]
    cases hL : f.Consumers[i].Live with
    | false => simp
    | true => cases hU : u.Up <;> simp [hU]
  unfold steps_change_el1_2 unitStep
  rw [hx] at j0 ⊢
  simp only [idx_lt hi, Option.bind_some, Int.toNat_natCast]
  by_cases h4 : x.Kind = 4
  · simp only [h4]
    cases hD : f.Consumers[i].Dual <;> cases b <;> simp [j0]
  · by_cases h7 : x.Kind = 7
    · simp [h7, j0]
    · by_cases h5 : x.Kind = 5
      · simp [h5]
      · by_cases h6 : x.Kind = 6
        · simp [h6]
        · have := j0 false s.Units[i]
          rw [hself] at this
          simp [h4, h5, h6, h7, this]

theorem apply_sp (f : api_Fleet) (s : api_Rotation) (x : api_Step) : steps_Apply f s x = some (applyP f s x) := by
  unfold steps_Apply applyP
  simp only [Option.bind_some, right_sp]
  by_cases hr : RightOk f s
  case neg => simp [hr, zeroR]
  obtain ⟨l0, l8⟩ := hr.len
  have hlen := hr.2.2.2.1
  simp only [hr, decide_true, not_true, if_false]
  have hv : ((decide (x.Kind < 1)) || ((decide (8 < x.Kind)) || ((decide (x.Unit < 0)) || ((decide (((s.Units).length : Int) ≤ x.Unit)) || ((bif (decide (1 ≤ x.Kind)) then ((decide (x.Kind ≤ 3)) || (x.Kind == 8)) else (x.Kind == 8)) && (x.Unit != 0)))))) = decide (¬ kindOk f x) := by
    rw [Bool.eq_iff_iff, decide_eq_true_eq]
    simp only [kindOk, issuerB, Bool.or_eq_true, Bool.and_eq_true, decide_eq_true_eq, beq_iff_eq, bne_iff_ne, cond_eq_ite]
    constructor
    · intro h hk
      obtain ⟨k1, k2, k3, k4, k5⟩ := hk
      rcases h with h | h | h | h | ⟨h, h'⟩
      · omega
      · omega
      · omega
      · omega
      · rw [if_pos k1] at h
        simp only [Bool.or_eq_true, decide_eq_true_eq, beq_iff_eq] at h
        exact h' (k5 (by omega))
    · intro h
      refine Classical.byContradiction fun hn => h ?_
      simp only [not_or, not_and, Int.not_lt, Int.not_le] at hn
      refine ⟨by omega, by omega, by omega, by omega, fun hk => Classical.byContradiction fun hu => ?_⟩
      have := hn.2.2.2.2
      rw [if_pos (by omega)] at this
      simp only [Bool.or_eq_true, decide_eq_true_eq, beq_iff_eq] at this
      exact this (by omega) hu
  rw [hv]
  by_cases hk : kindOk f x
  case neg => simp [hk, zeroR]
  simp only [hk, not_true, decide_false, if_false]
  rw [if_neg (by simp), if_neg (by simp), copy_sp l0 (by omega)]
  obtain ⟨k1, k2, k3, k4, k5⟩ := hk
  obtain ⟨i, hi⟩ : ∃ i : Nat, x.Unit = (i : Int) := ⟨x.Unit.toNat, by omega⟩
  have hi1 : i < s.Units.length := by omega
  have hi2 : i < f.Consumers.length := by omega
  obtain ⟨b1, b2, b3⟩ := knownB hr.2.1
  have hstep : steps_step_o1_2 f s x = some (okStep f s x, nextS f s x) := by
    unfold steps_step_o1_2 okStep nextS
    simp only [b1, b3, Option.bind_some]
    by_cases h1 : x.Kind = 1
    · simp only [h1]
      rcases hr.2.1 with hk | hk <;> simp [hk]
    · by_cases h2 : x.Kind = 2
      · simp [h2]
      · by_cases h3 : x.Kind = 3
        · simp [h3]
        · by_cases h8 : x.Kind = 8
          · simp [h8]
          · have e1 : f.Consumers.getD x.Unit.toNat default = f.Consumers[i] := by rw [hi]; simp [List.getD, hi2]
            have e2 : s.Units.getD x.Unit.toNat default = s.Units[i] := by rw [hi]; simp [List.getD, hi1]
            simp only [h1, h2, h3, h8, if_false, e1, e2]
            rw [if_neg (by simpa using h1), if_neg (by simpa using h2), if_neg (by simpa using h3), if_neg (by simpa using h8)]
            have e3 : idx f.Consumers x.Unit = some f.Consumers[i] := by rw [hi]; exact idx_lt hi2
            rw [e3]
            simp only [Option.bind_some]
            rw [ck_t (by rw [hi]; simp; omega), Option.bind_some, change_sp hi hi1 hi2]
            simp only [Option.bind_some]
            rw [hi]; rfl
  simp only [Option.bind_some, hstep]
  cases okStep f s x <;> simp [zeroR]

theorem rkind_sp (f : api_Fleet) (x : api_Step) (h1 : 1 ≤ f.Consumers.length) : ref33_kind f x = some (decide (kindOk f x)) := by
  have j1 : ∀ v, ref33_kind_j1 x f v = some (v && (decide (0 ≤ x.Unit) && decide (x.Unit < (f.Consumers.length : Int)))) := fun v => by
    unfold ref33_kind_j1; cases v <;> simp
  have key : ∀ b : Bool, (b = true ↔ kindOk f x) → b = decide (kindOk f x) := fun b h => by rw [Bool.eq_iff_iff, decide_eq_true_eq]; exact h
  unfold ref33_kind ref33_kind_j0
  simp only [j1]
  by_cases a1 : x.Kind = 1
  · simp [a1, kindOk, issuerB]; rw [Bool.eq_iff_iff]; simp; omega
  by_cases a2 : x.Kind = 2
  · simp [a2, kindOk, issuerB]; rw [Bool.eq_iff_iff]; simp; omega
  by_cases a3 : x.Kind = 3
  · simp [a3, kindOk, issuerB]; rw [Bool.eq_iff_iff]; simp; omega
  by_cases a8 : x.Kind = 8
  · simp [a8, kindOk, issuerB]; rw [Bool.eq_iff_iff]; simp; omega
  have hi : issuerB x.Kind = false := by simp [issuerB, a1, a2, a3, a8]
  by_cases a4 : x.Kind = 4
  · simp [a4, kindOk, issuerB, Bool.decide_and]
  by_cases a5 : x.Kind = 5
  · simp [a5, kindOk, issuerB, Bool.decide_and]
  by_cases a6 : x.Kind = 6
  · simp [a6, kindOk, issuerB, Bool.decide_and]
  by_cases a7 : x.Kind = 7
  · simp [a7, kindOk, issuerB, Bool.decide_and]
  have : ¬ kindOk f x := fun h => by have := h.1; have := h.2.1; omega
  simp [a1, a2, a3, a4, a5, a6, a7, a8, this]

theorem st2 {u : api_Unit} (h : u.Stored = 1 ∨ u.Stored = 2 ∨ u.Stored = 3) : (bAnd .i64 u.Stored 2 == 0) = (u.Stored == 1) := by
  rcases h with h | h | h <;> rw [h] <;> decide
theorem rapply_sp (f : api_Fleet) (s : api_Rotation) (x : api_Step) : ref33_Apply f s x = some (applyP f s x) := by
  unfold ref33_Apply applyP
  simp only [rright_sp, Option.bind_some]
  by_cases hr : RightOk f s
  case neg => simp [hr, zeroR]
  obtain ⟨l0, l8⟩ := hr.len
  have hlen := hr.2.2.2.1
  simp only [hr, decide_true, not_true, if_false]
  rw [rkind_sp f x (by omega)]
  by_cases hk : kindOk f x
  case neg => simp [hk, zeroR]
  simp only [hk, decide_true, not_true, if_false, Option.bind_some]
  rw [if_neg (by simp), if_neg (by simp)]
  obtain ⟨k1, k2, k3, k4, k5⟩ := hk
  obtain ⟨i, hi⟩ : ∃ i : Nat, x.Unit = (i : Int) := ⟨x.Unit.toNat, by omega⟩
  have hi1 : i < s.Units.length := by omega
  have hi2 : i < f.Consumers.length := by omega
  obtain ⟨b1, b2, b3⟩ := knownB hr.2.1
  have hst := unitP_stored (hr.unit hi1 hi2)
  have hdo : ∃ t, ref33_do f s x = some (t, okStep f s x) ∧ (okStep f s x = true → t = nextS f s x) := by
    unfold ref33_do okStep nextS
    have e1 : f.Consumers.getD x.Unit.toNat default = f.Consumers[i] := by rw [hi]; simp [List.getD, hi2]
    have e2 : s.Units.getD x.Unit.toNat default = s.Units[i] := by rw [hi]; simp [List.getD, hi1]
    have e3 : idx f.Consumers x.Unit = some f.Consumers[i] := by rw [hi]; exact idx_lt hi2
    have e4 : idx s.Units x.Unit = some s.Units[i] := by rw [hi]; exact idx_lt hi1
    have e5 : x.Unit.toNat = i := by omega
    rw [rcopy_sp (by omega)]
    simp only [Option.bind_some]
    rw [ck_t (by rw [hi]; simp; omega), Option.bind_some, e4, Option.bind_some, e3, Option.bind_some]
    simp only [b1, b2, b3, e1, e2]
    have j0 : ∀ (v up : Bool) (st us : Int), ref33_do_j0 f.Consumers[i] x s (v, up, st, us) = some (⟨s.Known, s.Valid, s.Units.set i (fixU f.Consumers[i] ⟨up, st, us⟩)⟩, v) := fun v up st us => by
      unfold ref33_do_j0 ref33_do_j1 fixU
      rw [ck_t (by rw [hi]; simp; omega), e5]
      cases hL : f.Consumers[i].Live <;> cases up <;> simp
    by_cases h1 : x.Kind = 1
    · exact ⟨⟨3, s.Valid, s.Units⟩, by rcases hr.2.1 with hk | hk <;> simp [h1, hk], fun _ => by simp [h1]⟩
    by_cases h2 : x.Kind = 2
    · exact ⟨⟨s.Known, bOr .i64 s.Valid 2, s.Units⟩, by simp [h2], fun h => by
        simp [h2] at h
        simp [h2, h.2.1]; exact or1_2⟩
    by_cases h3 : x.Kind = 3
    · exact ⟨⟨s.Known, 2, s.Units⟩, by simp [h3], fun _ => by simp [h3]⟩
    by_cases h8 : x.Kind = 8
    · exact ⟨⟨s.Known, 2, s.Units⟩, by simp [h8], fun _ => by simp [h8]⟩
    simp only [h1, h2, h3, h8, if_false, j0, st2 hst]
    rw [if_neg (by simpa using h1), if_neg (by simpa using h2), if_neg (by simpa using h3), if_neg (by simpa using h8), e5]
    unfold unitStep
    by_cases h4 : x.Kind = 4
    · exact ⟨⟨s.Known, s.Valid, s.Units.set i (fixU f.Consumers[i] ⟨s.Units[i].Up, bif f.Consumers[i].Dual then 3 else 2, s.Units[i].Used⟩)⟩, by cases hD : f.Consumers[i].Dual <;> simp [h4, hD], fun _ => by simp [h4]⟩
    by_cases h7 : x.Kind = 7
    · exact ⟨⟨s.Known, s.Valid, s.Units.set i (fixU f.Consumers[i] ⟨s.Units[i].Up, 2, s.Units[i].Used⟩)⟩, by simp [h7], fun _ => by simp [h7]⟩
    by_cases h5 : x.Kind = 5
    · exact ⟨⟨s.Known, s.Valid, s.Units.set i (fixU f.Consumers[i] ⟨false, s.Units[i].Stored, 0⟩)⟩, by simp [h5], fun _ => by simp [h5, fixU]⟩
    by_cases h6 : x.Kind = 6
    · exact ⟨⟨s.Known, s.Valid, s.Units.set i (fixU f.Consumers[i] ⟨true, s.Units[i].Stored, s.Units[i].Stored⟩)⟩, by simp [h6], fun _ => by simp [h6, fixU]⟩
    exact ⟨⟨s.Known, s.Valid, s.Units.set i (fixU f.Consumers[i] ⟨s.Units[i].Up, s.Units[i].Stored, s.Units[i].Used⟩)⟩, by simp [h4, h5, h6, h7], fun h => by simp [h4, h5, h6, h7] at h⟩
  obtain ⟨t, ht, hn⟩ := hdo
  rw [ht]
  simp only [Option.bind_some]
  cases ho : okStep f s x with
  | false => simp [zeroR]
  | true => simp [hn ho]

/-! The tape -/
def TapeOk (m : make_Tape) : Prop := 0 ≤ m.at_ ∧ m.at_ ≤ 1000000000 ∧ m.L.length ≤ 1000000
theorem next_ex {m : make_Tape} (h : 0 ≤ m.at_ ∧ m.at_ ≤ m.L.length ∧ m.L.length ≤ 1000000) {n : Int} (hn : 0 < n) : ∃ v m', make_Tape_Next m n = some (v, m') ∧ 0 ≤ v ∧ v < n ∧ (0 ≤ m'.at_ ∧ m'.at_ ≤ m'.L.length ∧ m'.L.length ≤ 1000000) := by
  obtain ⟨h1, h2, h3⟩ := h
  unfold make_Tape_Next
  by_cases hb : (m.L.length : Int) ≤ m.at_
  · rw [if_pos (by simpa using hb)]
    exact ⟨0, m, rfl, by omega, hn, h1, h2, h3⟩
  · rw [if_neg (by simpa using hb), idx_toNat h1 (by omega)]
    simp only [Option.bind_some, ck_t (show n ≠ 0 by omega), bAnd16]
    rw [Int.tmod_eq_emod_of_nonneg (Int.emod_nonneg _ (by omega)), w64 (by omega) (by omega)]
    exact ⟨_, _, rfl, Int.emod_nonneg _ (by omega), Int.emod_lt_of_pos _ hn, by simp; omega, by simp; omega, h3⟩
abbrev TOk (m : make_Tape) : Prop := 0 ≤ m.at_ ∧ m.at_ ≤ m.L.length ∧ m.L.length ≤ 1000000
theorem between_ex {m : make_Tape} (h : TOk m) {a b : Int} (hab : a ≤ b) (ha : -1000000 ≤ a) (hb : b ≤ 1000000) : ∃ v m', make_Tape_Between m a b = some (v, m') ∧ a ≤ v ∧ v ≤ b ∧ TOk m' := by
  unfold make_Tape_Between
  rw [w64 (x := b - a) (by omega) (by omega), w64 (x := b - a + 1) (by omega) (by omega)]
  obtain ⟨v, m', h1, h2, h3, h4⟩ := next_ex h (n := b - a + 1) (by omega)
  rw [h1]
  simp only [Option.bind_some]
  rw [w64 (by omega) (by omega)]
  exact ⟨_, _, rfl, by omega, by omega, h4⟩

/-! Fleets, steps, states -/
theorem make_Fleet_ex {m : make_Tape} (h : TOk m) {most : Int} (h1 : 1 ≤ most) (h8 : most ≤ 8) : ∃ f m', make_Fleet m most = some (f, m') ∧ FleetOk f ∧ (f.Consumers.length : Int) ≤ most ∧ (∀ c ∈ f.Consumers, c.Pool = 0 ∨ c.Pool = 1) ∧ TOk m' := by
  unfold make_Fleet
  obtain ⟨sl, m1, e1, s1, s2, t1⟩ := between_ex h (a := 1) (b := 2) (by omega) (by omega) (by omega)
  rw [e1]
  simp only [Option.bind_some]
  obtain ⟨k, m2, e2, k1, k2, t2⟩ := between_ex t1 (a := 1) (b := most) h1 (by omega) (by omega)
  rw [e2]
  simp only [Option.bind_some]
  have key : ∃ e, iter make_Fleet_l0 (k, m2.L, m2.at_, []) = some e ∧ (TOk ⟨e.1, e.2.1⟩ ∧ (e.2.2.length : Int) = k ∧ ∀ c ∈ e.2.2, c.Pool = 0 ∨ c.Pool = 1) := by
    refine iter_ex (fun s => 0 ≤ s.1 ∧ s.1 + (s.2.2.2.length : Int) = k ∧ TOk ⟨s.2.1, s.2.2.1⟩ ∧ ∀ c ∈ s.2.2.2, c.Pool = 0 ∨ c.Pool = 1) (fun s => s.1.toNat) _ ?_ ⟨by simp; omega, by simp, t2, by simp⟩
    rintro ⟨j, L, at_, cs⟩ ⟨g1, g2, g3, g4⟩
    simp only at g1 g2 g3 g4 ⊢
    unfold make_Fleet_l0
    by_cases hj : 0 < j
    · left
      simp only
      rw [if_pos (by simpa using hj)]
      obtain ⟨p, m3, e3, p1, p2, t3⟩ := next_ex g3 (n := 2) (by omega)
      rw [e3]
      simp only [Option.bind_some]
      obtain ⟨q, m4, e4, q1, q2, t4⟩ := next_ex t3 (n := 2) (by omega)
      rw [e4]
      simp only [Option.bind_some]
      obtain ⟨r, m5, e5, r1, r2, t5⟩ := next_ex t4 (n := 2) (by omega)
      rw [e5]
      simp only [Option.bind_some]
      rw [ck_t (by simp; omega), Option.bind_some, w64 (by omega) (by omega)]
      refine ⟨_, rfl, ⟨by simp; omega, by simp; omega, t5, fun c hc => ?_⟩, by simp; omega⟩
      simp only [List.mem_append, List.mem_singleton] at hc
      rcases hc with hc | rfl
      · exact g4 c hc
      · simp; omega
    · right
      simp only
      rw [if_neg (by simpa using hj)]
      exact ⟨_, rfl, g3, by simp; omega, g4⟩
  obtain ⟨e, he, t, hl, hp⟩ := key
  rw [he]
  refine ⟨_, _, rfl, ⟨by simp; omega, by simp; omega, by simp; omega, fun i hi => ?_⟩, by simp; omega, hp, t⟩
  have := hp _ (List.getElem_mem hi)
  unfold poolP
  rcases this with h | h <;> simp [h]

theorem make_Step_ex {m : make_Tape} (h : TOk m) {f : api_Fleet} (hf : FleetOk f) : ∃ x m', make_Step m f = some (x, m') ∧ kindOk f x ∧ TOk m' := by
  unfold make_Step
  have hl := hf.2.1
  have hl8 := hf.2.2.1
  obtain ⟨k, m1, e1, k1, k2, t1⟩ := between_ex h (a := 1) (b := 8) (by omega) (by omega) (by omega)
  rw [e1]
  simp only [Option.bind_some]
  by_cases hk : 4 ≤ k ∧ k ≤ 7
  · rw [if_pos (by simpa using hk)]
    obtain ⟨u, m2, e2, u1, u2, t2⟩ := next_ex t1 (n := (f.Consumers.length : Int)) (by omega)
    rw [e2]
    exact ⟨_, _, rfl, ⟨k1, k2, u1, u2, fun hi => by simp [issuerB] at hi; omega⟩, t2⟩
  · rw [if_neg (by simpa using hk)]
    exact ⟨_, _, rfl, ⟨k1, k2, by simp, by simp; omega, fun _ => rfl⟩, t1⟩

/-! What a step leads to is right -/
theorem an13 : bAndNot .i64 1 3 = 0 := by decide
theorem bits13 {t : Bool} : bitsP 1 3 t = true := by unfold bitsP; rw [an13]; cases t <;> decide
theorem bits3 {t : Bool} : bitsP 2 3 t = true := by unfold bitsP; rw [show bAndNot .i64 2 3 = 0 by decide]; cases t <;> decide
theorem bits33 : bitsP 3 3 true = true := by unfold bitsP; rw [show bAndNot .i64 3 3 = 0 by decide]; decide
theorem bitsP_more {x k : Int} {t : Bool} (h : bitsP x k t = true) (hk : k = 1 ∨ k = 3) : bitsP x 3 t = true := by
  obtain ⟨h1, h2, h3⟩ := bitsP_val h
  rcases h1 with h1 | h1 | h1
  · rw [h1]; exact bits13
  · rw [h1]; exact bits3
  · rcases h3 with h3 | h3
    · rw [h1, h3]; exact bits33
    · exact absurd h1 h3
theorem unitP_iff {c : api_Consumer} {u : api_Unit} {k : Int} : unitP c u k = true ↔ bitsP u.Stored k c.Dual = true ∧ ((u.Up = true ∧ bitsP u.Used k c.Dual = true ∧ (c.Live = true → u.Used = u.Stored)) ∨ (u.Up = false ∧ u.Used = 0)) := by
  unfold unitP
  generalize bitsP u.Stored k c.Dual = A
  generalize bitsP u.Used k c.Dual = B
  cases A <;> cases B <;> cases u.Up <;> cases c.Live <;> simp
theorem unitP_more {c : api_Consumer} {u : api_Unit} {k : Int} (h : unitP c u k = true) (hk : k = 1 ∨ k = 3) : unitP c u 3 = true := by
  rw [unitP_iff] at h ⊢
  obtain ⟨h1, h2⟩ := h
  refine ⟨bitsP_more h1 hk, ?_⟩
  rcases h2 with ⟨a, b, c⟩ | h2
  · exact .inl ⟨a, bitsP_more b hk, c⟩
  · exact .inr h2
theorem unitP_step {c : api_Consumer} {u : api_Unit} {k kind : Int} (h : unitP c u k = true) (hk : k = 1 ∨ k = 3) (hok : (unitStep c u kind (k == 3)).1 = true) : unitP c (unitStep c u kind (k == 3)).2 k = true := by
  have h' := h
  unfold unitP at h
  rw [Bool.and_eq_true] at h
  obtain ⟨hs, hu⟩ := h
  unfold unitStep at hok ⊢
  split at hok
  · rename_i h4
    rw [if_pos h4] at *
    simp only [Bool.and_eq_true, beq_iff_eq] at hok
    obtain ⟨hk3, hst⟩ := hok
    subst hk3
    have hst2 : bitsP (bif c.Dual then 3 else 2) 3 c.Dual = true := by cases c.Dual; exact bits3; exact bits33
    unfold fixU
    cases hup : u.Up with
    | false =>
      rw [hup] at hu
      simp only [Bool.and_false, cond_false] at hu ⊢
      unfold unitP
      simp only [hst2, cond_false, Bool.true_and]; exact hu
    | true =>
      rw [hup] at hu
      simp only [cond_true, Bool.and_eq_true] at hu
      cases hL : c.Live with
      | true => unfold unitP; simp [hst2]
      | false => unfold unitP; simp [hst2, hu.1, hL]
  · split at hok
    · rename_i h4 h7
      rw [if_neg h4, if_pos h7]
      have hst : u.Stored = 3 := by simpa using hok
      have hk3 : k = 3 := by
        rcases hk with hk | hk
        · have := (bitsP_val hs).2.1; rw [hst, hk] at this; exact absurd this (by decide)
        · exact hk
      subst hk3
      unfold fixU
      cases hup : u.Up with
      | false =>
        rw [hup] at hu
        simp only [Bool.and_false, cond_false] at hu ⊢
        unfold unitP
        simp only [bits3, cond_false, Bool.true_and]; exact hu
      | true =>
        rw [hup] at hu
        simp only [cond_true, Bool.and_eq_true] at hu
        cases hL : c.Live with
        | true => unfold unitP; simp [bits3]
        | false => unfold unitP; simp [bits3, hu.1, hL]
    · split at hok
      · rename_i h4 h7 h5
        rw [if_neg h4, if_neg h7, if_pos h5]
        unfold unitP; simp [hs]
      · split at hok
        · rename_i h4 h7 h5 h6
          rw [if_neg h4, if_neg h7, if_neg h5, if_pos h6]
          unfold unitP; simp [hs]
        · cases hok
theorem next_right {f : api_Fleet} {s : api_Rotation} {x : api_Step} (hr : RightOk f s) (hk : kindOk f x) (hok : okStep f s x = true) : RightOk f (nextS f s x) := by
  obtain ⟨hf, hkn, hb, hl, hu⟩ := hr
  obtain ⟨k1, k2, k3, k4, k5⟩ := hk
  unfold okStep at hok
  unfold nextS
  split at hok
  · rename_i h1
    rw [if_pos h1]
    exact ⟨hf, .inr rfl, bitsP_more hb hkn, hl, fun i h h' => unitP_more (hu i h h') hkn⟩
  · rename_i h1
    rw [if_neg h1]
    split at hok
    · rename_i h2
      rw [if_pos h2]
      simp only [Bool.and_eq_true, beq_iff_eq] at hok
      refine ⟨hf, .inr hok.1, ?_, hl, hu⟩
      show bitsP 3 s.Known (f.Slots == 2) = true
      rw [hok.1, hok.2.2]; exact bits33
    · rename_i h2
      rw [if_neg h2]
      split at hok
      · rename_i h3
        rw [if_pos h3]
        simp only [Bool.and_eq_true, beq_iff_eq] at hok
        refine ⟨hf, .inr hok.1, ?_, hl, hu⟩
        show bitsP 2 s.Known (f.Slots == 2) = true
        rw [hok.1]; exact bits3
      · rename_i h3
        rw [if_neg h3]
        split at hok
        · rename_i h8
          rw [if_pos h8]
          have hv : s.Valid = 3 := by simpa using hok
          have hk3 : s.Known = 3 := by
            rcases hkn with hk | hk
            · have := (bitsP_val hb).2.1; rw [hv, hk] at this; exact absurd this (by decide)
            · exact hk
          refine ⟨hf, .inr hk3, ?_, hl, hu⟩
          show bitsP 2 s.Known (f.Slots == 2) = true
          rw [hk3]; exact bits3
        · rename_i h8
          rw [if_neg h8]
          refine ⟨hf, hkn, hb, by simpa using hl, fun i h h' => ?_⟩
          have hi : i < s.Units.length := by simpa using h
          simp only [List.getElem_set]
          split
          · rename_i e
            subst e
            have e1 : f.Consumers.getD x.Unit.toNat default = f.Consumers[x.Unit.toNat] := by simp [List.getD, h']
            have e2 : s.Units.getD x.Unit.toNat default = s.Units[x.Unit.toNat] := by simp [List.getD, hi]
            rw [e1, e2] at hok ⊢
            exact unitP_step (hu _ hi h') hkn hok
          · exact hu i hi h'

theorem start_sp {f : api_Fleet} (hf : FleetOk f) : ref32_Start f = some (⟨1, 1, List.replicate f.Consumers.length ⟨true, 1, 1⟩⟩, 0) := by
  unfold ref32_Start
  rw [valid_sp]
  simp only [hf, decide_true, Option.bind_some]
  rw [if_neg (by simp)]
  have h8 := hf.2.2.1
  rw [iter_foldl f.Consumers (fun (a : List api_Unit) _ => a ++ [⟨true, 1, 1⟩]) id (fun i a => a.length = i) (fun i hi s hs => ?_) (fun s hs => ?_) [] rfl]
  · simp only [Option.bind_some, id]
    congr 2
    have : ∀ (l : List api_Consumer) (a : List api_Unit), l.foldl (fun a _ => a ++ [⟨true, 1, 1⟩]) a = a ++ List.replicate l.length ⟨true, 1, 1⟩ := fun l => by
      induction l with
      | nil => intro a; simp
      | cons c l ih => intro a; simp only [List.foldl_cons, ih, List.length_cons, List.replicate_succ]; simp
    rw [this]; simp
  · unfold ref32_Start_l0
    rw [if_pos (by simp; omega), ck_t (by simp; omega), Option.bind_some, w64 (by omega) (by omega)]
    exact ⟨rfl, by simp [hs]⟩
  · unfold ref32_Start_l0
    rw [if_neg (by simp)]; rfl
theorem start_right {f : api_Fleet} (hf : FleetOk f) : RightOk f ⟨1, 1, List.replicate f.Consumers.length ⟨true, 1, 1⟩⟩ := by
  have b1 : ∀ t, bitsP 1 1 t = true := fun t => by unfold bitsP; rw [show bAndNot .i64 1 1 = 0 by decide]; cases t <;> decide
  refine ⟨hf, .inl rfl, b1 _, by simp, fun i h h' => ?_⟩
  simp only [List.getElem_replicate]
  unfold unitP
  simp [b1]
theorem apply_right {f : api_Fleet} {s : api_Rotation} {x : api_Step} (hr : RightOk f s) (h : (applyP f s x).2 = 0) : RightOk f (applyP f s x).1 ∧ kindOk f x ∧ okStep f s x = true ∧ (applyP f s x).1 = nextS f s x := by
  unfold applyP at h ⊢
  rw [if_neg (by simpa using hr)] at h ⊢
  by_cases hk : kindOk f x
  · rw [if_neg (by simpa using hk)] at h ⊢
    cases ho : okStep f s x with
    | false => rw [ho] at h; simp at h
    | true => rw [if_neg (by simp)]; exact ⟨next_right hr hk ho, hk, rfl, rfl⟩
  · rw [if_pos hk] at h; simp at h
theorem make_State_ex {m : make_Tape} (h : TOk m) {f : api_Fleet} (hf : FleetOk f) : ∃ s m', make_State m f = some (s, m') ∧ RightOk f s ∧ TOk m' := by
  unfold make_State
  rw [start_sp hf]
  simp only [Option.bind_some]
  rw [if_neg (by simp)]
  obtain ⟨k, m1, e1, k1, k2, t1⟩ := next_ex h (n := 12) (by omega)
  rw [e1]
  simp only [Option.bind_some]
  have key : ∃ e, iter (make_State_l0 f) (k, m1.L, m1.at_, 1, 1, List.replicate f.Consumers.length ⟨true, 1, 1⟩) = some e ∧ (TOk ⟨e.1, e.2.1⟩ ∧ RightOk f ⟨e.2.2.1, e.2.2.2.1, e.2.2.2.2⟩) := by
    refine iter_ex (fun s => 0 ≤ s.1 ∧ s.1 ≤ 12 ∧ TOk ⟨s.2.1, s.2.2.1⟩ ∧ RightOk f ⟨s.2.2.2.1, s.2.2.2.2.1, s.2.2.2.2.2⟩) (fun s => s.1.toNat) _ ?_ ⟨k1, by simp; omega, t1, start_right hf⟩
    rintro ⟨j, L, at_, kn, va, us⟩ ⟨g1, g0, g2, g3⟩
    simp only at g1 g0 g2 g3 ⊢
    unfold make_State_l0
    by_cases hj : 0 < j
    · left
      simp only
      rw [if_pos (by simpa using hj)]
      obtain ⟨x, m2, e2, hx, t2⟩ := make_Step_ex g2 hf
      rw [e2]
      simp only [Option.bind_some, rapply_sp]
      by_cases h0 : (applyP f ⟨kn, va, us⟩ x).2 = 0
      · rw [if_pos (by simpa using h0), w64 (by omega) (by omega)]
        exact ⟨_, rfl, ⟨by simp; omega, by simp; omega, t2, (apply_right g3 h0).1⟩, by simp; omega⟩
      · rw [if_neg (by simpa using h0), w64 (by omega) (by omega)]
        exact ⟨_, rfl, ⟨by simp; omega, by simp; omega, t2, g3⟩, by simp; omega⟩
    · right
      simp only
      rw [if_neg (by simpa using hj)]
      exact ⟨_, rfl, g2, g3⟩
  obtain ⟨e, he, t, hr⟩ := key
  rw [he]
  exact ⟨_, _, rfl, hr, t⟩

/-! What is sorted and compact -/
theorem compact_ok {zs : List Int} (hs : zs.Pairwise (· ≤ ·)) : (Lib.compact zs).Pairwise (· < ·) ∧ ∀ x, x ∈ Lib.compact zs ↔ x ∈ zs := by
  have key : ∀ m, m ≤ zs.length → (Lib.compactUpTo zs.toArray m).Pairwise (· < ·) ∧ (∀ x, x ∈ Lib.compactUpTo zs.toArray m ↔ x ∈ zs.take m) ∧ ∀ x ∈ Lib.compactUpTo zs.toArray m, ∀ y, zs[m - 1]? = some y → x ≤ y := fun m => by
    induction m with
    | zero => intro _; refine ⟨by simp [Lib.compactUpTo], by simp [Lib.compactUpTo], by simp [Lib.compactUpTo]⟩
    | succ m ih =>
      intro hm
      obtain ⟨i1, i2, i3⟩ := ih (by omega)
      have hmz : m < zs.length := by omega
      have ed : zs.toArray[m]! = zs[m] := by simp [hmz]
      rw [Lib.compactUpTo_succ, ed]
      have htake : ∀ x, x ∈ zs.take (m + 1) ↔ x ∈ zs.take m ∨ x = zs[m] := fun x => by rw [List.take_add_one, List.getElem?_eq_getElem hmz, Option.toList_some, List.mem_append, List.mem_singleton]
      have hle : ∀ x ∈ Lib.compactUpTo zs.toArray m, x ≤ zs[m] := fun x hx => by
        have := (i2 x).1 hx
        obtain ⟨j, hj, e⟩ := List.mem_take_iff_getElem.1 this
        rw [← e]
        exact List.pairwise_iff_getElem.1 hs j m (by omega) hmz (by omega)
      have hy : ∀ y, zs[m + 1 - 1]? = some y → y = zs[m] := fun y h => by simp [hmz] at h; exact h.symm
      cases hk : Lib.keeps zs.toArray m with
      | true =>
        simp only [if_true]
        have hlt : ∀ x ∈ Lib.compactUpTo zs.toArray m, x < zs[m] := fun x hx => by
          simp only [Lib.keeps, decide_eq_true_eq] at hk
          rcases hk with hk | hk
          · subst hk; simp [Lib.compactUpTo] at hx
          · have hm0 : m ≠ 0 := fun e => by subst e; simp [Lib.compactUpTo] at hx
            have hp : m - 1 < zs.length := by omega
            have e1 : zs.toArray[m - 1]! = zs[m - 1] := by simp [hp]
            rw [ed, e1] at hk
            have h1 := i3 x hx zs[m - 1] (List.getElem?_eq_getElem hp)
            have h2 : zs[m - 1] ≤ zs[m] := List.pairwise_iff_getElem.1 hs (m - 1) m hp hmz (by omega)
            omega
        refine ⟨List.pairwise_append.2 ⟨i1, by simp, fun x hx y hy => by simp at hy; subst hy; exact hlt x hx⟩, fun x => ?_, fun x hx y hy' => ?_⟩
        · rw [htake, List.mem_append, i2]; simp
        · rw [hy y hy']
          rw [List.mem_append] at hx
          rcases hx with hx | hx
          · exact hle x hx
          · simp at hx; omega
      | false =>
        simp only [Bool.false_eq_true, if_false, List.append_nil]
        have hm0 : m ≠ 0 := fun e => by subst e; simp [Lib.keeps] at hk
        have hp : m - 1 < zs.length := by omega
        have e0 : zs[m] = zs[m - 1] := by
          simp only [Lib.keeps, decide_eq_false_iff_not, not_or, ne_eq, Decidable.not_not] at hk
          have e1 : zs.toArray[m - 1]! = zs[m - 1] := by simp [hp]
          rw [← ed, ← e1]; exact hk.2
        refine ⟨i1, fun x => ?_, fun x hx y hy' => by rw [hy y hy']; exact hle x hx⟩
        rw [htake, i2]
        constructor
        · exact .inl
        · rintro (h | h)
          · exact h
          · rw [h, e0]; exact List.mem_take_iff_getElem.2 ⟨m - 1, by omega, rfl⟩
  have h := key zs.length (Nat.le_refl _)
  rw [List.take_length] at h
  exact ⟨by simpa [Lib.compact] using h.1, fun x => by simpa [Lib.compact] using h.2.1 x⟩
theorem sorted_merge (l : List Int) : (l.mergeSort fun x y => decide (x ≤ y)).Pairwise (· ≤ ·) := by
  have := List.pairwise_mergeSort (le := fun x y : Int => decide (x ≤ y)) (fun a b c h1 h2 => by simp at h1 h2 ⊢; omega) (fun a b => by simp; omega) l
  exact this.imp fun h => by simpa using h
theorem mem_merge (l : List Int) (x : Int) : x ∈ (l.mergeSort fun x y => decide (x ≤ y)) ↔ x ∈ l := List.mem_mergeSort

/-! Who is served -/
def servesU (s : api_Rotation) (u : api_Unit) : Bool := bAnd .i64 u.Used s.Valid != 0
def servedRaw (f : api_Fleet) (s : api_Rotation) : List Int := ((f.Consumers.zip s.Units).filter fun q => servesU s q.2).map fun q => q.1.Pool
def servedP (f : api_Fleet) (s : api_Rotation) : List Int := if RightOk f s then Lib.compact ((servedRaw f s).mergeSort fun x y => decide (x ≤ y)) else []
theorem servedP_ok {f : api_Fleet} {s : api_Rotation} (hr : RightOk f s) : (servedP f s).Pairwise (· < ·) ∧ ∀ p, p ∈ servedP f s ↔ p ∈ servedRaw f s := by
  unfold servedP
  rw [if_pos hr]
  obtain ⟨h1, h2⟩ := compact_ok (sorted_merge (servedRaw f s))
  exact ⟨h1, fun p => by rw [h2, mem_merge]⟩
theorem served_sp (f : api_Fleet) (s : api_Rotation) : fleet_Served f s = some (servedP f s) := by
  unfold fleet_Served servedP
  rw [right_sp]
  by_cases hr : RightOk f s
  case neg => simp [hr]
  simp only [hr, decide_true, Option.bind_some, if_true]
  rw [if_neg (by simp)]
  obtain ⟨l0, l8⟩ := hr.len
  have hlen := hr.2.2.2.1
  have hz : (f.Consumers.zip s.Units).length = f.Consumers.length := by simp; omega
  have hloop : iter (fleet_Served_l0 f s) (0, []) = some ((f.Consumers.zip s.Units).foldl (fun (a : List Int) q => if servesU s q.2 = true then a ++ [q.1.Pool] else a) []) := by
    refine iter_foldl (f.Consumers.zip s.Units) (fun (a : List Int) q => if servesU s q.2 = true then a ++ [q.1.Pool] else a) id (fun i a => a.length ≤ i) (fun i hi a ha => ?_) (fun a ha => ?_) [] (Nat.le_refl 0)
    · have hi1 : i < f.Consumers.length := by omega
      have hi2 : i < s.Units.length := by omega
      unfold fleet_Served_l0
      simp only
      rw [if_pos (by simp; omega), idx_lt hi1, idx_lt hi2]
      simp only [Option.bind_some, List.getElem_zip, servesU]
      rw [w64 (by omega) (by omega)]
      by_cases hu : (bAnd .i64 s.Units[i].Used s.Valid != 0) = true
      · rw [if_pos hu, if_pos hu, ck_t (by simp; omega)]
        exact ⟨rfl, by simp; omega⟩
      · rw [if_neg hu, if_neg hu]
        exact ⟨rfl, by omega⟩
    · unfold fleet_Served_l0
      simp only
      rw [hz, if_neg (by simp)]; rfl
  have hfold : ∀ (l : List (api_Consumer × api_Unit)) (a : List Int), l.foldl (fun (a : List Int) q => if servesU s q.2 = true then a ++ [q.1.Pool] else a) a = a ++ (l.filter fun q => servesU s q.2).map fun q => q.1.Pool := fun l => by
    induction l with
    | nil => intro a; simp
    | cons q l ih =>
      intro a
      simp only [List.foldl_cons, ih, List.filter_cons]
      split <;> simp
  rw [hloop, hfold]
  simp only [Option.bind_some, List.nil_append]
  have hraw : (servedRaw f s).length ≤ 8 := by
    unfold servedRaw
    rw [List.length_map]
    exact Nat.le_trans (List.length_filter_le _ _) (by omega)
  show (slices_Sort_int_vec0 (servedRaw f s)).bind _ = _
  unfold slices_Sort_int_vec0 slices_Compact_int_eat0_own0
  rw [ck_t (by omega)]
  simp only [Option.bind_some]
  rw [ck_t (by simp; omega)]
  simp only [Option.bind_some]

theorem index_sp {l : List Int} (hl : l.length ≤ 1000000) (x : Int) : slices_Contains_int l x = some (decide (x ∈ l)) := by
  have key : ∀ (m i : Nat), i + m = l.length → ∃ e, iter (slices_Index_int_l0 l x) (i : Int) = some e ∧ ((e = .inl () ∧ ∀ j, i ≤ j → (h : j < l.length) → l[j] ≠ x) ∨ (∃ j : Nat, e = .inr (j : Int) ∧ ∃ h : j < l.length, l[j] = x)) := fun m => by
    induction m with
    | zero =>
      intro i h
      refine ⟨.inl (), iter_out ?_, .inl ⟨rfl, fun j h1 h2 => by omega⟩⟩
      unfold slices_Index_int_l0
      rw [if_neg (by simp; omega)]
    | succ m ih =>
      intro i h
      have hi : i < l.length := by omega
      by_cases hp : l[i] = x
      · refine ⟨.inr (i : Int), iter_out ?_, .inr ⟨i, rfl, hi, hp⟩⟩
        unfold slices_Index_int_l0
        rw [if_pos (by simp; omega), idx_lt hi]
        simp only [Option.bind_some]
        rw [if_pos (by simp [hp])]
      · obtain ⟨e, h1, h2⟩ := ih (i + 1) (by omega)
        refine ⟨e, ?_, ?_⟩
        · rw [← h1]
          refine iter_go ?_
          unfold slices_Index_int_l0
          rw [if_pos (by simp; omega), idx_lt hi]
          simp only [Option.bind_some]
          rw [if_neg (by simpa using fun e => hp e.symm), w64 (by omega) (by omega)]; rfl
        · rcases h2 with ⟨h3, h4⟩ | h3
          · exact .inl ⟨h3, fun j h5 h6 => by
              rcases Nat.lt_or_eq_of_le h5 with h7 | h7
              · exact h4 j h7 h6
              · subst h7; exact hp⟩
          · exact .inr h3
  obtain ⟨e, h1, h2⟩ := key l.length 0 (by omega)
  unfold slices_Contains_int slices_Index_int
  rw [show (0 : Int) = ((0 : Nat) : Int) from rfl, h1]
  rcases h2 with ⟨rfl, h3⟩ | ⟨j, rfl, h4, h5⟩
  · simp only [Option.bind_some]
    have : ¬ x ∈ l := fun h => by obtain ⟨j, hj, e⟩ := List.getElem_of_mem h; exact h3 j (Nat.zero_le j) hj e
    simp [this]
  · simp only [Option.bind_some]
    have : x ∈ l := h5 ▸ List.getElem_mem h4
    simp [this]
theorem holds_loop {l b : List Int} (hl : l.length ≤ 1000000) (hb : b.length ≤ 1000000) : slices_ContainsFunc_int_at_steps_holds_1_b l b = some (decide (¬ ∀ p ∈ l, p ∈ b), b) := by
  have key : ∀ (m i : Nat), i + m = l.length → ∃ e, iter (slices_IndexFunc_int_at_steps_holds_1_b_l0 l) ((i : Int), b) = some e ∧ ((e = .inl b ∧ ∀ j, i ≤ j → (h : j < l.length) → l[j] ∈ b) ∨ (∃ j : Nat, e = .inr ((j : Int), b) ∧ ∃ h : j < l.length, ¬ l[j] ∈ b)) := fun m => by
    induction m with
    | zero =>
      intro i h
      refine ⟨.inl b, iter_out ?_, .inl ⟨rfl, fun j h1 h2 => by omega⟩⟩
      unfold slices_IndexFunc_int_at_steps_holds_1_b_l0
      simp only
      rw [if_neg (by simp; omega)]
    | succ m ih =>
      intro i h
      have hi : i < l.length := by omega
      by_cases hp : l[i] ∈ b
      · obtain ⟨e, h1, h2⟩ := ih (i + 1) (by omega)
        refine ⟨e, ?_, ?_⟩
        · rw [← h1]
          refine iter_go ?_
          unfold slices_IndexFunc_int_at_steps_holds_1_b_l0
          simp only
          rw [if_pos (by simp; omega), idx_lt hi]
          simp only [Option.bind_some, steps_holds_1_cb, index_sp hb]
          rw [if_neg (by simp [hp]), w64 (by omega) (by omega)]; rfl
        · rcases h2 with ⟨h3, h4⟩ | h3
          · exact .inl ⟨h3, fun j h5 h6 => by
              rcases Nat.lt_or_eq_of_le h5 with h7 | h7
              · exact h4 j h7 h6
              · subst h7; exact hp⟩
          · exact .inr h3
      · refine ⟨.inr ((i : Int), b), iter_out ?_, .inr ⟨i, rfl, hi, hp⟩⟩
        unfold slices_IndexFunc_int_at_steps_holds_1_b_l0
        simp only
        rw [if_pos (by simp; omega), idx_lt hi]
        simp only [Option.bind_some, steps_holds_1_cb, index_sp hb]
        rw [if_pos (by simp [hp])]
  obtain ⟨e, h1, h2⟩ := key l.length 0 (by omega)
  unfold slices_ContainsFunc_int_at_steps_holds_1_b slices_IndexFunc_int_at_steps_holds_1_b
  rw [show ((0 : Int), b) = (((0 : Nat) : Int), b) from rfl, h1]
  rcases h2 with ⟨rfl, h3⟩ | ⟨j, rfl, h4, h5⟩
  · simp only [Option.bind_some]
    have : ∀ p ∈ l, p ∈ b := fun p hp => by obtain ⟨j, hj, e⟩ := List.getElem_of_mem hp; exact e ▸ h3 j (Nat.zero_le j) hj
    simp
    exact this
  · simp only [Option.bind_some]
    have : ¬ ∀ p ∈ l, p ∈ b := fun h => h5 (h _ (List.getElem_mem h4))
    simp [this]
theorem servedP_len (f : api_Fleet) (s : api_Rotation) : (servedP f s).length ≤ 8 := by
  unfold servedP
  split
  · rename_i hr
    obtain ⟨l0, l8⟩ := hr.len
    refine Nat.le_trans (compact_len _) ?_
    rw [List.length_mergeSort]
    unfold servedRaw
    rw [List.length_map]
    refine Nat.le_trans (List.length_filter_le _ _) ?_
    simp; omega
  · simp
def holdsP (f : api_Fleet) (a b : api_Rotation) : Prop := ∀ p ∈ servedP f a, p ∈ servedP f b
instance (f : api_Fleet) (a b : api_Rotation) : Decidable (holdsP f a b) := by unfold holdsP; infer_instance
theorem holds_sp (f : api_Fleet) (a b : api_Rotation) : steps_holds f a b = some (decide (holdsP f a b)) := by
  unfold steps_holds
  simp only [served_sp, Option.bind_some]
  rw [holds_loop (by have := servedP_len f a; omega) (by have := servedP_len f b; omega)]
  simp only [Option.bind_some, holdsP]
  congr 1
  by_cases h : ∀ p ∈ servedP f a, p ∈ servedP f b
  · rw [decide_eq_false (not_not_intro h), decide_eq_true h]; rfl
  · rw [decide_eq_true h, decide_eq_false h]; rfl
def safeP (f : api_Fleet) (s : api_Rotation) (x : api_Step) : Bool := (applyP f s x).2 == 0 && decide (holdsP f s (applyP f s x).1)
theorem safe_sp (f : api_Fleet) (s : api_Rotation) (x : api_Step) : steps_Safe f s x = some (safeP f s x) := by
  unfold steps_Safe safeP
  simp only [apply_sp, Option.bind_some, holds_sp]
  cases ((applyP f s x).2 == 0) <;> simp

/-! awake -/
def fA : api_Fleet := ⟨2, [⟨0, false, false⟩]⟩
def sA : api_Rotation := ⟨1, 1, [⟨true, 1, 1⟩]⟩
theorem fA_ok : FleetOk fA := by
  refine ⟨.inr rfl, by decide, by decide, fun i h => ?_⟩
  have : i = 0 := by simp [fA] at h; omega
  subst this; rfl
theorem sA_right : RightOk fA sA := start_right fA_ok
theorem apply_eq {f : api_Fleet} {s : api_Rotation} {x : api_Step} (hr : RightOk f s) (hk : kindOk f x) (ho : okStep f s x = true) : applyP f s x = (nextS f s x, 0) := by
  unfold applyP
  rw [if_neg (not_not_intro hr), if_neg (not_not_intro hk), if_neg (by rw [ho]; simp)]
theorem kA1 : kindOk fA ⟨1, 0⟩ := by unfold kindOk; decide
theorem kA5 : kindOk fA ⟨5, 0⟩ := by unfold kindOk; decide
theorem aA1 : applyP fA sA ⟨1, 0⟩ = (⟨3, 1, [⟨true, 1, 1⟩]⟩, 0) := apply_eq sA_right kA1 (by decide)
theorem aA5 : applyP fA sA ⟨5, 0⟩ = (⟨1, 1, [⟨false, 1, 0⟩]⟩, 0) := apply_eq sA_right kA5 (by decide)
theorem rA1 : RightOk fA ⟨3, 1, [⟨true, 1, 1⟩]⟩ := by have := (apply_right sA_right (x := ⟨1, 0⟩) (by rw [aA1])).1; rwa [aA1] at this
theorem rA5 : RightOk fA ⟨1, 1, [⟨false, 1, 0⟩]⟩ := by have := (apply_right sA_right (x := ⟨5, 0⟩) (by rw [aA5])).1; rwa [aA5] at this
theorem wA0 : servedRaw fA sA = [0] := by decide
theorem wA1 : servedRaw fA ⟨3, 1, [⟨true, 1, 1⟩]⟩ = [0] := by decide
theorem wA5 : servedRaw fA ⟨1, 1, [⟨false, 1, 0⟩]⟩ = [] := by decide
theorem safeA1 : safeP fA sA ⟨1, 0⟩ = true := by
  unfold safeP
  rw [aA1]
  have : holdsP fA sA ⟨3, 1, [⟨true, 1, 1⟩]⟩ := fun p hp => by
    rw [(servedP_ok sA_right).2, wA0] at hp
    rw [(servedP_ok rA1).2, wA1]; exact hp
  simp [this]
theorem safeA5 : safeP fA sA ⟨5, 0⟩ = false := by
  unfold safeP
  rw [aA5]
  have : ¬ holdsP fA sA ⟨1, 1, [⟨false, 1, 0⟩]⟩ := fun h => by
    have := h 0 (by rw [(servedP_ok sA_right).2, wA0]; simp)
    rw [(servedP_ok rA5).2, wA5] at this; cases this
  simp [this]
/-! A step leads elsewhere -/
theorem unit_ne {c : api_Consumer} {u : api_Unit} {k : Int} {b : Bool} (hs : u.Stored = 1 ∨ u.Stored = 2 ∨ u.Stored = 3) (h : (unitStep c u k b).1 = true) : (unitStep c u k b).2 ≠ u := by
  obtain ⟨u1, u2, u3⟩ := u
  have fx : ∀ v : api_Unit, (fixU c v).Stored = v.Stored ∧ (fixU c v).Up = v.Up := fun v => by unfold fixU; cases (c.Live && v.Up) <;> simp
  intro he
  have h1 : (unitStep c ⟨u1, u2, u3⟩ k b).2.Stored = u2 := by rw [he]
  have h2 : (unitStep c ⟨u1, u2, u3⟩ k b).2.Up = u1 := by rw [he]
  unfold unitStep at h h1 h2
  split at h
  · rename_i hk; rw [if_pos hk] at h1
    simp only [(fx _).1, Bool.and_eq_true, beq_iff_eq] at h h1
    cases hd : c.Dual <;> rw [hd] at h1 <;> simp at h1 <;> omega
  · rename_i hk; rw [if_neg hk] at h1 h2
    split at h
    · rename_i hk; rw [if_pos hk] at h1
      simp only [(fx _).1, beq_iff_eq] at h h1; omega
    · rename_i hk; rw [if_neg hk] at h1 h2
      split at h
      · rename_i hk; rw [if_pos hk] at h2; simp at h h2; rw [h] at h2; cases h2
      · rename_i hk; rw [if_neg hk] at h1 h2
        split at h
        · rename_i hk; rw [if_pos hk] at h2; simp at h h2; rw [h] at h2; cases h2
        · cases h
theorem next_ne {f : api_Fleet} {s : api_Rotation} {x : api_Step} (hr : RightOk f s) (hk : kindOk f x) (ho : okStep f s x = true) : s ≠ nextS f s x := by
  obtain ⟨k, v, us⟩ := s
  intro he
  obtain ⟨hf, hkn, hb, hl, hu⟩ := hr
  obtain ⟨k1, k2, k3, k4, k5⟩ := hk
  unfold okStep at ho
  unfold nextS at he
  simp only at hkn hb hl hu ho he
  split at ho
  · rename_i h1; rw [if_pos h1] at he
    simp only [api_Rotation.mk.injEq, beq_iff_eq] at he ho; omega
  · rename_i h1; rw [if_neg h1] at he
    split at ho
    · rename_i h1; rw [if_pos h1] at he
      simp only [api_Rotation.mk.injEq, beq_iff_eq, Bool.and_eq_true] at he ho; omega
    · rename_i h1; rw [if_neg h1] at he
      split at ho
      · rename_i h1; rw [if_pos h1] at he
        simp only [api_Rotation.mk.injEq, beq_iff_eq, Bool.and_eq_true] at he ho; omega
      · rename_i h1; rw [if_neg h1] at he
        split at ho
        · rename_i h1; rw [if_pos h1] at he
          simp only [api_Rotation.mk.injEq, beq_iff_eq] at he ho; omega
        · rename_i h1; rw [if_neg h1] at he
          simp only [api_Rotation.mk.injEq, true_and] at he
          have hi : x.Unit.toNat < us.length := by omega
          have h' : x.Unit.toNat < f.Consumers.length := by omega
          have e1 : f.Consumers.getD x.Unit.toNat default = f.Consumers[x.Unit.toNat] := by simp [List.getD, h']
          have e2 : us.getD x.Unit.toNat default = us[x.Unit.toNat] := by simp [List.getD, hi]
          rw [e1, e2] at ho he
          have := congrArg (fun l => l[x.Unit.toNat]?) he
          simp [hi] at this
          exact unit_ne (unitP_stored (hu _ hi h')) ho this.symm
theorem next_known {f : api_Fleet} {s : api_Rotation} {x : api_Step} (hr : RightOk f s) (ho : okStep f s x = true) : ((nextS f s x).Known = s.Known ∨ (nextS f s x).Known = 3) ∧ ((nextS f s x).Valid = s.Valid ∨ ((nextS f s x).Valid = 3 ∧ s.Valid = 1) ∨ (nextS f s x).Valid = 2) := by
  unfold okStep at ho
  unfold nextS
  split at ho
  · rename_i h1; rw [if_pos h1]; exact ⟨.inr rfl, .inl rfl⟩
  · rename_i h1; rw [if_neg h1]
    split at ho
    · rename_i h1; rw [if_pos h1]
      simp only [beq_iff_eq, Bool.and_eq_true] at ho; exact ⟨.inl rfl, .inr (.inl ⟨rfl, ho.2.1⟩)⟩
    · rename_i h1; rw [if_neg h1]
      split at ho
      · rename_i h1; rw [if_pos h1]; exact ⟨.inl rfl, .inr (.inr rfl)⟩
      · rename_i h1; rw [if_neg h1]
        split at ho
        · rename_i h1; rw [if_pos h1]; exact ⟨.inl rfl, .inr (.inr rfl)⟩
        · rename_i h1; rw [if_neg h1]; exact ⟨.inl rfl, .inl rfl⟩
theorem apply_err {f : api_Fleet} {s : api_Rotation} {x : api_Step} (hr : RightOk f s) (hk : kindOk f x) (h : (applyP f s x).2 ≠ 0) : (applyP f s x).2 = 37 := by
  unfold applyP at h ⊢
  rw [if_neg (not_not_intro hr), if_neg (not_not_intro hk)] at h ⊢
  split at h
  · rename_i h1; rw [if_pos h1]
  · simp at h
theorem bx13 : bAnd .i64 1 1 = 1 := by decide
theorem bx21 : bAnd .i64 2 1 = 0 := by decide
theorem bx31 : bAnd .i64 3 1 = 1 := by decide
theorem bx12 : bAnd .i64 1 2 = 0 := by decide
theorem bx22 : bAnd .i64 2 2 = 2 := by decide
theorem bx32 : bAnd .i64 3 2 = 2 := by decide
theorem bn11 : bAndNot .i64 1 1 = 0 := by decide
theorem bn13 : bAndNot .i64 1 3 = 0 := by decide
theorem bn33 : bAndNot .i64 3 3 = 0 := by decide

theorem bits_go {k v nk nv : Int} (hk : k = 1 ∨ k = 3) (hv : v = 1 ∨ v = 2 ∨ v = 3) (h1 : nk = k ∨ nk = 3) (h2 : nv = v ∨ (nv = 3 ∧ v = 1) ∨ nv = 2) :
    (if ((bAnd .i64 nv 1) != 0) = true then
        if ((bAnd .i64 v 1) == 0) = true then
          some true
        else
        if ((bAndNot .i64 k nk) != 0) = true then
          some true
        else
        if ((bAnd .i64 v 2) != 0) = true then
          some ((bAnd .i64 nv 2) == 0)
        else
          some false
      else
      if ((bAndNot .i64 k nk) != 0) = true then
        some true
      else
      if ((bAnd .i64 v 2) != 0) = true then
        some ((bAnd .i64 nv 2) == 0)
      else
        some false) = some false := by
  have h3 : bAndNot .i64 k nk = 0 := by
    rcases hk with rfl | rfl <;> rcases h1 with rfl | rfl <;> first | exact bn11 | exact bn13 | exact bn33
  rw [h3]
  rcases hv with rfl | rfl | rfl <;> rcases h2 with rfl | ⟨rfl, h2⟩ | rfl <;> simp [bx13, bx21, bx31, bx12, bx22, bx32] <;> omega
abbrev SR : Type := Int × (List Int) × Int × Int × Int × (List api_Unit)
def invR (f : api_Fleet) (n : Int) (s : SR) : Prop := 0 ≤ s.1 ∧ s.1 ≤ n ∧ TOk ⟨s.2.1, s.2.2.1⟩ ∧ RightOk f ⟨s.2.2.2.1, s.2.2.2.2.1, s.2.2.2.2.2⟩
theorem tape0 {a : List Int} (h : ¬ 300 < (a.length : Int)) : TOk ⟨a, 0⟩ := ⟨by simp, by simp, by simp; omega⟩
/-! What a step leaves alone -/
theorem next_apart {f : api_Fleet} {s : api_Rotation} {x : api_Step} (hk : kindOk f x) (hl : s.Units.length = f.Consumers.length) : (nextS f s x).Units.length = s.Units.length ∧ ((4 ≤ x.Kind ∧ x.Kind ≤ 7) → (nextS f s x).Known = s.Known ∧ (nextS f s x).Valid = s.Valid) ∧
    ∀ (i : Nat), (¬ (4 ≤ x.Kind ∧ x.Kind ≤ 7) ∨ (i : Int) ≠ x.Unit) → (nextS f s x).Units[i]? = s.Units[i]? := by
  obtain ⟨k1, k2, k3, k4, k5⟩ := hk
  unfold nextS
  split
  · exact ⟨rfl, fun h => by omega, fun i h => rfl⟩
  · split
    · exact ⟨rfl, fun h => by omega, fun i h => rfl⟩
    · split
      · exact ⟨rfl, fun h => by omega, fun i h => rfl⟩
      · split
        · exact ⟨rfl, fun h => by omega, fun i h => rfl⟩
        · refine ⟨by simp, fun _ => ⟨rfl, rfl⟩, fun i h => ?_⟩
          simp only [List.getElem?_set]
          rw [if_neg (by omega)]

theorem iter_foldl2 {α σ σ' ε : Type} {body : σ' → Option (Lp σ' ε)} (l : List α) (S : Nat → σ → σ') (f : σ → α → σ) (fin : σ → ε) (Inv : Nat → σ → Prop)
    (hgo : ∀ (i : Nat) (h : i < l.length) (s : σ), Inv i s → body (S i s) = some (.go (S (i + 1) (f s l[i]))) ∧ Inv (i + 1) (f s l[i]))
    (hend : ∀ s, Inv l.length s → body (S l.length s) = some (.out (fin s))) (s0 : σ) (h0 : Inv 0 s0) : iter body (S 0 s0) = some (fin (l.foldl f s0)) := by
  have key : ∀ (m i : Nat) (s : σ), i + m = l.length → Inv i s → iter body (S i s) = some (fin ((l.drop i).foldl f s)) := fun m => by
    induction m with
    | zero =>
      intro i s h hi
      have : i = l.length := by omega
      subst this
      rw [List.drop_length]
      exact iter_out (hend s hi)
    | succ m ih =>
      intro i s h hi
      have hl : i < l.length := by omega
      obtain ⟨h1, h2⟩ := hgo i hl s hi
      rw [iter_go h1, ih (i + 1) _ (by omega) h2, List.drop_eq_getElem_cons hl, List.foldl_cons]
  simpa using key l.length 0 s0 (by omega) h0

instance : DecidableEq api_Step := fun a b => if h : a.Kind = b.Kind ∧ a.Unit = b.Unit then .isTrue (by obtain ⟨a1, a2⟩ := a; obtain ⟨b1, b2⟩ := b; simp_all) else .isFalse (fun e => h (by rw [e]; exact ⟨rfl, rfl⟩))
/-! Choices -/
def rowC (sf : api_Step → Bool) (n : Nat) (k : Int) : List api_Step := ((List.range n).filter fun (i : Nat) => sf ⟨k, (i : Int)⟩).map fun (i : Nat) => ⟨k, (i : Int)⟩
def choicesC (sf : api_Step → Bool) (n : Nat) : List api_Step := ((List.range 8).map fun (j : Nat) => rowC sf n ((j + 1 : Nat) : Int)).flatten
theorem rowC_len (sf : api_Step → Bool) (n : Nat) (k : Int) : (rowC sf n k).length ≤ n := by
  unfold rowC
  rw [List.length_map]
  exact Nat.le_trans (List.length_filter_le _ _) (by simp)
theorem mem_choicesC {sf : api_Step → Bool} {n : Nat} {x : api_Step} : x ∈ choicesC sf n ↔ 1 ≤ x.Kind ∧ x.Kind ≤ 8 ∧ 0 ≤ x.Unit ∧ x.Unit < n ∧ sf x = true := by
  obtain ⟨k, u⟩ := x
  simp only [choicesC, rowC, List.mem_flatten, List.mem_map, List.mem_range, List.mem_filter]
  constructor
  · rintro ⟨l, ⟨j, hj, rfl⟩, hx⟩
    simp only [List.mem_map, List.mem_filter, List.mem_range] at hx
    obtain ⟨i, ⟨hi, hs⟩, e⟩ := hx
    simp only [api_Step.mk.injEq] at e
    obtain ⟨rfl, rfl⟩ := e
    exact ⟨by omega, by omega, by omega, by omega, hs⟩
  · rintro ⟨h1, h2, h3, h4, h5⟩
    refine ⟨_, ⟨(k - 1).toNat, by omega, rfl⟩, ?_⟩
    have e1 : (((k - 1).toNat + 1 : Nat) : Int) = k := by omega
    have e2 : ((u.toNat : Nat) : Int) = u := by omega
    rw [e1]
    simp only [List.mem_map, List.mem_filter, List.mem_range]
    exact ⟨u.toNat, ⟨by omega, by rw [e2]; exact h5⟩, by rw [e2]⟩
theorem fold_filter {α β : Type} (p : α → Bool) (g : α → β) (l : List α) (a : List β) : l.foldl (fun (a : List β) x => if p x = true then a ++ [g x] else a) a = a ++ (l.filter p).map g := by
  induction l generalizing a with
  | nil => simp
  | cons q l ih => simp only [List.foldl_cons, ih, List.filter_cons]; split <;> simp
theorem fold_flat {α β : Type} (g : α → List β) (l : List α) (a : List β) : l.foldl (fun (a : List β) x => a ++ g x) a = a ++ (l.map g).flatten := by
  induction l generalizing a with
  | nil => simp
  | cons q l ih => simp only [List.foldl_cons, ih, List.map_cons, List.flatten_cons, List.append_assoc]
theorem choices_sp {f : api_Fleet} {s : api_Rotation} (h8 : s.Units.length ≤ 100) : steps_Choices f s = some (choicesC (safeP f s) s.Units.length) := by
  have h1 : ∀ (k : Int) (acc : List api_Step), acc.length ≤ 1000 → iter (steps_Choices_l1 s f (k, acc)) (0, acc) = some (acc ++ rowC (safeP f s) s.Units.length k) := fun k acc hacc => by
    have := iter_foldl2 (body := steps_Choices_l1 s f (k, acc)) (List.range s.Units.length) (fun i a => ((i : Int), a)) (fun (a : List api_Step) (i : Nat) => if safeP f s ⟨k, (i : Int)⟩ = true then a ++ [⟨k, (i : Int)⟩] else a) id (fun i a => a.length ≤ 1000 + i) (fun i hi a ha => ?_) (fun a ha => ?_) acc (by simpa using hacc)
    · rw [fold_filter (fun i : Nat => safeP f s ⟨k, (i : Int)⟩) (fun i : Nat => (⟨k, (i : Int)⟩ : api_Step))] at this
      exact this
    · have hi' : i < s.Units.length := by simpa using hi
      unfold steps_Choices_l1
      simp only [safe_sp, List.getElem_range, Option.bind_some]
      rw [if_pos (by simp; omega), w64 (by omega) (by omega)]
      by_cases hp : safeP f s ⟨k, (i : Int)⟩ = true
      · rw [if_pos hp, if_pos hp, ck_t (by simp; omega)]; exact ⟨rfl, by simp; omega⟩
      · rw [if_neg hp, if_neg hp]; exact ⟨rfl, by omega⟩
    · unfold steps_Choices_l1
      simp only [List.length_range]
      rw [if_neg (by simp)]; rfl
  unfold steps_Choices
  have := iter_foldl2 (body := steps_Choices_l0 s f) (List.range 8) (fun i a => (((i + 1 : Nat) : Int), a)) (fun (a : List api_Step) (j : Nat) => a ++ rowC (safeP f s) s.Units.length ((j + 1 : Nat) : Int)) id (fun i a => a.length ≤ 100 * i) (fun i hi a ha => ?_) (fun a ha => ?_) [] (by simp)
  · rw [fold_flat (fun j : Nat => rowC (safeP f s) s.Units.length ((j + 1 : Nat) : Int))] at this
    simp only [List.nil_append, id] at this
    rw [show ((1 : Int), ([] : List api_Step)) = (((0 + 1 : Nat) : Int), []) from rfl, this]; rfl
  · have hi' : i < 8 := by simpa using hi
    have := rowC_len (safeP f s) s.Units.length ((i + 1 : Nat) : Int)
    unfold steps_Choices_l0
    simp only [List.getElem_range]
    rw [if_pos (by simp; omega), h1 _ _ (by omega)]
    simp only [Option.bind_some]
    rw [w64 (by omega) (by omega)]
    exact ⟨rfl, by simp only [List.length_append]; omega⟩
  · unfold steps_Choices_l0
    simp only [List.length_range]
    rw [if_neg (by simp)]; rfl

/-! Runs -/
def runP (f : api_Fleet) : api_Rotation → List api_Step → List api_Rotation × Int
  | _, [] => ([], 0)
  | s, x :: l => if (applyP f s x).2 ≠ 0 then ([], (applyP f s x).2) else if (runP f (applyP f s x).1 l).2 ≠ 0 then ([], (runP f (applyP f s x).1 l).2) else ((applyP f s x).1 :: (runP f (applyP f s x).1 l).1, 0)
def runE (acc : List api_Rotation) (r : List api_Rotation × Int) : (List api_Rotation) ⊕ ((List api_Rotation) × Int) := if r.2 = 0 then .inl (acc ++ r.1) else .inr ([], r.2)
theorem runP_err {f : api_Fleet} : ∀ (l : List api_Step) (s : api_Rotation), (runP f s l).2 ≠ 0 → (runP f s l).1 = [] := fun l => by
  induction l with
  | nil => intro s h; rfl
  | cons x l ih =>
    intro s h
    unfold runP at h ⊢
    split
    · rfl
    · split
      · rfl
      · rename_i h1 h2; rw [if_neg h1, if_neg h2] at h; simp at h
theorem runP_eq {f : api_Fleet} {s : api_Rotation} {x : api_Step} {l : List api_Step} : runP f s (x :: l) = if (applyP f s x).2 ≠ 0 then ([], (applyP f s x).2) else if (runP f (applyP f s x).1 l).2 ≠ 0 then ([], (runP f (applyP f s x).1 l).2) else ((applyP f s x).1 :: (runP f (applyP f s x).1 l).1, 0) := rfl
theorem runP_cons {f : api_Fleet} {s : api_Rotation} {x : api_Step} {l : List api_Step} (h : (runP f s (x :: l)).2 = 0) : (applyP f s x).2 = 0 ∧ (runP f (applyP f s x).1 l).2 = 0 ∧ runP f s (x :: l) = ((applyP f s x).1 :: (runP f (applyP f s x).1 l).1, 0) := by
  rw [runP_eq] at h ⊢
  split at h
  · rename_i h1; exact absurd h h1
  · rename_i h1
    split at h
    · rename_i h2; exact absurd h h2
    · rename_i h2
      rw [if_neg h1, if_neg h2]
      exact ⟨by simpa using h1, by simpa using h2, rfl⟩
theorem runP_right {f : api_Fleet} : ∀ (l : List api_Step) (s : api_Rotation), RightOk f s → (runP f s l).2 = 0 → (runP f s l).1.length = l.length ∧ ∀ r ∈ (runP f s l).1, RightOk f r := fun l => by
  induction l with
  | nil => intro s _ _; exact ⟨rfl, fun r h => by cases h⟩
  | cons x l ih =>
    intro s hr h
    obtain ⟨h1, h2, h3⟩ := runP_cons h
    obtain ⟨r1, _⟩ := apply_right hr h1
    obtain ⟨i1, i2⟩ := ih _ r1 h2
    rw [h3]
    refine ⟨by simp [i1], fun r hm => ?_⟩
    rcases List.mem_cons.1 hm with rfl | hm
    · exact r1
    · exact i2 r hm
theorem runP_37 {f : api_Fleet} : ∀ (l : List api_Step) (s : api_Rotation), RightOk f s → (∀ x ∈ l, kindOk f x) → (runP f s l).2 ≠ 0 → (runP f s l).2 = 37 := fun l => by
  induction l with
  | nil => intro s _ _ h; exact absurd rfl h
  | cons x l ih =>
    intro s hr hk h
    unfold runP at h ⊢
    by_cases h1 : (applyP f s x).2 = 0
    · rw [if_neg (not_not_intro h1)] at h ⊢
      by_cases h2 : (runP f (applyP f s x).1 l).2 = 0
      · rw [if_neg (not_not_intro h2)] at h; simp at h
      · rw [if_pos h2]
        exact ih _ (apply_right hr h1).1 (fun y hy => hk y (List.mem_cons_of_mem _ hy)) h2
    · rw [if_pos h1]
      exact apply_err hr (hk x (List.mem_cons_self ..)) h1
theorem runP_split {f : api_Fleet} : ∀ (k : Nat) (l : List api_Step) (s : api_Rotation), RightOk f s → k ≤ l.length → (runP f s l).2 = 0 →
    (runP f s (l.take k)).2 = 0 ∧ (runP f s (l.take k)).1.length = k ∧ ∃ s', (0 < k → (runP f s (l.take k)).1[k - 1]? = some s') ∧ (k = 0 → s' = s) ∧ RightOk f s' ∧ (runP f s' (l.drop k)).2 = 0 ∧
      (runP f s (l.take k)).1 ++ (runP f s' (l.drop k)).1 = (runP f s l).1 := fun k => by
  induction k with
  | zero =>
    intro l s hr _ h
    exact ⟨rfl, rfl, s, fun h => absurd h (Nat.lt_irrefl _), fun _ => rfl, hr, h, rfl⟩
  | succ k ih =>
    intro l s hr hk h
    cases l with
    | nil => simp at hk
    | cons x l =>
      obtain ⟨h1, h2, h3⟩ := runP_cons h
      obtain ⟨r1, _⟩ := apply_right hr h1
      obtain ⟨i1, i2, s', i3, i4, i5, i6, i7⟩ := ih l _ r1 (by simpa using hk) h2
      have e : runP f s ((x :: l).take (k + 1)) = ((applyP f s x).1 :: (runP f (applyP f s x).1 (l.take k)).1, 0) := by
        rw [List.take_succ_cons, runP, if_neg (not_not_intro h1), if_neg (not_not_intro i1)]
      rw [e, h3]
      refine ⟨rfl, by simp [i2], s', fun _ => ?_, fun h => by omega, i5, i6, by simp [i7]⟩
      cases k with
      | zero => simp [i4 rfl]
      | succ k => simpa using i3 (by omega)

/-! Lists of states and of steps -/
abbrev SM : Type := Int × (List Int) × Int × Int × Int × (List api_Unit) × (List api_Step)
/-! The law of choices -/
theorem safe_possible {f : api_Fleet} {s : api_Rotation} {x : api_Step} (h : safeP f s x = true) : (applyP f s x).2 = 0 := by
  unfold safeP at h
  simp only [Bool.and_eq_true, beq_iff_eq] at h
  exact h.1
theorem choicesC_len {sf : api_Step → Bool} {n : Nat} (h : n ≤ 8) : (choicesC sf n).length ≤ 64 := by
  unfold choicesC
  rw [List.length_flatten, List.map_map]
  have : ∀ l : List Nat, (l.map (List.length ∘ fun (j : Nat) => rowC sf n ((j + 1 : Nat) : Int))).sum ≤ 8 * l.length := fun l => by
    induction l with
    | nil => simp
    | cons j l ih =>
      have := rowC_len sf n ((j + 1 : Nat) : Int)
      simp only [List.map_cons, List.sum_cons, List.length_cons, Function.comp]
      omega
  exact Nat.le_trans (this _) (by simp)

theorem iter_find {α ε : Type} {body : Int → Option (Lp Int ε)} (l : List α) (p : α → Bool) (A B : ε)
    (hgo : ∀ (i : Nat) (h : i < l.length), body (i : Int) = some (if p l[i] = true then .out A else .go (((i + 1 : Nat) : Int))))
    (hend : body (l.length : Int) = some (.out B)) : iter body 0 = some (if l.any p = true then A else B) := by
  have key : ∀ (m i : Nat), i + m = l.length → iter body (i : Int) = some (if (l.drop i).any p = true then A else B) := fun m => by
    induction m with
    | zero =>
      intro i h
      have : i = l.length := by omega
      subst this
      rw [List.drop_length]
      exact iter_out hend
    | succ m ih =>
      intro i h
      have hi : i < l.length := by omega
      rw [List.drop_eq_getElem_cons hi, List.any_cons]
      cases hp : p l[i] with
      | true =>
        have := hgo i hi
        rw [hp] at this
        exact iter_out this
      | false =>
        have := hgo i hi
        rw [hp] at this
        rw [iter_go this, ih (i + 1) (by omega)]; rfl
  simpa using key l.length 0 (by omega)
theorem sorted_ext : ∀ (a b : List Int), a.Pairwise (· < ·) → b.Pairwise (· < ·) → (∀ x, x ∈ a ↔ x ∈ b) → a = b := fun a => by
  induction a with
  | nil =>
    intro b _ _ h
    cases b with
    | nil => rfl
    | cons y b => have := (h y).2 (List.mem_cons_self ..); cases this
  | cons x a ih =>
    intro b ha hb h
    cases b with
    | nil => have := (h x).1 (List.mem_cons_self ..); cases this
    | cons y b =>
      rw [List.pairwise_cons] at ha hb
      have e : x = y := by
        rcases List.mem_cons.1 ((h x).1 (List.mem_cons_self ..)) with e | h1
        · exact e
        · rcases List.mem_cons.1 ((h y).2 (List.mem_cons_self ..)) with e | h2
          · exact e.symm
          · have := hb.1 x h1; have := ha.1 y h2; omega
      subst e
      rw [ih b ha.2 hb.2 fun z => ?_]
      constructor
      · intro hz
        rcases List.mem_cons.1 ((h z).1 (List.mem_cons_of_mem _ hz)) with e | h1
        · subst e; exact absurd (ha.1 z hz) (by omega)
        · exact h1
      · intro hz
        rcases List.mem_cons.1 ((h z).2 (List.mem_cons_of_mem _ hz)) with e | h1
        · subst e; exact absurd (hb.1 z hz) (by omega)
        · exact h1
theorem range_sorted (n : Nat) (p : Nat → Bool) : (((List.range n).filter p).map fun (j : Nat) => (j : Int)).Pairwise (· < ·) := by
  rw [List.pairwise_map]
  exact (List.Pairwise.filter _ List.pairwise_lt_range).imp fun h => by omega

/-! Units and pools -/
def unitsP (f : api_Fleet) (p : Int) : List Int := if FleetOk f then ((List.range f.Consumers.length).filter fun i => (f.Consumers.getD i default).Pool == p).map fun (i : Nat) => (i : Int) else []
theorem unitsP_len (f : api_Fleet) (p : Int) : (unitsP f p).length ≤ 8 := by
  unfold unitsP
  split
  · rename_i h
    rw [List.length_map]
    refine Nat.le_trans (List.length_filter_le _ _) ?_
    have := h.2.2.1
    simpa using this
  · simp
theorem mem_unitsP {f : api_Fleet} {p x : Int} : x ∈ unitsP f p ↔ FleetOk f ∧ ∃ i : Nat, x = (i : Int) ∧ ∃ h : i < f.Consumers.length, f.Consumers[i].Pool = p := by
  unfold unitsP
  split
  · rename_i hf
    simp only [List.mem_map, List.mem_filter, List.mem_range, beq_iff_eq]
    constructor
    · rintro ⟨i, ⟨h1, h2⟩, rfl⟩
      exact ⟨hf, i, rfl, h1, by simpa [List.getD, h1] using h2⟩
    · rintro ⟨_, i, rfl, h1, h2⟩
      exact ⟨i, ⟨h1, by simpa [List.getD, h1] using h2⟩, rfl⟩
  · rename_i hf
    refine Iff.intro (fun h => ?_) (fun h => absurd h.1 hf)
    cases h
theorem units_sp (f : api_Fleet) (p : Int) : ref32_Units f p = some (unitsP f p) := by
  unfold ref32_Units unitsP
  rw [valid_sp]
  by_cases hf : FleetOk f
  case neg => simp [hf]
  simp only [hf, decide_true, Option.bind_some]
  rw [if_neg (by simp)]
  have h8 := hf.2.2.1
  have := iter_foldl2 (body := ref32_Units_l0 f p) (List.range f.Consumers.length) (fun i a => ((i : Int), a)) (fun (a : List Int) (i : Nat) => if ((f.Consumers.getD i default).Pool == p) = true then a ++ [(i : Int)] else a) id (fun i a => a.length ≤ i) (fun i hi a ha => ?_) (fun a ha => ?_) [] (by simp)
  · rw [fold_filter (fun i : Nat => (f.Consumers.getD i default).Pool == p) (fun i : Nat => (i : Int))] at this
    rw [show ((0 : Int), ([] : List Int)) = (((0 : Nat) : Int), []) from rfl, this]; simp
  · have hi' : i < f.Consumers.length := by simpa using hi
    have e1 : f.Consumers.getD i default = f.Consumers[i] := by simp [List.getD, hi']
    unfold ref32_Units_l0
    simp only [List.getElem_range]
    rw [if_pos (by simp; omega), idx_lt hi', w64 (by omega) (by omega), e1]
    simp only [Option.bind_some]
    by_cases hp : (f.Consumers[i].Pool == p) = true
    · rw [if_pos hp, if_pos hp, ck_t (by simp; omega)]; exact ⟨rfl, by simp; omega⟩
    · rw [if_neg hp, if_neg hp]; exact ⟨rfl, by omega⟩
  · unfold ref32_Units_l0
    simp only [List.length_range]
    rw [if_neg (by simp)]; rfl
def poolsP (f : api_Fleet) : List Int := ((List.range 8).filter fun (j : Nat) => decide (0 < ((unitsP f (j : Int)).length : Int))).map fun (j : Nat) => (j : Int)
theorem poolsP_len (f : api_Fleet) : (poolsP f).length ≤ 8 := by
  unfold poolsP
  rw [List.length_map]
  exact Nat.le_trans (List.length_filter_le _ _) (by simp)
theorem mem_poolsP {f : api_Fleet} {p : Int} : p ∈ poolsP f ↔ FleetOk f ∧ ∃ i, ∃ h : i < f.Consumers.length, f.Consumers[i].Pool = p := by
  unfold poolsP
  simp only [List.mem_map, List.mem_filter, List.mem_range, decide_eq_true_eq]
  constructor
  · rintro ⟨j, ⟨h1, h2⟩, rfl⟩
    obtain ⟨x, hx⟩ : ∃ x, x ∈ unitsP f (j : Int) := by
      cases h : unitsP f (j : Int) with
      | nil => rw [h] at h2; simp at h2
      | cons x l => exact ⟨x, List.mem_cons_self ..⟩
    obtain ⟨hf, i, _, hi⟩ := mem_unitsP.1 hx
    exact ⟨hf, i, hi⟩
  · rintro ⟨hf, i, hi, e⟩
    have hp := hf.2.2.2 i hi
    unfold poolP at hp
    simp only [Bool.and_eq_true, decide_eq_true_eq] at hp
    refine ⟨p.toNat, ⟨by omega, ?_⟩, by omega⟩
    have : (i : Int) ∈ unitsP f ((p.toNat : Nat) : Int) := mem_unitsP.2 ⟨hf, i, rfl, hi, by omega⟩
    have := List.length_pos_of_mem this
    omega
theorem pools_sp (f : api_Fleet) : ref32_Pools f = some (poolsP f) := by
  unfold ref32_Pools poolsP
  have := iter_foldl2 (body := ref32_Pools_l0 f) (List.range 8) (fun i a => ((i : Int), a)) (fun (a : List Int) (i : Nat) => if decide (0 < ((unitsP f (i : Int)).length : Int)) = true then a ++ [(i : Int)] else a) id (fun i a => a.length ≤ i) (fun i hi a ha => ?_) (fun a ha => ?_) [] (by simp)
  · rw [fold_filter (fun i : Nat => decide (0 < ((unitsP f (i : Int)).length : Int))) (fun i : Nat => (i : Int))] at this
    rw [show ((0 : Int), ([] : List Int)) = (((0 : Nat) : Int), []) from rfl, this]; simp
  · have hi' : i < 8 := by simpa using hi
    unfold ref32_Pools_l0
    simp only [List.getElem_range, units_sp, Option.bind_some]
    rw [if_pos (by simp; omega), w64 (by omega) (by omega)]
    by_cases hp : decide (0 < ((unitsP f (i : Int)).length : Int)) = true
    · rw [if_pos hp, if_pos hp, ck_t (by simp; omega)]; exact ⟨rfl, by simp; omega⟩
    · rw [if_neg hp, if_neg hp]; exact ⟨rfl, by omega⟩
  · unfold ref32_Pools_l0
    simp only [List.length_range]
    rw [if_neg (by simp)]; rfl

/-! Who is served -/
def servesI (f : api_Fleet) (s : api_Rotation) (i : Int) : Bool := decide (RightOk f s) && (decide (0 ≤ i) && (decide (i < s.Units.length) && ((s.Units.getD i.toNat default).Up && servesU s (s.Units.getD i.toNat default))))
theorem serves_sp (f : api_Fleet) (s : api_Rotation) (i : Int) : ref32_Serves f s i = some (servesI f s i) := by
  unfold ref32_Serves servesI
  rw [rright_sp]
  by_cases hr : RightOk f s
  case neg => simp [hr]
  obtain ⟨l0, l8⟩ := hr.len
  simp only [hr, decide_true, Option.bind_some, if_true, in_sp]
  rw [w64 (by omega) (by omega)]
  by_cases hi : 0 ≤ i ∧ i < s.Units.length
  · rw [if_pos (by simp; omega), idx_toNat hi.1 (by omega)]
    have e : s.Units.getD i.toNat default = s.Units[i.toNat]'(by omega) := by simp [List.getD, show i.toNat < s.Units.length by omega]
    simp only [Option.bind_some, e, servesU, hi.1, hi.2, decide_true, Bool.true_and]
    cases (s.Units[i.toNat]'(by omega)).Up <;> simp
  · rw [if_neg (by simp; omega)]
    simp only [Option.bind_some]
    by_cases h1 : 0 ≤ i
    · have : ¬ i < s.Units.length := fun h => hi ⟨h1, h⟩
      simp [this]
    · simp [h1]
def rservedP (f : api_Fleet) (s : api_Rotation) : List Int := (poolsP f).filter fun p => (unitsP f p).any (servesI f s)
theorem rserved_raw (f : api_Fleet) (s : api_Rotation) : ref32_Served f s = some (rservedP f s) := by
  unfold ref32_Served rservedP
  rw [pools_sp]
  simp only [Option.bind_some]
  have l8 := poolsP_len f
  have := iter_foldl2 (body := ref32_Served_l0 (poolsP f) f s) (poolsP f) (fun i a => ((i : Int), a)) (fun (a : List Int) (p : Int) => if (unitsP f p).any (servesI f s) = true then a ++ [p] else a) id (fun i a => a.length ≤ i) (fun i hi a ha => ?_) (fun a ha => ?_) [] (by simp)
  · rw [fold_filter (fun p : Int => (unitsP f p).any (servesI f s)) (fun p : Int => p)] at this
    rw [show ((0 : Int), ([] : List Int)) = (((0 : Nat) : Int), []) from rfl, this]; simp
  · unfold ref32_Served_l0
    simp only
    rw [if_pos (by simp; omega), idx_lt hi, w64 (by omega) (by omega)]
    simp only [Option.bind_some, units_sp]
    have u8 := unitsP_len f (poolsP f)[i]
    rw [iter_find (unitsP f (poolsP f)[i]) (servesI f s) (a ++ [(poolsP f)[i]]) a (fun j hj => ?_) ?_]
    · simp only [Option.bind_some]
      refine ⟨rfl, ?_⟩
      split
      · simp; omega
      · omega
    · unfold ref32_Served_l1
      simp only
      rw [if_neg (by simp)]
    · unfold ref32_Served_l1
      simp only
      rw [if_pos (by simp; omega), idx_lt hj, w64 (by omega) (by omega)]
      simp only [Option.bind_some, serves_sp]
      cases servesI f s (unitsP f (poolsP f)[i])[j] with
      | true => rw [if_pos rfl, if_pos rfl, ck_t (by simp; omega)]; rfl
      | false => rw [if_neg (by simp), if_neg (by simp)]; rfl
  · unfold ref32_Served_l0
    simp only
    rw [if_neg (by simp)]; rfl
theorem and_0 (v : Int) : bAnd .i64 0 v = 0 := by
  simp [bAnd]; decide
theorem rserved_eq (f : api_Fleet) (s : api_Rotation) : rservedP f s = servedP f s := by
  by_cases hr : RightOk f s
  case neg =>
    unfold servedP rservedP
    rw [if_neg hr, List.filter_eq_nil_iff]
    intro p _
    simp [servesI, hr]
  obtain ⟨h1, h2⟩ := servedP_ok hr
  have hl := hr.2.2.2.1
  refine sorted_ext _ _ ?_ h1 fun p => ?_
  · unfold rservedP poolsP
    exact List.Pairwise.filter _ (range_sorted _ _)
  · rw [h2]
    unfold rservedP servedRaw
    simp only [List.mem_filter, List.mem_map, List.any_eq_true]
    constructor
    · rintro ⟨_, x, hx, hs⟩
      obtain ⟨_, i, rfl, hi, e⟩ := mem_unitsP.1 hx
      have hi2 : i < s.Units.length := by omega
      unfold servesI at hs
      have e2 : s.Units.getD (Int.toNat (i : Int)) default = s.Units[i] := by simp [List.getD, hi2]
      simp only [e2, Bool.and_eq_true] at hs
      refine ⟨(f.Consumers[i], s.Units[i]), ⟨?_, hs.2.2.2.2⟩, e⟩
      have hz : i < (f.Consumers.zip s.Units).length := by simp; omega
      have := List.getElem_mem hz
      rw [List.getElem_zip] at this
      exact this
    · rintro ⟨⟨c, u⟩, ⟨hm, hs⟩, rfl⟩
      obtain ⟨i, hi, e⟩ := List.getElem_of_mem hm
      have hi1 : i < f.Consumers.length := by simp at hi; omega
      have hi2 : i < s.Units.length := by omega
      rw [List.getElem_zip, Prod.mk.injEq] at e
      obtain ⟨rfl, rfl⟩ := e
      refine ⟨mem_poolsP.2 ⟨hr.1, i, hi1, rfl⟩, (i : Int), mem_unitsP.2 ⟨hr.1, i, rfl, hi1, rfl⟩, ?_⟩
      unfold servesI
      have e2 : s.Units.getD (Int.toNat (i : Int)) default = s.Units[i] := by simp [List.getD, hi2]
      have hup : s.Units[i].Up = true := by
        rcases (unitP_iff.1 (hr.unit hi2 hi1)).2 with h | h
        · exact h.1
        · simp only [servesU, h.2, and_0] at hs; simp at hs
      simp only [e2, hr, hup, hs]
      simp; omega
theorem rserved_sp (f : api_Fleet) (s : api_Rotation) : ref32_Served f s = some (servedP f s) := by rw [rserved_raw, rserved_eq]
theorem any_not {l b : List Int} : (l.any fun x => !decide (x ∈ b)) = decide (¬ ∀ p ∈ l, p ∈ b) := by
  rw [Bool.eq_iff_iff, List.any_eq_true]
  simp
theorem rsafe0_sp (f : api_Fleet) (a b : api_Rotation) : ref33_safe f a b = some (decide (holdsP f a b)) := by
  unfold ref33_safe
  simp only [rserved_sp, Option.bind_some]
  have la := servedP_len f a
  have lb := servedP_len f b
  have inner : ∀ x, iter (ref33_safe_l1 (servedP f b) x) (false, 0) = some (decide (x ∈ servedP f b)) := fun x => by
    have := iter_foldl2 (body := ref33_safe_l1 (servedP f b) x) (servedP f b) (fun i (a : Bool) => (a, (i : Int))) (fun (a : Bool) (y : Int) => a || (x == y)) id (fun _ _ => True) (fun i hi a _ => ?_) (fun a _ => ?_) false trivial
    · have hf : ∀ (l : List Int) (a : Bool), l.foldl (fun (a : Bool) (y : Int) => a || (x == y)) a = (a || decide (x ∈ l)) := fun l => by
        induction l with
        | nil => intro a; simp
        | cons y l ih =>
          intro a
          rw [List.foldl_cons, ih]
          by_cases h1 : x = y <;> by_cases h2 : x ∈ l <;> simp [h1, h2] <;> simp_all
      rw [hf] at this
      rw [show ((false, (0 : Int)) : Bool × Int) = (false, ((0 : Nat) : Int)) from rfl, this]
      simp
    · unfold ref33_safe_l1
      simp only
      rw [if_pos (by simp; omega), idx_lt hi]
      simp only [Option.bind_some]
      rw [w64 (by omega) (by omega)]
      exact ⟨rfl, trivial⟩
    · unfold ref33_safe_l1
      simp only
      rw [if_neg (by simp)]; rfl
  rw [iter_find (servedP f a) (fun x => !decide (x ∈ servedP f b)) (Sum.inr false) (Sum.inl ()) (fun i hi => ?_) ?_]
  · simp only [Option.bind_some, any_not]
    by_cases h : holdsP f a b
    · have h' : ∀ p ∈ servedP f a, p ∈ servedP f b := h
      rw [decide_eq_false (not_not_intro h'), decide_eq_true h]; rfl
    · have h' : ¬ ∀ p ∈ servedP f a, p ∈ servedP f b := h
      rw [decide_eq_true h', decide_eq_false h]; rfl
  · unfold ref33_safe_l0
    rw [if_neg (by simp)]
  · unfold ref33_safe_l0
    rw [if_pos (by simp; omega), idx_lt hi, w64 (by omega) (by omega)]
    simp only [Option.bind_some, inner]
    cases (decide ((servedP f a)[i] ∈ servedP f b)) <;> rfl
theorem rsafe_sp (f : api_Fleet) (s : api_Rotation) (x : api_Step) : ref33_Safe f s x = some (safeP f s x) := by
  unfold ref33_Safe safeP
  simp only [rapply_sp, Option.bind_some, rsafe0_sp]
  cases ((applyP f s x).2 == 0) <;> simp
theorem rchoices_sp {f : api_Fleet} {s : api_Rotation} (h8 : f.Consumers.length ≤ 100) : ref33_Choices f s = some (choicesC (safeP f s) f.Consumers.length) := by
  have h1 : ∀ (k : Int) (acc : List api_Step), acc.length ≤ 1000 → iter (ref33_Choices_l1 f s (k, acc)) (0, acc) = some (acc ++ rowC (safeP f s) f.Consumers.length k) := fun k acc hacc => by
    have := iter_foldl2 (body := ref33_Choices_l1 f s (k, acc)) (List.range f.Consumers.length) (fun i a => ((i : Int), a)) (fun (a : List api_Step) (i : Nat) => if safeP f s ⟨k, (i : Int)⟩ = true then a ++ [⟨k, (i : Int)⟩] else a) id (fun i a => a.length ≤ 1000 + i) (fun i hi a ha => ?_) (fun a ha => ?_) acc (by simpa using hacc)
    · rw [fold_filter (fun i : Nat => safeP f s ⟨k, (i : Int)⟩) (fun i : Nat => (⟨k, (i : Int)⟩ : api_Step))] at this
      exact this
    · have hi' : i < f.Consumers.length := by simpa using hi
      unfold ref33_Choices_l1
      simp only [rsafe_sp, List.getElem_range, Option.bind_some]
      rw [if_pos (by simp; omega), w64 (by omega) (by omega)]
      by_cases hp : safeP f s ⟨k, (i : Int)⟩ = true
      · rw [if_pos hp, if_pos hp, ck_t (by simp; omega)]; exact ⟨rfl, by simp; omega⟩
      · rw [if_neg hp, if_neg hp]; exact ⟨rfl, by omega⟩
    · unfold ref33_Choices_l1
      simp only [List.length_range]
      rw [if_neg (by simp)]; rfl
  unfold ref33_Choices
  have := iter_foldl2 (body := ref33_Choices_l0 f s) (List.range 8) (fun i a => (((i + 1 : Nat) : Int), a)) (fun (a : List api_Step) (j : Nat) => a ++ rowC (safeP f s) f.Consumers.length ((j + 1 : Nat) : Int)) id (fun i a => a.length ≤ 100 * i) (fun i hi a ha => ?_) (fun a ha => ?_) [] (by simp)
  · rw [fold_flat (fun j : Nat => rowC (safeP f s) f.Consumers.length ((j + 1 : Nat) : Int))] at this
    simp only [List.nil_append, id] at this
    rw [show ((1 : Int), ([] : List api_Step)) = (((0 + 1 : Nat) : Int), []) from rfl, this]; rfl
  · have hi' : i < 8 := by simpa using hi
    have := rowC_len (safeP f s) f.Consumers.length ((i + 1 : Nat) : Int)
    unfold ref33_Choices_l0
    simp only [List.getElem_range]
    rw [if_pos (by simp; omega), h1 _ _ (by omega)]
    simp only [Option.bind_some]
    rw [w64 (by omega) (by omega)]
    exact ⟨rfl, by simp only [List.length_append]; omega⟩
  · unfold ref33_Choices_l0
    simp only [List.length_range]
    rw [if_neg (by simp)]; rfl

/-! Lists of safe steps -/
def endS (f : api_Fleet) (s : api_Rotation) (l : List api_Step) : api_Rotation := l.foldl (fun s x => (applyP f s x).1) s
def safeRun (f : api_Fleet) : api_Rotation → List api_Step → Prop
  | _, [] => True
  | s, x :: l => safeP f s x = true ∧ safeRun f (applyP f s x).1 l
theorem safeRun_snoc {f : api_Fleet} {x : api_Step} : ∀ (l : List api_Step) (s : api_Rotation), safeRun f s l → safeP f (endS f s l) x = true → safeRun f s (l ++ [x]) ∧ endS f s (l ++ [x]) = (applyP f (endS f s l) x).1 := fun l => by
  induction l with
  | nil => intro s _ h; exact ⟨⟨h, trivial⟩, rfl⟩
  | cons y l ih =>
    intro s h hx
    obtain ⟨h1, h2⟩ := ih _ h.2 hx
    exact ⟨⟨h.1, h1⟩, h2⟩
theorem safeRun_run {f : api_Fleet} : ∀ (l : List api_Step) (s : api_Rotation), RightOk f s → safeRun f s l → (runP f s l).2 = 0 ∧ RightOk f (endS f s l) ∧ ∀ r ∈ (runP f s l).1, holdsP f s r := fun l => by
  induction l with
  | nil => intro s hr _; exact ⟨rfl, hr, fun r h => by cases h⟩
  | cons x l ih =>
    intro s hr h
    have h0 := safe_possible h.1
    obtain ⟨r1, _⟩ := apply_right hr h0
    obtain ⟨i1, i2, i3⟩ := ih _ r1 h.2
    have hh : holdsP f s (applyP f s x).1 := by
      have := h.1
      unfold safeP at this
      simp only [Bool.and_eq_true, decide_eq_true_eq] at this
      exact this.2
    have e : runP f s (x :: l) = ((applyP f s x).1 :: (runP f (applyP f s x).1 l).1, 0) := by rw [runP_eq, if_neg (not_not_intro h0), if_neg (not_not_intro i1)]
    rw [e]
    refine ⟨rfl, i2, fun r hm => ?_⟩
    rcases List.mem_cons.1 hm with rfl | hm
    · exact hh
    · exact fun p hp => i3 r hm p (hh p hp)
/-! Faults -/
def faultP (f : api_Fleet) : Int → api_Rotation → List api_Step → Int × Int
  | i, _, [] => (i, 0)
  | i, s, x :: l => if (applyP f s x).2 ≠ 0 then (i, (applyP f s x).2) else if ¬ holdsP f s (applyP f s x).1 then (i, 38) else faultP f (i + 1) (applyP f s x).1 l
theorem faultP_eq {f : api_Fleet} {i : Int} {s : api_Rotation} {x : api_Step} {l : List api_Step} : faultP f i s (x :: l) = if (applyP f s x).2 ≠ 0 then (i, (applyP f s x).2) else if ¬ holdsP f s (applyP f s x).1 then (i, 38) else faultP f (i + 1) (applyP f s x).1 l := rfl
def faultE (n : Int) (r : Int × Int) : Unit ⊕ (Int × Int) := if r.2 = 0 then .inl () else .inr r
theorem faultP_0 {f : api_Fleet} : ∀ (l : List api_Step) (i : Int) (s : api_Rotation), (faultP f i s l).2 = 0 → faultP f i s l = (i + l.length, 0) := fun l => by
  induction l with
  | nil => intro i s _; simp [faultP]
  | cons x l ih =>
    intro i s h
    rw [faultP_eq] at h ⊢
    by_cases h0 : (applyP f s x).2 = 0
    · rw [if_neg (not_not_intro h0)] at h ⊢
      by_cases h1 : holdsP f s (applyP f s x).1
      · rw [if_neg (not_not_intro h1)] at h ⊢
        rw [ih _ _ h]
        simp only [List.length_cons, Prod.mk.injEq, and_true]
        omega
      · rw [if_pos h1] at h; simp at h
    · rw [if_pos h0] at h; exact absurd h h0
theorem safeRun_fault {f : api_Fleet} : ∀ (l : List api_Step) (i : Int) (s : api_Rotation), safeRun f s l → (faultP f i s l).2 = 0 := fun l => by
  induction l with
  | nil => intro i s _; rfl
  | cons x l ih =>
    intro i s h
    have h1 := h.1
    unfold safeP at h1
    simp only [Bool.and_eq_true, decide_eq_true_eq, beq_iff_eq] at h1
    rw [faultP_eq, if_neg (not_not_intro h1.1), if_neg (not_not_intro h1.2)]
    exact ih _ _ h.2

/-! The law -/

theorem safe_not {f : api_Fleet} {s : api_Rotation} (h : ¬ RightOk f s) (x : api_Step) : safeP f s x = false := by
  unfold safeP applyP
  rw [if_pos h]; simp
theorem choicesC_nil {sf : api_Step → Bool} {n : Nat} (h : ∀ x, sf x = false) : choicesC sf n = [] := by
  cases hc : choicesC sf n with
  | nil => rfl
  | cons x l =>
    have := (mem_choicesC (sf := sf) (n := n) (x := x)).1 (by rw [hc]; exact List.mem_cons_self ..)
    rw [h x] at this; simp at this
theorem choices_same (f : api_Fleet) (s : api_Rotation) : choicesC (safeP f s) f.Consumers.length = choicesC (safeP f s) s.Units.length := by
  by_cases hr : RightOk f s
  · rw [hr.2.2.2.1]
  · rw [choicesC_nil (safe_not hr), choicesC_nil (safe_not hr)]
theorem choices_len (f : api_Fleet) (s : api_Rotation) : (choicesC (safeP f s) s.Units.length).length ≤ 64 := by
  by_cases hr : RightOk f s
  · exact choicesC_len hr.len.2
  · rw [choicesC_nil (safe_not hr)]; simp
theorem apply_len (f : api_Fleet) (s : api_Rotation) (x : api_Step) : (applyP f s x).1.Units.length ≤ 1000000 := by
  by_cases h0 : (applyP f s x).2 = 0
  · have hr : RightOk f s := by
      apply Decidable.byContradiction
      intro hr
      unfold applyP at h0
      rw [if_pos hr] at h0; simp at h0
    have := (apply_right hr h0).1.len
    omega
  · unfold applyP at h0 ⊢
    split
    · simp [zeroR]
    · rename_i h1; rw [if_neg h1] at h0
      split
      · simp [zeroR]
      · rename_i h2; rw [if_neg h2] at h0
        split
        · simp [zeroR]
        · rename_i h3; rw [if_neg h3] at h0; simp at h0

def unit1 : api_Unit := ⟨true, 1, 1⟩
set_option maxRecDepth 20000 in
theorem repeat_sp {k : Nat} (h1 : 1 ≤ k) (h8 : k ≤ 8) : slices_Repeat_api_Unit [unit1] (k : Int) = some (List.replicate k unit1) := by
  have h : k = 1 ∨ k = 2 ∨ k = 3 ∨ k = 4 ∨ k = 5 ∨ k = 6 ∨ k = 7 ∨ k = 8 := by omega
  rcases h with rfl | rfl | rfl | rfl | rfl | rfl | rfl | rfl
  all_goals
    unfold slices_Repeat_api_Unit
    rw [if_neg (by decide)]
    rw [show math_bits_Mul (IntKind.u64.wrap (([unit1] : List api_Unit).length : Int)) (IntKind.u64.wrap ((_ : Nat) : Int)) = some (0, _) from rfl]
    simp only [Option.bind_some]
    rw [if_neg (by decide), ck_t (by decide)]
    simp only [Option.bind_some]
    repeat (first | rw [iter_out (by rfl)] | rw [iter_go (by rfl)])
    rfl
def startR (f : api_Fleet) : api_Rotation := ⟨1, 1, List.replicate f.Consumers.length ⟨true, 1, 1⟩⟩
theorem rstart_sp (f : api_Fleet) : ref32_Start f = some (if FleetOk f then (startR f, 0) else (zeroR, 36)) := by
  by_cases hf : FleetOk f
  · rw [if_pos hf]; exact start_sp hf
  · unfold ref32_Start
    rw [if_neg hf, valid_sp]
    simp only [hf, decide_false, Option.bind_some]
    rw [if_pos (by simp)]; rfl
theorem fstart_sp (f : api_Fleet) : fleet_Start f = some (if FleetOk f then (startR f, 0) else (zeroR, 36)) := by
  unfold fleet_Start
  rw [check_sp]
  by_cases hf : FleetOk f
  · simp only [hf, if_true, Option.bind_some]
    rw [if_neg (by simp), show ([(⟨true, 1, 1⟩ : api_Unit)] : List api_Unit) = [unit1] from rfl, repeat_sp hf.2.1 hf.2.2.1]; rfl
  · simp only [hf, if_false, Option.bind_some]
    rw [if_pos (by simp)]; rfl
/-- the units that serve in a right state are up -/
theorem RightOk.up {f : api_Fleet} {s : api_Rotation} (h : RightOk f s) {i : Nat} (hi : i < s.Units.length) (hs : servesU s s.Units[i] = true) : s.Units[i].Up = true := by
  rcases (unitP_iff.1 (h.unit hi (by rw [← h.2.2.2.1]; exact hi))).2 with h | h
  · exact h.1
  · simp only [servesU, h.2, and_0] at hs; simp at hs
/-! Ended -/
def endedU (u : api_Unit) : Bool := u.Up && (u.Stored == 2 && u.Used == 2)
def endedP (f : api_Fleet) (s : api_Rotation) : Bool := decide (RightOk f s) && (s.Valid == 2 && s.Units.all endedU)
theorem rended_sp (f : api_Fleet) (s : api_Rotation) : ref32_Ended f s = some (endedP f s) := by
  unfold ref32_Ended endedP
  rw [rright_sp]
  by_cases hr : RightOk f s
  case neg => simp [hr]
  simp only [hr, decide_true, Option.bind_some, Bool.true_and]
  by_cases hv : s.Valid = 2
  case neg => simp [hv]
  obtain ⟨l0, l8⟩ := hr.len
  rw [if_neg (by simp)]
  simp only [Option.bind_some]
  rw [if_neg (by simp [hv]), iter_find s.Units (fun u => !endedU u) (.inr false) (.inl ()) (fun i hi => ?_) ?_]
  · simp only [Option.bind_some, hv]
    cases ha : s.Units.all endedU with
    | true => rw [if_neg]; · rfl
              · simp only [List.all_eq_true] at ha
                simpa using ha
    | false => rw [if_pos]; · rfl
               · simp only [List.all_eq_false] at ha
                 simpa using ha
  · unfold ref32_Ended_l0
    rw [if_neg (by simp)]
  · unfold ref32_Ended_l0
    rw [if_pos (by simp; omega), idx_lt hi, w64 (by omega) (by omega)]
    simp only [Option.bind_some]
    have : (!s.Units[i].Up || (s.Units[i].Stored != 2 || s.Units[i].Used != 2)) = !endedU s.Units[i] := by
      unfold endedU
      cases s.Units[i].Up <;> simp [bne]
    rw [this]
    split <;> rfl
theorem cb_sp (u : api_Unit) : fleet_Ended_1_cb u ⟨true, 2, 2⟩ = some (!endedU u, ⟨true, 2, 2⟩) := by
  unfold fleet_Ended_1_cb endedU
  cases u.Up <;> simp
theorem fended_sp (f : api_Fleet) (s : api_Rotation) : fleet_Ended f s = some (endedP f s) := by
  unfold fleet_Ended endedP
  rw [right_sp]
  by_cases hr : RightOk f s
  case neg => simp [hr]
  simp only [hr, decide_true, Option.bind_some, Bool.true_and]
  by_cases hv : s.Valid = 2
  case neg => simp [hv]
  obtain ⟨l0, l8⟩ := hr.len
  rw [if_pos trivial, if_pos (by simp [hv])]
  have hc : ∃ i : Int, slices_ContainsFunc_api_Unit_at_fleet_Ended_1_b s.Units ⟨true, 2, 2⟩ = some (!s.Units.all endedU, ⟨true, 2, 2⟩) := ⟨0, by
    unfold slices_ContainsFunc_api_Unit_at_fleet_Ended_1_b slices_IndexFunc_api_Unit_at_fleet_Ended_1_b
    have key : ∀ (m i : Nat), i + m = s.Units.length → ∃ e, iter (slices_IndexFunc_api_Unit_at_fleet_Ended_1_b_l0 s.Units) ((i : Int), true, 2, 2) = some e ∧ ((e = .inl (true, 2, 2) ∧ (s.Units.drop i).all endedU = true) ∨ (∃ j : Nat, e = .inr ((j : Int), ⟨true, 2, 2⟩) ∧ (s.Units.drop i).all endedU = false)) := fun m => by
      induction m with
      | zero =>
        intro i h
        have : i = s.Units.length := by omega
        subst this
        refine ⟨_, iter_out (e := .inl (true, 2, 2)) ?_, .inl ⟨rfl, by simp⟩⟩
        unfold slices_IndexFunc_api_Unit_at_fleet_Ended_1_b_l0
        simp only
        rw [if_neg (by simp)]
      | succ m ih =>
        intro i h
        have hi : i < s.Units.length := by omega
        have hstep : slices_IndexFunc_api_Unit_at_fleet_Ended_1_b_l0 s.Units ((i : Int), true, 2, 2) = some (if endedU s.Units[i] = true then .go (((i + 1 : Nat) : Int), true, 2, 2) else .out (.inr ((i : Int), ⟨true, 2, 2⟩))) := by
          unfold slices_IndexFunc_api_Unit_at_fleet_Ended_1_b_l0
          simp only
          rw [if_pos (by simp; omega), idx_lt hi, w64 (by omega) (by omega)]
          simp only [Option.bind_some, cb_sp]
          cases endedU s.Units[i] <;> simp
        rw [List.drop_eq_getElem_cons hi, List.all_cons]
        cases hu : endedU s.Units[i] with
        | true =>
          rw [hu, if_pos rfl] at hstep
          rw [iter_go hstep, Bool.true_and]
          exact ih (i + 1) (by omega)
        | false =>
          rw [hu, if_neg (by simp)] at hstep
          exact ⟨_, iter_out hstep, .inr ⟨i, rfl, rfl⟩⟩
    obtain ⟨e, h1, h2⟩ := key s.Units.length 0 (by omega)
    simp only at h1 ⊢
    rw [show (0 : Int) = ((0 : Nat) : Int) from rfl, h1]
    simp only [List.drop_zero] at h2
    rcases h2 with ⟨rfl, h2⟩ | ⟨j, rfl, h2⟩
    · simp [h2]
    · simp [h2]⟩
  obtain ⟨_, hc⟩ := hc
  rw [hc]
  simp [hv]
/-! Units and pools in the program's answer -/
theorem funits_sp (f : api_Fleet) (p : Int) : fleet_Units f p = some (unitsP f p) := by
  rw [← units_sp]
  unfold fleet_Units ref32_Units
  rw [check_sp, valid_sp]
  by_cases hf : FleetOk f
  · simp only [hf, if_true, decide_true, Option.bind_some]
    rw [if_neg (by simp), if_neg (by simp)]; rfl
  · simp [hf]
theorem fpools_sp (f : api_Fleet) : fleet_Pools f = some (poolsP f) := by
  unfold fleet_Pools
  rw [check_sp]
  by_cases hf : FleetOk f
  case neg =>
    simp only [hf, if_false, Option.bind_some]
    rw [if_pos (by simp)]
    congr 1
    refine (List.eq_nil_iff_forall_not_mem.2 fun p hp => hf (mem_poolsP.1 hp).1).symm
  simp only [hf, if_true, Option.bind_some]
  rw [if_neg (by simp)]
  have h8 := hf.2.2.1
  have hloop : iter (fleet_Pools_l0 f) (0, []) = some (f.Consumers.map fun c => c.Pool) := by
    rw [iter_foldl f.Consumers (fun (a : List Int) c => a ++ [c.Pool]) id (fun i a => a.length = i) (fun i hi a ha => ?_) (fun a ha => ?_) [] rfl]
    · congr 1
      have : ∀ (l : List api_Consumer) (a : List Int), l.foldl (fun (a : List Int) c => a ++ [c.Pool]) a = a ++ l.map fun c => c.Pool := fun l => by
        induction l with
        | nil => intro a; simp
        | cons c l ih => intro a; simp only [List.foldl_cons, ih]; simp
      simp [this]
    · unfold fleet_Pools_l0
      rw [if_pos (by simp; omega), idx_lt hi, Option.bind_some, ck_t (by simp; omega), Option.bind_some, w64 (by omega) (by omega)]
      exact ⟨rfl, by simp [ha]⟩
    · unfold fleet_Pools_l0
      rw [if_neg (by simp)]; rfl
  rw [hloop]
  simp only [Option.bind_some]
  unfold slices_Sort_int_vec0 slices_Compact_int_eat0_own0
  rw [ck_t (by simp; omega)]
  simp only [Option.bind_some]
  rw [ck_t (by simp; omega)]
  simp only [Option.bind_some]
  congr 1
  obtain ⟨h1, h2⟩ := compact_ok (sorted_merge (f.Consumers.map fun c => c.Pool))
  refine sorted_ext _ _ h1 ?_ fun p => ?_
  · unfold poolsP; exact range_sorted _ _
  · rw [h2, mem_merge, mem_poolsP, List.mem_map]
    constructor
    · rintro ⟨c, hc, rfl⟩
      obtain ⟨i, hi, rfl⟩ := List.getElem_of_mem hc
      exact ⟨hf, i, hi, rfl⟩
    · rintro ⟨_, i, hi, rfl⟩
      exact ⟨_, List.getElem_mem hi, rfl⟩
/-! awake -/
def fB : api_Fleet := ⟨1, [⟨3, false, false⟩]⟩
theorem fB_ok : FleetOk fB := by
  refine ⟨.inl rfl, by decide, by decide, fun i h => ?_⟩
  have : i = 0 := by simp [fB] at h; omega
  subst this; rfl
theorem rB : RightOk fB ⟨1, 1, [⟨true, 1, 1⟩]⟩ := start_right fB_ok
end Go.Vl
