/- Plain laws of fleets: the start, what is served, what has ended, in both answers. Conditions: none. -/
import Derived.Test.YtclmnpkhopioiabSxW
set_option linter.unusedSimpArgs false
set_option linter.unusedVariables false
namespace Go.Vl
open Go

def unit1 : api_Unit := ⟨true, 1, 1⟩
set_option maxRecDepth 20000 in
theorem repeat_sp {k : Nat} (h1 : 1 ≤ k) (h8 : k ≤ 8) : slices_Repeat_api_Unit [unit1] (k : Int) = some (List.replicate k unit1) := by
  have h : k = 1 ∨ k = 2 ∨ k = 3 ∨ k = 4 ∨ k = 5 ∨ k = 6 ∨ k = 7 ∨ k = 8 := by omega
  rcases h with rfl | rfl | rfl | rfl | rfl | rfl | rfl | rfl
  all_goals
    unfold slices_Repeat_api_Unit
    rw [if_neg (by decide)]
    rw [show math_bits_Mul (IntKind.u64.wrap (([unit1] : List api_Unit).length : Int)) (IntKind.u64.wrap ((_ : Nat) : Int)) = some (0, _) from rfl]
    simp only [Option.bind_some]
    rw [if_neg (by decide), ck_t (by decide)]
    simp only [Option.bind_some]
    repeat (first | rw [iter_out (by rfl)] | rw [iter_go (by rfl)])
    rfl
def startR (f : api_Fleet) : api_Rotation := ⟨1, 1, List.replicate f.Consumers.length ⟨true, 1, 1⟩⟩
theorem rstart_sp (f : api_Fleet) : ref32_Start f = some (if FleetOk f then (startR f, 0) else (zeroR, 36)) := by
  by_cases hf : FleetOk f
  · rw [if_pos hf]; exact start_sp hf
  · unfold ref32_Start
    rw [if_neg hf, valid_sp]
    simp only [hf, decide_false, Option.bind_some]
    rw [if_pos (by simp)]; rfl
theorem fstart_sp (f : api_Fleet) : fleet_Start f = some (if FleetOk f then (startR f, 0) else (zeroR, 36)) := by
  unfold fleet_Start
  rw [check_sp]
  by_cases hf : FleetOk f
  · simp only [hf, if_true, Option.bind_some]
    rw [if_neg (by simp), show ([(⟨true, 1, 1⟩ : api_Unit)] : List api_Unit) = [unit1] from rfl, repeat_sp hf.2.1 hf.2.2.1]; rfl
  · simp only [hf, if_false, Option.bind_some]
    rw [if_pos (by simp)]; rfl
/-- the units that serve in a right state are up -/
theorem RightOk.up {f : api_Fleet} {s : api_Rotation} (h : RightOk f s) {i : Nat} (hi : i < s.Units.length) (hs : servesU s s.Units[i] = true) : s.Units[i].Up = true := by
  rcases (unitP_iff.1 (h.unit hi (by rw [← h.2.2.2.1]; exact hi))).2 with h | h
  · exact h.1
  · simp only [servesU, h.2, and_0] at hs; simp at hs
/-! Ended -/
def endedU (u : api_Unit) : Bool := u.Up && (u.Stored == 2 && u.Used == 2)
def endedP (f : api_Fleet) (s : api_Rotation) : Bool := decide (RightOk f s) && (s.Valid == 2 && s.Units.all endedU)
theorem rended_sp (f : api_Fleet) (s : api_Rotation) : ref32_Ended f s = some (endedP f s) := by
  unfold ref32_Ended endedP
  rw [rright_sp]
  by_cases hr : RightOk f s
  case neg => simp [hr]
  simp only [hr, decide_true, Option.bind_some, Bool.true_and]
  by_cases hv : s.Valid = 2
  case neg => simp [hv]
  obtain ⟨l0, l8⟩ := hr.len
  rw [if_neg (by simp)]
  simp only [Option.bind_some]
  rw [if_neg (by simp [hv]), iter_find s.Units (fun u => !endedU u) (.inr false) (.inl ()) (fun i hi => ?_) ?_]
  · simp only [Option.bind_some, hv]
    cases ha : s.Units.all endedU with
    | true => rw [if_neg]; · rfl
              · simp only [List.all_eq_true] at ha
                simpa using ha
    | false => rw [if_pos]; · rfl
               · simp only [List.all_eq_false] at ha
                 simpa using ha
  · unfold ref32_Ended_l0
    rw [if_neg (by simp)]
  · unfold ref32_Ended_l0
    rw [if_pos (by simp; omega), idx_lt hi, w64 (by omega) (by omega)]
    simp only [Option.bind_some]
    have : (!s.Units[i].Up || (s.Units[i].Stored != 2 || s.Units[i].Used != 2)) = !endedU s.Units[i] := by
      unfold endedU
      cases s.Units[i].Up <;> simp [bne]
    rw [this]
    split <;> rfl
theorem cb_sp (u : api_Unit) : fleet_Ended_1_cb u ⟨true, 2, 2⟩ = some (!endedU u, ⟨true, 2, 2⟩) := by
  unfold fleet_Ended_1_cb endedU
  cases u.Up <;> simp
theorem fended_sp (f : api_Fleet) (s : api_Rotation) : fleet_Ended f s = some (endedP f s) := by
  unfold fleet_Ended endedP
  rw [right_sp]
  by_cases hr : RightOk f s
  case neg => simp [hr]
  simp only [hr, decide_true, Option.bind_some, Bool.true_and]
  by_cases hv : s.Valid = 2
  case neg => simp [hv]
  obtain ⟨l0, l8⟩ := hr.len
  rw [if_pos trivial, if_pos (by simp [hv])]
  have hc : ∃ i : Int, slices_ContainsFunc_api_Unit_at_fleet_Ended_1_b s.Units ⟨true, 2, 2⟩ = some (!s.Units.all endedU, ⟨true, 2, 2⟩) := ⟨0, by
    unfold slices_ContainsFunc_api_Unit_at_fleet_Ended_1_b slices_IndexFunc_api_Unit_at_fleet_Ended_1_b
    have key : ∀ (m i : Nat), i + m = s.Units.length → ∃ e, iter (slices_IndexFunc_api_Unit_at_fleet_Ended_1_b_l0 s.Units) ((i : Int), true, 2, 2) = some e ∧ ((e = .inl (true, 2, 2) ∧ (s.Units.drop i).all endedU = true) ∨ (∃ j : Nat, e = .inr ((j : Int), ⟨true, 2, 2⟩) ∧ (s.Units.drop i).all endedU = false)) := fun m => by
      induction m with
      | zero =>
        intro i h
        have : i = s.Units.length := by omega
        subst this
        refine ⟨_, iter_out (e := .inl (true, 2, 2)) ?_, .inl ⟨rfl, by simp⟩⟩
        unfold slices_IndexFunc_api_Unit_at_fleet_Ended_1_b_l0
        simp only
        rw [if_neg (by simp)]
      | succ m ih =>
        intro i h
        have hi : i < s.Units.length := by omega
        have hstep : slices_IndexFunc_api_Unit_at_fleet_Ended_1_b_l0 s.Units ((i : Int), true, 2, 2) = some (if endedU s.Units[i] = true then .go (((i + 1 : Nat) : Int), true, 2, 2) else .out (.inr ((i : Int), ⟨true, 2, 2⟩))) := by
          unfold slices_IndexFunc_api_Unit_at_fleet_Ended_1_b_l0
          simp only
          rw [if_pos (by simp; omega), idx_lt hi, w64 (by omega) (by omega)]
          simp only [Option.bind_some, cb_sp]
          cases endedU s.Units[i] <;> simp
        rw [List.drop_eq_getElem_cons hi, List.all_cons]
        cases hu : endedU s.Units[i] with
        | true =>
          rw [hu, if_pos rfl] at hstep
          rw [iter_go hstep, Bool.true_and]
          exact ih (i + 1) (by omega)
        | false =>
          rw [hu, if_neg (by simp)] at hstep
          exact ⟨_, iter_out hstep, .inr ⟨i, rfl, rfl⟩⟩
    obtain ⟨e, h1, h2⟩ := key s.Units.length 0 (by omega)
    simp only at h1 ⊢
    rw [show (0 : Int) = ((0 : Nat) : Int) from rfl, h1]
    simp only [List.drop_zero] at h2
    rcases h2 with ⟨rfl, h2⟩ | ⟨j, rfl, h2⟩
    · simp [h2]
    · simp [h2]⟩
  obtain ⟨_, hc⟩ := hc
  rw [hc]
  simp [hv]
/-! Units and pools in the program's answer -/
theorem funits_sp (f : api_Fleet) (p : Int) : fleet_Units f p = some (unitsP f p) := by
  rw [← units_sp]
  unfold fleet_Units ref32_Units
  rw [check_sp, valid_sp]
  by_cases hf : FleetOk f
  · simp only [hf, if_true, decide_true, Option.bind_some]
    rw [if_neg (by simp), if_neg (by simp)]; rfl
  · simp [hf]
theorem fpools_sp (f : api_Fleet) : fleet_Pools f = some (poolsP f) := by
  unfold fleet_Pools
  rw [check_sp]
  by_cases hf : FleetOk f
  case neg =>
    simp only [hf, if_false, Option.bind_some]
    rw [if_pos (by simp)]
    congr 1
    refine (List.eq_nil_iff_forall_not_mem.2 fun p hp => hf (mem_poolsP.1 hp).1).symm
  simp only [hf, if_true, Option.bind_some]
  rw [if_neg (by simp)]
  have h8 := hf.2.2.1
  have hloop : iter (fleet_Pools_l0 f) (0, []) = some (f.Consumers.map fun c => c.Pool) := by
    rw [iter_foldl f.Consumers (fun (a : List Int) c => a ++ [c.Pool]) id (fun i a => a.length = i) (fun i hi a ha => ?_) (fun a ha => ?_) [] rfl]
    · congr 1
      have : ∀ (l : List api_Consumer) (a : List Int), l.foldl (fun (a : List Int) c => a ++ [c.Pool]) a = a ++ l.map fun c => c.Pool := fun l => by
        induction l with
        | nil => intro a; simp
        | cons c l ih => intro a; simp only [List.foldl_cons, ih]; simp
      simp [this]
    · unfold fleet_Pools_l0
      rw [if_pos (by simp; omega), idx_lt hi, Option.bind_some, ck_t (by simp; omega), Option.bind_some, w64 (by omega) (by omega)]
      exact ⟨rfl, by simp [ha]⟩
    · unfold fleet_Pools_l0
      rw [if_neg (by simp)]; rfl
  rw [hloop]
  simp only [Option.bind_some]
  unfold slices_Sort_int_vec0 slices_Compact_int_eat0_own0
  rw [ck_t (by simp; omega)]
  simp only [Option.bind_some]
  rw [ck_t (by simp; omega)]
  simp only [Option.bind_some]
  congr 1
  obtain ⟨h1, h2⟩ := compact_ok (sorted_merge (f.Consumers.map fun c => c.Pool))
  refine sorted_ext _ _ h1 ?_ fun p => ?_
  · unfold poolsP; exact range_sorted _ _
  · rw [h2, mem_merge, mem_poolsP, List.mem_map]
    constructor
    · rintro ⟨c, hc, rfl⟩
      obtain ⟨i, hi, rfl⟩ := List.getElem_of_mem hc
      exact ⟨hf, i, hi, rfl⟩
    · rintro ⟨_, i, hi, rfl⟩
      exact ⟨_, List.getElem_mem hi, rfl⟩
/-! awake -/
def fB : api_Fleet := ⟨1, [⟨3, false, false⟩]⟩
theorem fB_ok : FleetOk fB := by
  refine ⟨.inl rfl, by decide, by decide, fun i h => ?_⟩
  have : i = 0 := by simp [fB] at h; omega
  subst this; rfl
theorem rB : RightOk fB ⟨1, 1, [⟨true, 1, 1⟩]⟩ := start_right fB_ok
end Go.Vl
