/- Plain laws of fleets: FleetBits, FleetServes, FleetPools. Conditions: none. -/
import Derived.Test.YtclmnpkhopioiaaRyE
set_option linter.unusedSimpArgs false
set_option linter.unusedVariables false
namespace Go.Vl
open Go

theorem copy32_sp {s : api_Rotation} (h8 : s.Units.length ≤ 1000) : ref32_Copy s = some s := by
  unfold ref32_Copy
  rw [ck_t (by omega)]; rfl
theorem bx_11 : bAnd .i64 1 1 = 1 := by decide
theorem servedP_not {f : api_Fleet} {s : api_Rotation} (h : ¬ RightOk f s) : servedP f s = [] := if_neg h
theorem bits_in2 {f : api_Fleet} {m : make_Tape} {s : api_Rotation} {v : Int} (hr : RightOk f ⟨s.Known, v, s.Units⟩) : iter (law32_FleetBits_l1 s (f, m) v) 0 = some (.inl ()) := by
  have l8 := hr.len.2
  simp only at l8
  rw [iter_all s.Units.length (fun _ => true) (fun i hi => ?_) ?_]
  · simp
  · unfold law32_FleetBits_l1
    rw [if_neg (by simp)]
  · unfold law32_FleetBits_l1
    rw [if_pos (by simp; omega), idx_lt hi, w64 (by omega) (by omega)]
    simp only [Option.bind_some, fserves_sp]
    have e : servesI f ⟨s.Known, v, s.Units⟩ (i : Int) = (s.Units[i].Up && (bAnd .i64 s.Units[i].Used v != 0)) := by
      unfold servesI
      have e2 : s.Units.getD (Int.toNat (i : Int)) default = s.Units[i] := by simp [List.getD, hi]
      simp only [e2, hr, decide_true, Bool.true_and]
      rw [decide_eq_true (by omega), decide_eq_true (by omega)]
      rfl
    rw [e]
    cases s.Units[i].Up <;> simp
theorem FleetBits_law (a : List Int) : law32_FleetBits a = some true := by
  unfold law32_FleetBits
  by_cases h : 300 < (a.length : Int)
  · rw [if_pos (by simpa using h), awake32]; rfl
  rw [if_neg (by simpa using h)]
  obtain ⟨f, m1, e1, hf, _, _, t1⟩ := make_Fleet_ex (tape0 h) (most := 5) (by omega) (by omega)
  rw [e1]
  simp only [Option.bind_some]
  obtain ⟨s, m2, e2, hs, t2⟩ := make_State_ex t1 hf
  rw [e2]
  simp only [Option.bind_some]
  have hl : iter (law32_FleetBits_l0 (s, m2) (f, m1)) 0 = some (.inl ()) := by
    rw [iter_all 4 (fun _ => true) (fun i hi => ?_) ?_]
    · simp
    · unfold law32_FleetBits_l0
      rw [if_neg (by decide)]
    · unfold law32_FleetBits_l0
      have l8 := hs.len.2
      rw [if_pos (by simp; omega), copy32_sp (by simp only; omega), w64 (by omega) (by omega)]
      simp only [Option.bind_some, right_sp, rright_sp, served_sp]
      rw [if_neg (by simp)]
      by_cases hr : RightOk f ⟨s.Known, (i : Int), s.Units⟩
      · rw [if_neg (by simp [hr]), bits_in2 hr]; rfl
      · rw [if_pos (by simp [hr]), servedP_not hr]; rfl
  rw [hl]
  simp only [Option.bind_some, awake32]
/-! FleetServes -/
theorem startR_right {f : api_Fleet} (hf : FleetOk f) : RightOk f (startR f) := start_right hf
theorem start_served {f : api_Fleet} (hf : FleetOk f) : servedP f (startR f) = poolsP f := by
  rw [← rserved_eq]
  unfold rservedP
  rw [List.filter_eq_self]
  intro p hp
  obtain ⟨_, i, hi, e⟩ := mem_poolsP.1 hp
  rw [List.any_eq_true]
  refine ⟨(i : Int), mem_unitsP.2 ⟨hf, i, rfl, hi, e⟩, ?_⟩
  unfold servesI
  have e2 : (startR f).Units.getD (Int.toNat (i : Int)) default = ⟨true, 1, 1⟩ := by simp [startR, List.getD, hi]
  rw [e2, decide_eq_true (startR_right hf)]
  simp only [servesU, startR, bx_11]
  simp; omega
def endR (f : api_Fleet) : api_Rotation := ⟨3, 2, List.replicate f.Consumers.length ⟨true, 2, 2⟩⟩
theorem end_right {f : api_Fleet} (hf : FleetOk f) : RightOk f (endR f) := by
  refine ⟨hf, .inr rfl, bits3, by simp [endR], fun i h h' => ?_⟩
  simp only [endR, List.getElem_replicate]
  unfold unitP
  simp [bits3]
theorem end_served {f : api_Fleet} (hf : FleetOk f) : servedP f (endR f) = poolsP f := by
  rw [← rserved_eq]
  unfold rservedP
  rw [List.filter_eq_self]
  intro p hp
  obtain ⟨_, i, hi, e⟩ := mem_poolsP.1 hp
  rw [List.any_eq_true]
  refine ⟨(i : Int), mem_unitsP.2 ⟨hf, i, rfl, hi, e⟩, ?_⟩
  unfold servesI
  have e2 : (endR f).Units.getD (Int.toNat (i : Int)) default = ⟨true, 2, 2⟩ := by simp [endR, List.getD, hi]
  rw [e2, decide_eq_true (end_right hf)]
  simp only [servesU, endR, bx22]
  simp; omega
theorem end_ended {f : api_Fleet} (hf : FleetOk f) : endedP f (endR f) = true := by
  unfold endedP
  rw [decide_eq_true (end_right hf)]
  simp [endR, endedU]
theorem serves_end {f : api_Fleet} (hf : FleetOk f) (m : make_Tape) : iter (law32_FleetServes_l0 (f, m)) (0, []) = some (List.replicate f.Consumers.length ⟨true, 2, 2⟩) := by
  have h8 := hf.2.2.1
  rw [iter_foldl f.Consumers (fun (a : List api_Unit) _ => a ++ [⟨true, 2, 2⟩]) id (fun i a => a.length = i) (fun i hi s hs => ?_) (fun s hs => ?_) [] rfl]
  · congr 1
    have : ∀ (l : List api_Consumer) (a : List api_Unit), l.foldl (fun a _ => a ++ [⟨true, 2, 2⟩]) a = a ++ List.replicate l.length ⟨true, 2, 2⟩ := fun l => by
      induction l with
      | nil => intro a; simp
      | cons c l ih => intro a; simp only [List.foldl_cons, ih, List.length_cons, List.replicate_succ]; simp
    rw [id, this]; simp
  · unfold law32_FleetServes_l0
    rw [if_pos (by simp; omega), ck_t (by simp; omega), Option.bind_some, w64 (by omega) (by omega)]
    exact ⟨rfl, by simp [hs]⟩
  · unfold law32_FleetServes_l0
    rw [if_neg (by simp)]; rfl
theorem serves_any {f : api_Fleet} {m : make_Tape} {y7 : api_Rotation × make_Tape} {l : List Int} (hl : l.length ≤ 1000) : iter (law32_FleetServes_l2 l (f, m) y7) (false, 0) = some (l.any (servesI f y7.1)) := by
  have := iter_foldl2 (body := law32_FleetServes_l2 l (f, m) y7) l (fun i (a : Bool) => (a, (i : Int))) (fun (a : Bool) x => a || servesI f y7.1 x) id (fun _ _ => True) (fun i hi a _ => ?_) (fun a _ => ?_) false trivial
  · rw [show (false, (0 : Int)) = (false, ((0 : Nat) : Int)) from rfl, this]
    congr 1
    have : ∀ (l : List Int) (b : Bool), l.foldl (fun (a : Bool) x => a || servesI f y7.1 x) b = (b || l.any (servesI f y7.1)) := fun l => by
      induction l with
      | nil => intro b; simp
      | cons x l ih => intro b; simp only [List.foldl_cons, ih, List.any_cons, Bool.or_assoc]
    simp [this]
  · unfold law32_FleetServes_l2
    rw [if_pos (by simp; omega), idx_lt hi, w64 (by omega) (by omega)]
    simp only [Option.bind_some, fserves_sp]
    cases a <;> exact ⟨rfl, trivial⟩
  · unfold law32_FleetServes_l2
    rw [if_neg (by simp)]; rfl
theorem serves_loop {f : api_Fleet} {m : make_Tape} {y7 : api_Rotation × make_Tape} : iter (law32_FleetServes_l1 (poolsP f) (f, m) y7 (servedP f y7.1)) 0 = some (.inl ()) := by
  have h8 := poolsP_len f
  rw [iter_all (poolsP f).length (fun _ => true) (fun i hi => ?_) ?_]
  · simp
  · unfold law32_FleetServes_l1
    rw [if_neg (by simp)]
  · unfold law32_FleetServes_l1
    rw [if_pos (by simp; omega), idx_lt hi, w64 (by omega) (by omega)]
    simp only [Option.bind_some, funits_sp]
    rw [serves_any (by have := unitsP_len f (poolsP f)[i]; omega), has_sp (by have := servedP_len f y7.1; omega)]
    simp only [Option.bind_some]
    have : decide ((poolsP f)[i] ∈ servedP f y7.1) = (unitsP f (poolsP f)[i]).any (servesI f y7.1) := by
      rw [← rserved_eq]
      unfold rservedP
      rw [Bool.eq_iff_iff]
      simp only [decide_eq_true_eq, List.mem_filter]
      exact ⟨fun h => h.2, fun h => ⟨List.getElem_mem hi, h⟩⟩
    rw [this]
    simp
theorem FleetServes_law (a : List Int) : law32_FleetServes a = some true := by
  unfold law32_FleetServes
  by_cases h : 300 < (a.length : Int)
  · rw [if_pos (by simpa using h), awake32]; rfl
  rw [if_neg (by simpa using h)]
  obtain ⟨f, m1, e1, hf, _, _, t1⟩ := make_Fleet_ex (tape0 h) (most := 5) (by omega) (by omega)
  rw [e1]
  simp only [Option.bind_some]
  rw [fstart_sp, if_pos hf]
  have hp := poolsP_len f
  have hp0 : 0 < (poolsP f).length := by
    have h1 := hf.2.1
    have : f.Consumers[0].Pool ∈ poolsP f := mem_poolsP.2 ⟨hf, 0, by omega, rfl⟩
    exact List.length_pos_of_mem this
  simp only [Option.bind_some, served_sp, fpools_sp, start_served hf]
  rw [if_neg (by simp), ints_self (by omega)]
  simp only [Option.bind_some]
  rw [if_neg (by simp)]
  simp only [Option.bind_some]
  rw [if_neg (by simp; intro h; rw [h] at hp0; simp at hp0), serves_end hf]
  simp only [Option.bind_some]
  rw [show (⟨3, 2, List.replicate f.Consumers.length ⟨true, 2, 2⟩⟩ : api_Rotation) = endR f from rfl, fended_sp, end_ended hf]
  simp only [Option.bind_some, end_served hf]
  rw [if_neg (by simp), ints_self (by omega)]
  simp only [Option.bind_some]
  rw [if_neg (by simp)]
  obtain ⟨s, m2, e2, hs, t2⟩ := make_State_ex t1 hf
  rw [e2]
  simp only [Option.bind_some]
  rw [serves_loop (y7 := (s, m2))]
  simp only [Option.bind_some, awake32]
end Go.Vl
