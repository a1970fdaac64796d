/- Plain laws PlanPools, PlanHelps. Conditions: none. -/
import Derived.Test.YtjfpmakolbgnhaaUpM
set_option linter.unusedSimpArgs false
set_option linter.unusedVariables false
namespace Go.Vl
open Go

/-- the consumers of a pool, and its units -/
theorem pool_filter (f : api_Fleet) (p : Int) : f.Consumers.filter (fun c => c.Pool == p) = ((List.range f.Consumers.length).filter fun i => (f.Consumers.getD i default).Pool == p).map fun i => f.Consumers.getD i default := by
  have e : f.Consumers = (List.range f.Consumers.length).map fun i => f.Consumers.getD i default := by
    apply List.ext_getElem
    · simp
    · intro i h1 h2
      simp [List.getD, h1]
  conv => lhs; rw [e]
  rw [List.filter_map]
  rfl
theorem units_len {f : api_Fleet} (hf : FleetOk f) (p : Int) : (unitsP f p).length = (f.Consumers.filter fun c => c.Pool == p).length := by
  unfold unitsP
  rw [if_pos hf, pool_filter]
  simp
/-- fitting, said of the pool's consumers alone -/
def fitL (slots : Int) (cs : List api_Consumer) : Bool := if cs.length = 1 then ((cs.headD default).Live && ((cs.headD default).Dual || slots == 2)) else decide (1 < cs.length)
theorem fit_fitL {f : api_Fleet} (hf : FleetOk f) (p : Int) : fitP f p = fitL f.Slots (f.Consumers.filter fun c => c.Pool == p) := by
  unfold fitP fitL
  rw [units_len hf]
  by_cases h : (f.Consumers.filter fun c => c.Pool == p).length = 1
  · rw [if_pos h, if_pos h]
    have hc : consAt f ((unitsP f p).headD 0).toNat = (f.Consumers.filter fun c => c.Pool == p).headD default := by
      rw [pool_filter]
      unfold unitsP
      rw [if_pos hf]
      have hl : ((List.range f.Consumers.length).filter fun i => (f.Consumers.getD i default).Pool == p).length = 1 := by
        rw [pool_filter] at h; simpa using h
      obtain ⟨x, hx⟩ := List.length_eq_one_iff.1 hl
      rw [hx]
      simp [consAt]
    rw [hc]
  · rw [if_neg h, if_neg h]
/-- the first pool that does not fit -/
theorem why_first {f : api_Fleet} (h : (whyP f).2 = true) : (whyP f).1.Pool ∈ poolsP f ∧ fitP f (whyP f).1.Pool = false ∧ ∀ q, q ∈ poolsP f → q < (whyP f).1.Pool → fitP f q = true := by
  unfold whyP at h ⊢
  cases hf : (poolsP f).find? (fun p => !fitP f p) with
  | none => rw [hf] at h; cases h
  | some p =>
    simp only
    have h1 := List.find?_some hf
    refine ⟨List.mem_of_find?_eq_some hf, by simpa using h1, fun q hq hlt => ?_⟩
    obtain ⟨_, la, lb, e, hall⟩ := List.find?_eq_some_iff_append.1 hf
    have hs : (poolsP f).Pairwise (· < ·) := by unfold poolsP; exact range_sorted _ _
    rw [e] at hs hq
    rcases List.mem_append.1 hq with hm | hm
    · simpa using hall q hm
    · rcases List.mem_cons.1 hm with rfl | hm
      · omega
      · have := (List.pairwise_append.1 hs).2.1
        have := (List.pairwise_cons.1 this).1 q hm
        omega
/-! PlanHelps -/
theorem helps_more {f : api_Fleet} (hf : FleetOk f) (h7 : f.Consumers.length ≤ 7) {p : Int} (hp : p ∈ poolsP f) : fitP ⟨f.Slots, f.Consumers ++ [⟨p, false, false⟩]⟩ p = true := by
  obtain ⟨_, i, hi, e⟩ := mem_poolsP.1 hp
  have hpp := hf.2.2.2 i hi
  have hg : FleetOk ⟨f.Slots, f.Consumers ++ [⟨p, false, false⟩]⟩ := ⟨hf.1, by simp, by simp; omega, fun k hk => by
    simp only [List.getElem_append]
    split
    · exact hf.2.2.2 k ‹_›
    · simp only [List.getElem_singleton]
      unfold poolP at hpp ⊢
      rw [e] at hpp; exact hpp⟩
  rw [fit_fitL hg]
  have hm : f.Consumers[i] ∈ f.Consumers.filter (fun c => c.Pool == p) := List.mem_filter.2 ⟨List.getElem_mem hi, by simp [e]⟩
  have := List.length_pos_of_mem hm
  unfold fitL
  simp only [List.filter_append, List.length_append]
  have h1 : ([(⟨p, false, false⟩ : api_Consumer)].filter fun c => c.Pool == p).length = 1 := by simp
  rw [h1, if_neg (by omega)]
  exact decide_eq_true (by omega)
theorem helps_set {f : api_Fleet} (hf : FleetOk f) {i : Nat} (hi : i < f.Consumers.length) {c : api_Consumer} (hc : c.Pool = f.Consumers[i].Pool) (hl : f.Consumers[i].Live = true → c.Live = true) {p : Int} (h : fitP f p = true) : fitP ⟨2, f.Consumers.set i c⟩ p = true := by
  have hs : f.Consumers.map (·.Pool) = (f.Consumers.set i c).map (·.Pool) := by
    rw [List.map_set, hc]
    apply List.ext_getElem?
    intro j
    rw [List.getElem?_set]
    split
    · rename_i e; subst e; simp [hi]
    · rfl
  have hu := units_same (f := ⟨2, f.Consumers⟩) (g := ⟨2, f.Consumers.set i c⟩) rfl hs
  have hf2 : FleetOk ⟨2, f.Consumers⟩ := ⟨.inr rfl, hf.2⟩
  have hup : unitsP ⟨2, f.Consumers.set i c⟩ p = unitsP f p := by
    rw [← hu.2 p hf2]
    unfold unitsP
    rw [if_pos hf, if_pos hf2]
  unfold fitP at h ⊢
  rw [hup]
  by_cases h1 : (unitsP f p).length = 1
  · rw [if_pos h1] at h ⊢
    simp only [Bool.and_eq_true] at h ⊢
    generalize ((unitsP f p).headD 0).toNat = k at h ⊢
    have : (consAt ⟨2, f.Consumers.set i c⟩ k).Live = true := by
      have h0 := h.1
      unfold consAt at h0 ⊢
      by_cases e : k = i
      · rw [e] at h0 ⊢
        have e2 : (f.Consumers.set i c).getD i default = c := by simp [List.getD, hi]
        have e3 : f.Consumers.getD i default = f.Consumers[i] := by simp [List.getD, hi]
        simp only [e2]
        rw [e3] at h0
        exact hl h0
      · have e2 : (f.Consumers.set i c).getD k default = f.Consumers.getD k default := by simp [List.getD, List.getElem?_set, show ¬ i = k from fun q => e q.symm]
        simp only [e2]; exact h0
    exact ⟨this, by simp⟩
  · rw [if_neg h1] at h ⊢; exact h
theorem helps_loop {f : api_Fleet} {m : make_Tape} {cs : List api_Consumer} (h : ∀ p, fitP f p = true → fitP ⟨2, cs⟩ p = true) : iter (law35_PlanHelps_l1 (f, m) cs) 0 = some (.inl ()) := by
  rw [iter_all 2 (fun _ => true) (fun i hi => ?_) ?_]
  · simp
  · unfold law35_PlanHelps_l1
    rw [if_neg (by simp)]
  · unfold law35_PlanHelps_l1
    rw [if_pos (by simp; omega), w64 (by omega) (by omega)]
    simp only [Option.bind_some, fit_sp]
    cases hfi : fitP f (i : Int) with
    | true => rw [h _ hfi]; simp
    | false => simp
end Go.Vl
