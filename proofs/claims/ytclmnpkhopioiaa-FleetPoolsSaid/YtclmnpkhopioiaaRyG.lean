/- Plain law FleetPools: the pools' units share the consumers out, each to one pool. Conditions: none. -/
import Derived.Test.YtclmnpkhopioiaaRyF
set_option linter.unusedSimpArgs false
set_option linter.unusedVariables false
namespace Go.Vl
open Go

def poolAt (f : api_Fleet) (i : Nat) : Int := (f.Consumers.getD i default).Pool
/-- how often each place has been met -/
def cnt8 (P : Nat → Int) (l : List Int) : Prop := l.length = 8 ∧ ∀ i, i < 8 → l[i]? = some (P i)
theorem pools_in {f : api_Fleet} {m : make_Tape} (hf : FleetOk f) {p : Int} (P : Nat → Int) (hP : ∀ i, i < 8 → 0 ≤ P i ∧ P i ≤ 1000) {c : List Int} (hc : cnt8 P c) :
    ∃ c', iter (law32_FleetPools_l2 (unitsP f p) (f, m) p) (0, c) = some (.inl c') ∧ cnt8 (fun i => P i + if i < f.Consumers.length ∧ poolAt f i = p then 1 else 0) c' := by
  have h8 := hf.2.2.1
  have hul := unitsP_len f p
  have key : ∀ (mm i : Nat) (c : List Int), i + mm = (unitsP f p).length → cnt8 (fun j => P j + if (j : Int) ∈ (unitsP f p).take i then 1 else 0) c →
      ∃ c', iter (law32_FleetPools_l2 (unitsP f p) (f, m) p) ((i : Int), c) = some (.inl c') ∧ cnt8 (fun j => P j + if (j : Int) ∈ unitsP f p then 1 else 0) c' := fun mm => by
    induction mm with
    | zero =>
      intro i c h hc
      refine ⟨c, iter_out ?_, ?_⟩
      · unfold law32_FleetPools_l2
        rw [if_neg (by simp; omega)]
      · have : i = (unitsP f p).length := by omega
        rw [this, List.take_length] at hc
        exact hc
    | succ mm ih =>
      intro i c h hc
      have hi : i < (unitsP f p).length := by omega
      obtain ⟨_, k, hk1, hk2, hk3⟩ := mem_unitsP.1 (List.getElem_mem hi)
      have hk8 : k < 8 := by omega
      have hnm : ((k : Nat) : Int) ∉ (unitsP f p).take i := fun hm => by
        have hs : (unitsP f p).Pairwise (· < ·) := by
          unfold unitsP
          rw [if_pos hf]; exact range_sorted _ _
        obtain ⟨j, hj, e⟩ := List.getElem_of_mem hm
        simp only [List.length_take] at hj
        rw [List.getElem_take] at e
        have := sorted_split hs (i := j) (j := i) (by omega) hi
        omega
      have hck := hc.2 k hk8
      simp only [hnm, if_false, Int.add_zero] at hck
      have hkc : k < c.length := by rw [hc.1]; exact hk8
      have e4 : c[k] = P k := by rw [List.getElem?_eq_getElem hkc] at hck; exact Option.some.inj hck
      have hPk := hP k hk8
      have hstep : law32_FleetPools_l2 (unitsP f p) (f, m) p ((i : Int), c) = some (.go (((i + 1 : Nat) : Int), c.set k (P k + 1))) := by
        unfold law32_FleetPools_l2
        simp only
        rw [if_pos (by simp; omega), idx_lt hi, w64 (by omega) (by omega)]
        simp only [Option.bind_some]
        rw [hk1, if_neg (by simp), if_neg (by simp; omega), idx_lt hk2, idx_lt hkc, ck_t (by omega), ck_t (by simpa using hkc)]
        simp only [Option.bind_some]
        rw [if_neg (by simp [hk3]), e4, w64 (by omega) (by omega)]
        rfl
      rw [iter_go hstep]
      refine ih (i + 1) _ (by omega) ⟨by rw [List.length_set]; exact hc.1, fun j hj => ?_⟩
      rw [List.getElem?_set]
      have hmem : ((j : Nat) : Int) ∈ (unitsP f p).take (i + 1) ↔ ((j : Nat) : Int) ∈ (unitsP f p).take i ∨ j = k := by
        rw [List.take_succ_eq_append_getElem hi, List.mem_append, List.mem_singleton, hk1]
        constructor
        · rintro (h | h)
          · exact .inl h
          · exact .inr (by omega)
        · rintro (h | h)
          · exact .inl h
          · exact .inr (by omega)
      by_cases hjk : k = j
      · subst hjk
        rw [if_pos rfl, if_pos hkc]
        simp only [hmem, or_true, if_true]
      · rw [if_neg hjk]
        have := hc.2 j hj
        simp only at this ⊢
        rw [this]
        congr 2
        simp only [hmem, show ¬ j = k from fun h => hjk h.symm, or_false]
  obtain ⟨c', h1, h2⟩ := key (unitsP f p).length 0 c (by omega) (by simpa [cnt8] using hc)
  refine ⟨c', h1, h2.1, fun i hi => ?_⟩
  rw [h2.2 i hi]
  congr 2
  have : ((i : Int) ∈ unitsP f p) ↔ (i < f.Consumers.length ∧ poolAt f i = p) := by
    rw [mem_unitsP]
    constructor
    · rintro ⟨_, j, h1, h2, h3⟩
      have : i = j := by omega
      subst this
      exact ⟨h2, by simpa [poolAt, List.getD, h2] using h3⟩
    · rintro ⟨h1, h2⟩
      exact ⟨hf, i, rfl, h1, by simpa [poolAt, List.getD, h1] using h2⟩
  simp only [this]
theorem pools_out {f : api_Fleet} {m : make_Tape} (hf : FleetOk f) : ∃ c, iter (law32_FleetPools_l0 (poolsP f) (f, m)) (0, zerosI 8) = some (.inl c) ∧ cnt8 (fun i => if i < f.Consumers.length then 1 else 0) c := by
  have hpl := poolsP_len f
  have h8 := hf.2.2.1
  have key : ∀ (mm i : Nat) (c : List Int), i + mm = (poolsP f).length → cnt8 (fun j => if j < f.Consumers.length ∧ poolAt f j ∈ (poolsP f).take i then 1 else 0) c →
      ∃ c', iter (law32_FleetPools_l0 (poolsP f) (f, m)) ((i : Int), c) = some (.inl c') ∧ cnt8 (fun j => if j < f.Consumers.length ∧ poolAt f j ∈ poolsP f then 1 else 0) c' := fun mm => by
    induction mm with
    | zero =>
      intro i c h hc
      refine ⟨c, iter_out ?_, ?_⟩
      · unfold law32_FleetPools_l0
        rw [if_neg (by simp; omega)]
      · have : i = (poolsP f).length := by omega
        rw [this, List.take_length] at hc
        exact hc
    | succ mm ih =>
      intro i c h hc
      have hi : i < (poolsP f).length := by omega
      obtain ⟨c', h1, h2⟩ := pools_in (m := m) hf (p := (poolsP f)[i]) _ (fun j _ => by split <;> omega) hc
      have hstep : law32_FleetPools_l0 (poolsP f) (f, m) ((i : Int), c) = some (.go (((i + 1 : Nat) : Int), c')) := by
        unfold law32_FleetPools_l0
        simp only
        rw [if_pos (by simp; omega), idx_lt hi, w64 (by omega) (by omega)]
        simp only [Option.bind_some, funits_sp]
        rw [h1]; rfl
      rw [iter_go hstep]
      refine ih (i + 1) c' (by omega) ⟨h2.1, fun j hj => ?_⟩
      rw [h2.2 j hj]
      congr 1
      have hnm : (poolsP f)[i] ∉ (poolsP f).take i := fun hm => by
        have hs : (poolsP f).Pairwise (· < ·) := by unfold poolsP; exact range_sorted _ _
        obtain ⟨k, hk, e⟩ := List.getElem_of_mem hm
        simp only [List.length_take] at hk
        rw [List.getElem_take] at e
        have := sorted_split hs (i := k) (j := i) (by omega) hi
        omega
      simp only [List.take_succ_eq_append_getElem hi, List.mem_append, List.mem_singleton]
      by_cases hj2 : j < f.Consumers.length
      · by_cases h3 : poolAt f j = (poolsP f)[i]
        · have : poolAt f j ∉ (poolsP f).take i := by rw [h3]; exact hnm
          simp [hj2, this, h3, hnm]
        · simp [hj2, h3]
      · simp [hj2]
  obtain ⟨c', h1, h2⟩ := key (poolsP f).length 0 (zerosI 8) (by omega) ⟨by decide, fun j hj => by
    simp only [List.take_zero, List.not_mem_nil, and_false, if_false]
    have : j = 0 ∨ j = 1 ∨ j = 2 ∨ j = 3 ∨ j = 4 ∨ j = 5 ∨ j = 6 ∨ j = 7 := by omega
    rcases this with rfl | rfl | rfl | rfl | rfl | rfl | rfl | rfl <;> rfl⟩
  refine ⟨c', h1, h2.1, fun j hj => ?_⟩
  rw [h2.2 j hj]
  congr 1
  by_cases hj2 : j < f.Consumers.length
  · have : poolAt f j ∈ poolsP f := mem_poolsP.2 ⟨hf, j, hj2, by simp [poolAt, List.getD, hj2]⟩
    simp [hj2, this]
  · simp [hj2]
theorem FleetPools_law (a : List Int) : law32_FleetPools a = some true := by
  unfold law32_FleetPools
  by_cases h : 300 < (a.length : Int)
  · rw [if_pos (by simpa using h), awake32]; rfl
  rw [if_neg (by simpa using h)]
  obtain ⟨f, m1, e1, hf, _, _, t1⟩ := make_Fleet_ex (tape0 h) (most := 8) (by omega) (by omega)
  rw [e1]
  simp only [Option.bind_some, fpools_sp]
  obtain ⟨c, h1, h2⟩ := pools_out (m := m1) hf
  rw [h1]
  simp only [Option.bind_some]
  have h8 := hf.2.2.1
  have hl : iter (law32_FleetPools_l1 (f, m1) c) 0 = some (.inl ()) := by
    rw [iter_all f.Consumers.length (fun _ => true) (fun i hi => ?_) ?_]
    · simp
    · unfold law32_FleetPools_l1
      rw [if_neg (by simp)]
    · unfold law32_FleetPools_l1
      have hc : c[i]? = some (if i < f.Consumers.length then 1 else 0) := h2.2 i (by omega)
      have hil : i < c.length := by rw [h2.1]; omega
      rw [List.getElem?_eq_getElem hil, if_pos hi] at hc
      rw [if_pos (by simp; omega), ck_t (by omega), idx_lt hil, w64 (by omega) (by omega), Option.some.inj hc]
      rfl
  rw [hl]
  simp only [Option.bind_some, awake32]
end Go.Vl
