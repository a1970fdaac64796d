/- Plain laws PlanPools, PlanHelps. Conditions: none. -/
import Derived.Test.YtclmnpkhopioiabSpI
set_option linter.unusedSimpArgs false
set_option linter.unusedVariables false
namespace Go.Vl
open Go

/-- the consumers of a pool, and its units -/
theorem pool_filter (f : api_Fleet) (p : Int) : f.Consumers.filter (fun c => c.Pool == p) = ((List.range f.Consumers.length).filter fun i => (f.Consumers.getD i default).Pool == p).map fun i => f.Consumers.getD i default := by
  have e : f.Consumers = (List.range f.Consumers.length).map fun i => f.Consumers.getD i default := by
    apply List.ext_getElem
    · simp
    · intro i h1 h2
      simp [List.getD, h1]
  conv => lhs; rw [e]
  rw [List.filter_map]
  rfl
theorem units_len {f : api_Fleet} (hf : FleetOk f) (p : Int) : (unitsP f p).length = (f.Consumers.filter fun c => c.Pool == p).length := by
  unfold unitsP
  rw [if_pos hf, pool_filter]
  simp
/-- fitting, said of the pool's consumers alone -/
def fitL (slots : Int) (cs : List api_Consumer) : Bool := if cs.length = 1 then ((cs.headD default).Live && ((cs.headD default).Dual || slots == 2)) else decide (1 < cs.length)
theorem fit_fitL {f : api_Fleet} (hf : FleetOk f) (p : Int) : fitP f p = fitL f.Slots (f.Consumers.filter fun c => c.Pool == p) := by
  unfold fitP fitL
  rw [units_len hf]
  by_cases h : (f.Consumers.filter fun c => c.Pool == p).length = 1
  · rw [if_pos h, if_pos h]
    have hc : consAt f ((unitsP f p).headD 0).toNat = (f.Consumers.filter fun c => c.Pool == p).headD default := by
      rw [pool_filter]
      unfold unitsP
      rw [if_pos hf]
      have hl : ((List.range f.Consumers.length).filter fun i => (f.Consumers.getD i default).Pool == p).length = 1 := by
        rw [pool_filter] at h; simpa using h
      obtain ⟨x, hx⟩ := List.length_eq_one_iff.1 hl
      rw [hx]
      simp [consAt]
    rw [hc]
  · rw [if_neg h, if_neg h]
theorem collect (f : api_Fleet) (m : make_Tape) (p : Int) (h8 : f.Consumers.length ≤ 8) : iter (law35_PlanPools_l1 (f, m) p) (0, []) = some (f.Consumers.filter fun c => c.Pool == p) := by
  have := iter_foldl (body := law35_PlanPools_l1 (f, m) p) f.Consumers (fun (a : List api_Consumer) c => if (c.Pool == p) = true then a ++ [id c] else a) id (fun i a => a.length ≤ i) (fun i hi a ha => ?_) (fun a ha => ?_) [] (by simp)
  · rw [this, fold_filter (fun c : api_Consumer => c.Pool == p) id]
    simp
  · unfold law35_PlanPools_l1
    simp only
    rw [if_pos (by simp; omega), idx_lt hi, w64 (by omega) (by omega)]
    simp only [Option.bind_some]
    by_cases hp : (f.Consumers[i].Pool == p) = true
    · rw [if_pos hp, if_pos hp, ck_t (by simp; omega)]; exact ⟨rfl, by simp; omega⟩
    · rw [if_neg hp, if_neg hp]; exact ⟨rfl, by omega⟩
  · unfold law35_PlanPools_l1
    rw [if_neg (by simp)]; rfl
/-- the first pool that does not fit -/
theorem why_first {f : api_Fleet} (h : (whyP f).2 = true) : (whyP f).1.Pool ∈ poolsP f ∧ fitP f (whyP f).1.Pool = false ∧ ∀ q, q ∈ poolsP f → q < (whyP f).1.Pool → fitP f q = true := by
  unfold whyP at h ⊢
  cases hf : (poolsP f).find? (fun p => !fitP f p) with
  | none => rw [hf] at h; cases h
  | some p =>
    simp only
    have h1 := List.find?_some hf
    refine ⟨List.mem_of_find?_eq_some hf, by simpa using h1, fun q hq hlt => ?_⟩
    obtain ⟨_, la, lb, e, hall⟩ := List.find?_eq_some_iff_append.1 hf
    have hs : (poolsP f).Pairwise (· < ·) := by unfold poolsP; exact range_sorted _ _
    rw [e] at hs hq
    rcases List.mem_append.1 hq with hm | hm
    · simpa using hall q hm
    · rcases List.mem_cons.1 hm with rfl | hm
      · omega
      · have := (List.pairwise_append.1 hs).2.1
        have := (List.pairwise_cons.1 this).1 q hm
        omega
theorem pools_loop {f : api_Fleet} (hf : FleetOk f) (m : make_Tape) : iter (law35_PlanPools_l0 (f, m) (whyP f)) 0 = some (.inl ()) := by
  have c8 := hf.2.2.1
  rw [iter_all 8 (fun _ => true) (fun i hi => ?_) ?_]
  · simp
  · unfold law35_PlanPools_l0
    rw [if_neg (by simp)]
  · unfold law35_PlanPools_l0
    rw [if_pos (by simp; omega), collect f m _ c8, w64 (by omega) (by omega)]
    simp only [Option.bind_some, fit_sp]
    generalize hcs : (f.Consumers.filter fun c => c.Pool == (i : Int)) = cs
    have hfl := fit_fitL hf (i : Int)
    rw [hcs] at hfl
    by_cases h0 : cs.length = 0
    · have : fitP f (i : Int) = false := by rw [hfl]; unfold fitL; rw [if_neg (by omega)]; simp; omega
      rw [if_pos (by simp [h0]), this]
      rfl
    · rw [if_neg (by simpa using h0), why_sp]
      have hmem : ∀ c ∈ cs, c ∈ f.Consumers ∧ c.Pool = (i : Int) := fun c hc => by
        rw [← hcs] at hc
        obtain ⟨h1, h2⟩ := List.mem_filter.1 hc
        exact ⟨h1, by simpa using h2⟩
      have hcl : cs.length ≤ 8 := by rw [← hcs]; exact Nat.le_trans (List.length_filter_le _ _) c8
      have hg : FleetOk ⟨f.Slots, cs⟩ := ⟨hf.1, by simp only; omega, hcl, fun k hk => by
        obtain ⟨h1, h2⟩ := hmem _ (List.getElem_mem hk)
        unfold poolP
        simp only
        rw [h2]; simp; omega⟩
      have hfg : fitP ⟨f.Slots, cs⟩ (i : Int) = fitP f (i : Int) := by
        rw [hfl, fit_fitL hg]
        congr 1
        rw [List.filter_eq_self]
        intro c hc
        simp [(hmem c hc).2]
      have hpg : ∀ p, p ∈ poolsP ⟨f.Slots, cs⟩ ↔ p = (i : Int) := fun p => by
        rw [mem_poolsP]
        constructor
        · rintro ⟨_, k, hk, e⟩
          rw [← e]; exact (hmem _ (List.getElem_mem hk)).2
        · rintro rfl
          exact ⟨hg, 0, by simp only; omega, (hmem _ (List.getElem_mem (by omega))).2⟩
      have hwg : (whyP ⟨f.Slots, cs⟩).2 = !fitP f (i : Int) := by
        cases hfi : fitP f (i : Int) with
        | true =>
          show _ = false
          rw [why_fit]
          intro p hp
          rw [(hpg p).1 hp, hfg, hfi]
        | false =>
          show _ = true
          cases hwv : (whyP ⟨f.Slots, cs⟩).2 with
          | true => rfl
          | false =>
            have := why_fit.1 hwv _ ((hpg (i : Int)).2 rfl)
            rw [hfg, hfi] at this; cases this
      have hip : (i : Int) ∈ poolsP f := by
        obtain ⟨h1, h2⟩ := hmem _ (List.getElem_mem (show 0 < cs.length by omega))
        obtain ⟨k, hk, e⟩ := List.getElem_of_mem h1
        exact mem_poolsP.2 ⟨hf, k, hk, by rw [e]; exact h2⟩
      simp only [Option.bind_some]
      rw [hwg, hfg]
      cases hy3 : (whyP f).2 with
      | false =>
        have hfi := why_fit.1 hy3 _ hip
        rw [hfi]
        simp
      | true =>
        obtain ⟨w1, w2, w3⟩ := why_first hy3
        cases hfi : fitP f (i : Int) with
        | true =>
          have hne : (i : Int) ≠ (whyP f).1.Pool := fun e => by rw [← e, hfi] at w2; cases w2
          simp [hne]
        | false =>
          have hnl : ¬ (i : Int) < (whyP f).1.Pool := fun e => by rw [w3 _ hip e] at hfi; cases hfi
          simp [hnl]
theorem PlanPools_law (a : List Int) : law35_PlanPools a = some true := by
  unfold law35_PlanPools
  by_cases h : 200 < (a.length : Int)
  · rw [if_pos (by simpa using h), awake35]; rfl
  rw [if_neg (by simpa using h)]
  obtain ⟨f, m1, e1, hf, _, _, t1⟩ := make_Fleet_ex (tape0 (a := a) (by omega)) (most := 6) (by omega) (by omega)
  rw [e1]
  simp only [Option.bind_some, why_sp]
  rw [pools_loop hf]
  simp only [Option.bind_some, awake35]

/-! PlanHelps -/
theorem helps_more {f : api_Fleet} (hf : FleetOk f) (h7 : f.Consumers.length ≤ 7) {p : Int} (hp : p ∈ poolsP f) : fitP ⟨f.Slots, f.Consumers ++ [⟨p, false, false⟩]⟩ p = true := by
  obtain ⟨_, i, hi, e⟩ := mem_poolsP.1 hp
  have hpp := hf.2.2.2 i hi
  have hg : FleetOk ⟨f.Slots, f.Consumers ++ [⟨p, false, false⟩]⟩ := ⟨hf.1, by simp, by simp; omega, fun k hk => by
    simp only [List.getElem_append]
    split
    · exact hf.2.2.2 k ‹_›
    · simp only [List.getElem_singleton]
      unfold poolP at hpp ⊢
      rw [e] at hpp; exact hpp⟩
  rw [fit_fitL hg]
  have hm : f.Consumers[i] ∈ f.Consumers.filter (fun c => c.Pool == p) := List.mem_filter.2 ⟨List.getElem_mem hi, by simp [e]⟩
  have := List.length_pos_of_mem hm
  unfold fitL
  simp only [List.filter_append, List.length_append]
  have h1 : ([(⟨p, false, false⟩ : api_Consumer)].filter fun c => c.Pool == p).length = 1 := by simp
  rw [h1, if_neg (by omega)]
  exact decide_eq_true (by omega)
theorem helps_set {f : api_Fleet} (hf : FleetOk f) {i : Nat} (hi : i < f.Consumers.length) {c : api_Consumer} (hc : c.Pool = f.Consumers[i].Pool) (hl : f.Consumers[i].Live = true → c.Live = true) {p : Int} (h : fitP f p = true) : fitP ⟨2, f.Consumers.set i c⟩ p = true := by
  have hs : f.Consumers.map (·.Pool) = (f.Consumers.set i c).map (·.Pool) := by
    rw [List.map_set, hc]
    apply List.ext_getElem?
    intro j
    rw [List.getElem?_set]
    split
    · rename_i e; subst e; simp [hi]
    · rfl
  have hu := units_same (f := ⟨2, f.Consumers⟩) (g := ⟨2, f.Consumers.set i c⟩) rfl hs
  have hf2 : FleetOk ⟨2, f.Consumers⟩ := ⟨.inr rfl, hf.2⟩
  have hup : unitsP ⟨2, f.Consumers.set i c⟩ p = unitsP f p := by
    rw [← hu.2 p hf2]
    unfold unitsP
    rw [if_pos hf, if_pos hf2]
  unfold fitP at h ⊢
  rw [hup]
  by_cases h1 : (unitsP f p).length = 1
  · rw [if_pos h1] at h ⊢
    simp only [Bool.and_eq_true] at h ⊢
    generalize ((unitsP f p).headD 0).toNat = k at h ⊢
    have : (consAt ⟨2, f.Consumers.set i c⟩ k).Live = true := by
      have h0 := h.1
      unfold consAt at h0 ⊢
      by_cases e : k = i
      · rw [e] at h0 ⊢
        have e2 : (f.Consumers.set i c).getD i default = c := by simp [List.getD, hi]
        have e3 : f.Consumers.getD i default = f.Consumers[i] := by simp [List.getD, hi]
        simp only [e2]
        rw [e3] at h0
        exact hl h0
      · have e2 : (f.Consumers.set i c).getD k default = f.Consumers.getD k default := by simp [List.getD, List.getElem?_set, show ¬ i = k from fun q => e q.symm]
        simp only [e2]; exact h0
    exact ⟨this, by simp⟩
  · rw [if_neg h1] at h ⊢; exact h
theorem helps_loop {f : api_Fleet} {m : make_Tape} {cs : List api_Consumer} (h : ∀ p, fitP f p = true → fitP ⟨2, cs⟩ p = true) : iter (law35_PlanHelps_l1 (f, m) cs) 0 = some (.inl ()) := by
  rw [iter_all 2 (fun _ => true) (fun i hi => ?_) ?_]
  · simp
  · unfold law35_PlanHelps_l1
    rw [if_neg (by simp)]
  · unfold law35_PlanHelps_l1
    rw [if_pos (by simp; omega), w64 (by omega) (by omega)]
    simp only [Option.bind_some, fit_sp]
    cases hfi : fitP f (i : Int) with
    | true => rw [h _ hfi]; simp
    | false => simp
theorem helps_j0 {f : api_Fleet} (hf : FleetOk f) {m : make_Tape} (ht : TOk m) : law35_PlanHelps_j0 (f, m) () = some true := by
  have h1 := hf.2.1
  have c8 := hf.2.2.1
  unfold law35_PlanHelps_j0
  rw [ck_t (by simp only; omega)]
  simp only [Option.bind_some]
  obtain ⟨v, m1, e1, v0, v1, t1⟩ := next_ex ht (n := (f.Consumers.length : Int)) (by omega)
  rw [e1]
  simp only [Option.bind_some]
  have hv : v.toNat < f.Consumers.length := by omega
  rw [ck_t ⟨v0, hv⟩, idx_toNat v0 hv]
  simp only [Option.bind_some]
  have hA : ∃ (m2 : make_Tape) (c : api_Consumer), TOk m2 ∧ c.Pool = f.Consumers[v.toNat].Pool ∧ (f.Consumers[v.toNat].Live = true → c.Live = true) ∧ (if f.Consumers[v.toNat].Live = true then
      some (m1.L, m1.at_, (f.Consumers.set (Int.toNat v) (⟨f.Consumers[v.toNat].Pool, f.Consumers[v.toNat].Dual, true⟩ : api_Consumer)))
    else
    (make_Tape_Next m1 2).bind fun y18 =>
    some (y18.2.L, y18.2.at_, (f.Consumers.set (Int.toNat v) (⟨f.Consumers[v.toNat].Pool, f.Consumers[v.toNat].Dual, (y18.1 == 1)⟩ : api_Consumer)))) = some (m2.L, m2.at_, f.Consumers.set v.toNat c) := by
    by_cases hl : f.Consumers[v.toNat].Live = true
    · rw [if_pos hl]; exact ⟨m1, _, t1, by rfl, fun _ => by rfl, rfl⟩
    · rw [if_neg hl]
      obtain ⟨w, m2, e2, _, _, t2⟩ := next_ex t1 (n := 2) (by omega)
      rw [e2]
      exact ⟨m2, _, t2, by rfl, fun h => absurd h hl, rfl⟩
  obtain ⟨m2, c, t2, c1, c2, hA⟩ := hA
  rw [hA]
  simp only [Option.bind_some]
  have hv2 : v.toNat < (f.Consumers.set v.toNat c).length := by simpa using hv
  rw [ck_t ⟨v0, hv2⟩, idx_toNat v0 hv2]
  simp only [Option.bind_some, List.getElem_set_self]
  have hB : ∃ (c' : api_Consumer), c'.Pool = f.Consumers[v.toNat].Pool ∧ (f.Consumers[v.toNat].Live = true → c'.Live = true) ∧ (if c.Dual = true then
      some ((f.Consumers.set v.toNat c).set (Int.toNat v) (⟨c.Pool, true, c.Live⟩ : api_Consumer))
    else
    (make_Tape_Next (⟨m2.L, m2.at_⟩ : make_Tape) 2).bind fun y16 =>
    some ((f.Consumers.set v.toNat c).set (Int.toNat v) (⟨c.Pool, (y16.1 == 1), c.Live⟩ : api_Consumer))) = some (f.Consumers.set v.toNat c') := by
    by_cases hd : c.Dual = true
    · rw [if_pos hd, List.set_set]; exact ⟨⟨c.Pool, true, c.Live⟩, c1, c2, rfl⟩
    · rw [if_neg hd]
      obtain ⟨w, m3, e3, _, _, t3⟩ := next_ex t2 (n := 2) (by omega)
      rw [show (⟨m2.L, m2.at_⟩ : make_Tape) = m2 from rfl, e3]
      simp only [Option.bind_some, List.set_set]
      exact ⟨⟨c.Pool, w == 1, c.Live⟩, c1, c2, rfl⟩
  obtain ⟨c', d1, d2, hB⟩ := hB
  rw [hB]
  simp only [Option.bind_some]
  rw [helps_loop (fun p hp => helps_set hf hv d1 d2 hp)]
  simp only [Option.bind_some, awake35]
theorem PlanHelps_law (a : List Int) : law35_PlanHelps a = some true := by
  unfold law35_PlanHelps
  by_cases h : 200 < (a.length : Int)
  · rw [if_pos (by simpa using h), awake35]; rfl
  rw [if_neg (by simpa using h)]
  obtain ⟨f, m1, e1, hf, hle, _, t1⟩ := make_Fleet_ex (tape0 (a := a) (by omega)) (most := 5) (by omega) (by omega)
  rw [e1]
  simp only [Option.bind_some, why_sp]
  by_cases hw : (whyP f).2 = true
  · obtain ⟨w1, w2, _⟩ := why_first hw
    rw [if_pos hw, ck_t (by omega), Option.bind_some, ck_t (by simp; omega), Option.bind_some]
    simp only [fit_sp, Option.bind_some, w2, helps_more hf (by omega) w1]
    rw [if_neg (by simp)]
    simp only [Option.bind_some]
    rw [if_neg (by simp)]
    exact helps_j0 hf t1
  · rw [if_neg hw]
    exact helps_j0 hf t1
end Go.Vl
