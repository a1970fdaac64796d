/- The laws SearchSteps and SearchEnds. Conditions: none. -/
import Derived.Test.YtjfpmakolbgnhaaUqA
set_option linter.unusedSimpArgs false
set_option linter.unusedVariables false
namespace Go.Vl
open Go

theorem reach_len {f : api_Fleet} {s : api_Rotation} {l : List api_Step} (h : safeRun f s l) : reach f s l.length (endS f s l) := ⟨l, h, rfl, rfl⟩
/-- behind a safe step the distance is one less at best -/
theorem found_step {f : api_Fleet} {s : api_Rotation} {x : api_Step} (hx : safeP f s x = true) {d e : Int} (hd : found f s d) (he : found f (applyP f s x).1 e) (h0 : 0 ≤ e) : 0 ≤ d ∧ d - 1 ≤ e := by
  rcases he with ⟨rfl, _⟩ | ⟨_, ⟨t, h1, h2⟩, _⟩
  · omega
  have h3 := reach_cons hx h1
  rcases hd with ⟨_, g⟩ | ⟨g0, _, g⟩
  · rw [g _ t h3] at h2; cases h2
  · have := g _ t h3 h2
    omega
theorem found_le {f : api_Fleet} {s : api_Rotation} (h3 : f.Consumers.length ≤ 3) (hr : RightOk f s) {d : Int} (h : found f s d) : d ≤ 65536 := by
  obtain ⟨E, e, _, h2, h4⟩ := end_ex h3 hr
  have hEl : E.length ≤ 65536 := by simpa using seen_len h2.seen h3
  rcases h4 with ⟨_, hf⟩ | ⟨i, x, _, hx, _, hf⟩
  · rw [found_far h hf]; decide
  · rw [found_far h hf]
    have := (h2.fb i x hx).2
    have := (List.getElem?_eq_some_iff.1 hx).1
    omega
theorem SearchSteps_law (a : List Int) : law34_SearchSteps a = some true := by
  unfold law34_SearchSteps
  by_cases h : 200 < (a.length : Int)
  · rw [if_pos (by simpa using h), awake34]; rfl
  rw [if_neg (by simpa using h)]
  obtain ⟨f, m1, e1, hf, hle, _, t1⟩ := make_FitFleet_ex (tape0 (a := a) (by omega)) (most := 2) (by omega) (by omega)
  rw [e1]
  simp only [Option.bind_some]
  obtain ⟨s, m2, e2, hr, _, t2⟩ := make_Held_ex t1 hf
  rw [e2]
  simp only [Option.bind_some]
  have h3 : f.Consumers.length ≤ 3 := by omega
  obtain ⟨d, d1, d2⟩ := dist_ex h3 hr
  obtain ⟨l, d', s1, s2, s3, s4⟩ := short_ex h3 hr
  have : d' = d := found_far s2 d2
  subst this
  rw [d1, s1]
  simp only [Option.bind_some]
  have hll : (l.length : Int) = if 0 > d' then 0 else d' := by
    by_cases hd : 0 ≤ d'
    · rw [if_neg (by omega)]; exact (s4 hd).1
    · rw [if_pos (by omega), s3 (by omega)]; rfl
  have hg : (((0 : Int) != 0) || (((0 : Int) != 0) || ((decide (0 ≤ d') != decide (0 ≤ d')) || ((l.length : Int) != (if 0 > d' then 0 else d'))))) = false := by rw [hll]; simp
  rw [hg, if_neg (by simp)]
  by_cases h0 : (if 0 > d' then 0 else d') = 0
  · rw [if_pos (by simpa using h0), rended_sp]
    simp only [Option.bind_some]
    have : decide (0 ≤ d') = endedP f s := by
      by_cases hd : 0 ≤ d'
      · rw [if_neg (by omega)] at h0
        have hl := (s4 hd)
        have : l = [] := List.eq_nil_of_length_eq_zero (by omega)
        rw [this] at hl
        rw [decide_eq_true hd]
        exact hl.2.2.symm
      · rw [decide_eq_false hd]
        rcases d2 with ⟨_, g⟩ | ⟨g, _⟩
        · exact (g 0 s ⟨[], trivial, rfl, rfl⟩).symm
        · omega
    rw [if_pos (by simpa using this), awake34]
    rfl
  rw [if_neg (by simpa using h0)]
  have hd : 0 ≤ d' := by
    apply Decidable.byContradiction
    intro hn
    rw [if_pos (by omega)] at h0
    exact h0 rfl
  rw [if_neg (show ¬ 0 > d' by omega)] at h0 hll ⊢
  obtain ⟨g1, g2, g3⟩ := s4 hd
  cases l with
  | nil => simp at g1; omega
  | cons x l =>
    rw [show idx (x :: l) 0 = some x from rfl]
    simp only [Option.bind_some, rapply_sp]
    have hx := g2.1
    have h0x := safe_possible hx
    have hr' := (apply_right hr h0x).1
    rw [if_neg (by rw [h0x]; simp), rsafe_sp, hx]
    simp only [Option.bind_some]
    rw [if_neg (by simp)]
    obtain ⟨e, f1, f2⟩ := dist_ex h3 hr'
    have he : e = d' - 1 := by
      have hreach : reach f (applyP f s x).1 l.length (endS f (applyP f s x).1 l) := reach_len g2.2
      have hend : endedP f (endS f (applyP f s x).1 l) = true := g3
      rw [List.length_cons] at g1
      have he0 : 0 ≤ e ∧ e ≤ l.length := by
        rcases f2 with ⟨_, g⟩ | ⟨q0, _, g⟩
        · rw [g _ _ hreach] at hend; cases hend
        · exact ⟨q0, g _ _ hreach hend⟩
      have := found_step hx d2 f2 he0.1
      omega
    rw [f1, he]
    simp only [Option.bind_some]
    have hgr := hr.1.2.2.1
    rw [List.length_cons] at g1
    have hdle := found_le h3 hr d2
    rw [w64 (by omega) (by omega), if_neg (show ¬ 0 > d' - 1 by omega), decide_eq_true (show 0 ≤ d' - 1 by omega)]
    rw [if_neg (by simp), rchoices_sp (by omega)]
    simp only [Option.bind_some]
    have hmem : x ∈ choicesC (safeP f s) f.Consumers.length := by
      obtain ⟨_, hk, _⟩ := apply_right hr h0x
      exact mem_choicesC.2 ⟨hk.1, hk.2.1, hk.2.2.1, hk.2.2.2.1, hx⟩
    generalize hC : choicesC (safeP f s) f.Consumers.length = C at *
    have hlen : 0 < C.length := List.length_pos_of_mem hmem
    obtain ⟨v, m3, e3, v0, v1, _⟩ := next_ex t2 (n := (C.length : Int)) (by omega)
    rw [e3]
    simp only [Option.bind_some]
    rw [idx_toNat v0 (by omega)]
    simp only [Option.bind_some, rapply_sp]
    have hy := (mem_choicesC.1 (by rw [hC]; exact List.getElem_mem (show v.toNat < C.length by omega))).2.2.2.2
    generalize C[v.toNat]'(by omega) = y at *
    have hry := (apply_right hr (safe_possible hy)).1
    obtain ⟨k, k1, k2⟩ := dist_ex h3 hry
    rw [k1]
    simp only [Option.bind_some]
    rw [if_pos (by rfl), awake34]
    by_cases hk : 0 ≤ k
    · have := found_step hy d2 k2 hk
      rw [decide_eq_true hk, if_neg (by simp), if_neg (show ¬ 0 > k by omega), if_pos (by simp; omega)]
      rfl
    · rw [decide_eq_false hk, if_pos (by rfl)]
      rfl

/-! The law of ends -/
def dn : api_Unit := ⟨false, 2, 0⟩
def stN (us : List api_Unit) : api_Rotation := ⟨3, 2, us⟩
theorem stN_right {f : api_Fleet} (hf : FleetOk f) {us : List api_Unit} (hl : us.length = f.Consumers.length) (hu : ∀ u ∈ us, u = uE ∨ u = dn) : RightOk f (stN us) := by
  refine ⟨hf, .inr rfl, bits3, hl, fun i h1 h2 => ?_⟩
  rw [unitP_iff]
  have := hu _ (List.getElem_mem h1)
  simp only [stN] at *
  rcases this with e | e <;> rw [e]
  · exact ⟨bits3, .inl ⟨rfl, bits3, fun _ => rfl⟩⟩
  · exact ⟨bits3, .inr ⟨rfl, rfl⟩⟩
theorem ends_l0 {y2 : api_Fleet × make_Tape} (h8 : y2.1.Consumers.length ≤ 8) : iter (law34_SearchEnds_l0 y2) (0, []) = some (List.replicate y2.1.Consumers.length uE) := by
  have key : ∀ (m i : Nat), i + m = y2.1.Consumers.length → iter (law34_SearchEnds_l0 y2) ((i : Int), List.replicate i uE) = some (List.replicate y2.1.Consumers.length uE) := fun m => by
    induction m with
    | zero =>
      intro i h
      have : i = y2.1.Consumers.length := by omega
      subst this
      refine iter_out ?_
      unfold law34_SearchEnds_l0
      rw [if_neg (by simp)]
    | succ m ih =>
      intro i h
      have hgo : law34_SearchEnds_l0 y2 ((i : Int), List.replicate i uE) = some (.go (((i + 1 : Nat) : Int), List.replicate (i + 1) uE)) := by
        unfold law34_SearchEnds_l0
        rw [if_pos (by simp; omega), ck_t (by simp; omega), w64 (by simp only; omega) (by simp only; omega)]
        simp only [Option.bind_some]
        rw [List.replicate_succ']
        rfl
      rw [iter_go hgo]
      exact ih (i + 1) (by omega)
  exact key y2.1.Consumers.length 0 (by omega)
theorem ends_l1 {y7 : api_Rotation} (h8 : y7.Units.length ≤ 8) : iter (law34_SearchEnds_l1 y7) (0, y7.Units) = some (List.replicate y7.Units.length dn) := by
  have key : ∀ (m i : Nat), i + m = y7.Units.length → iter (law34_SearchEnds_l1 y7) ((i : Int), List.replicate i dn ++ y7.Units.drop i) = some (List.replicate y7.Units.length dn) := fun m => by
    induction m with
    | zero =>
      intro i h
      have : i = y7.Units.length := by omega
      subst this
      refine iter_out ?_
      unfold law34_SearchEnds_l1
      rw [if_neg (by simp)]
      simp
    | succ m ih =>
      intro i h
      have hi : i < y7.Units.length := by omega
      have hlen : (List.replicate i dn ++ y7.Units.drop i).length = y7.Units.length := by simp; omega
      have hgo : law34_SearchEnds_l1 y7 ((i : Int), List.replicate i dn ++ y7.Units.drop i) = some (.go (((i + 1 : Nat) : Int), List.replicate (i + 1) dn ++ y7.Units.drop (i + 1))) := by
        unfold law34_SearchEnds_l1
        simp only
        rw [if_pos (by simp; omega), ck_t (by rw [Int.toNat_natCast, hlen]; omega), idx_lt (by rw [hlen]; exact hi), w64 (by omega) (by omega)]
        simp only [Option.bind_some, Int.toNat_natCast]
        rw [List.set_append_right _ _ (by simp), List.length_replicate, Nat.sub_self, List.drop_eq_getElem_cons hi, List.set_cons_zero, List.replicate_succ', List.append_assoc]
        rfl
      rw [iter_go hgo]
      exact ih (i + 1) (by omega)
  exact key y7.Units.length 0 (by omega)
def muN (s : api_Rotation) : Nat := s.Units.countP fun u => !endedU u
theorem countP_set_le {α : Type} (p : α → Bool) (u : α) : ∀ (l : List α) (i : Nat), l.countP p ≤ (l.set i u).countP p + 1
  | [], i => by simp
  | x :: l, 0 => by
    rw [List.set_cons_zero, List.countP_cons, List.countP_cons]
    split <;> split <;> omega
  | x :: l, i + 1 => by
    rw [List.set_cons_succ, List.countP_cons, List.countP_cons]
    have := countP_set_le p u l i
    omega
theorem muN_step {f : api_Fleet} (s : api_Rotation) (x : api_Step) (hr : RightOk f s) (hx : safeP f s x = true) : muN s ≤ muN (applyP f s x).1 + 1 := by
  obtain ⟨_, _, _, e⟩ := apply_right hr (safe_possible hx)
  rw [e]
  unfold nextS muN
  repeat' split
  all_goals first | exact Nat.le_succ _ | exact countP_set_le _ _ _ _
theorem muN_ended {f : api_Fleet} {s : api_Rotation} (h : endedP f s = true) : muN s = 0 := by
  unfold endedP at h
  simp only [Bool.and_eq_true, List.all_eq_true] at h
  unfold muN
  rw [List.countP_eq_zero]
  intro u hu
  rw [h.2.2 u hu]
  simp
/-- a unit that is down goes up -/
theorem up_safe {f : api_Fleet} (hf : FleetOk f) {us : List api_Unit} (hl : us.length = f.Consumers.length) (hu : ∀ u ∈ us, u = uE ∨ u = dn) {i : Nat} (hi : i < us.length) (hd : us[i] = dn) : safeP f (stN us) ⟨6, (i : Int)⟩ = true ∧ (applyP f (stN us) ⟨6, (i : Int)⟩).1 = stN (us.set i uE) := by
  have hr := stN_right hf hl hu
  have hu' : ∀ u ∈ us.set i uE, u = uE ∨ u = dn := fun u hm => by
    rcases List.mem_or_eq_of_mem_set hm with h | h
    · exact hu u h
    · exact .inl h
  have hr' := stN_right (us := us.set i uE) hf (by simpa using hl) hu'
  have hgu : (stN us).Units.getD (Int.toNat (i : Int)) default = dn := by
    show us.getD (Int.toNat (i : Int)) default = dn
    rw [Int.toNat_natCast]; simp [List.getD, hi, hd]
  have hk : kindOk f ⟨6, (i : Int)⟩ := ⟨by simp, by simp, by simp, by simp; omega, fun h => by simp [issuerB] at h⟩
  have ho : okStep f (stN us) ⟨6, (i : Int)⟩ = true := by
    unfold okStep
    simp only [hgu, us6]
    rfl
  have hn : nextS f (stN us) ⟨6, (i : Int)⟩ = stN (us.set i uE) := by
    unfold nextS
    simp only [hgu, us6]
    rw [if_neg (by decide), if_neg (by decide), if_neg (by decide), if_neg (by decide), Int.toNat_natCast]
    rfl
  have e := apply_eq hr hk ho
  rw [hn] at e
  refine ⟨?_, by rw [e]⟩
  unfold safeP
  rw [e]
  simp only [beq_self_eq_true, Bool.true_and, decide_eq_true_eq]
  intro p hp
  rw [(servedP_ok hr).2, mem_raw hl] at hp
  rw [(servedP_ok hr').2, mem_raw (by simpa [stN] using hl)]
  obtain ⟨j, h1, h2, h3⟩ := hp
  refine ⟨j, h1, h2, ?_⟩
  have : unitAt (stN (us.set i uE)) j = if j = i then uE else unitAt (stN us) j := unitAt_set (s := stN us) hi
  rw [this]
  split
  · exact (by decide : (bAnd .i64 2 2 != 0) = true)
  · exact h3
theorem ups {f : api_Fleet} (hf : FleetOk f) : ∀ (m : Nat) (us : List api_Unit), us.length = f.Consumers.length → (∀ u ∈ us, u = uE ∨ u = dn) → us.countP (fun u => !endedU u) = m → ∃ t, reach f (stN us) m t ∧ endedP f t = true := fun m => by
  induction m with
  | zero =>
    intro us hl hu hc
    refine ⟨stN us, ⟨[], trivial, rfl, rfl⟩, ?_⟩
    unfold endedP
    rw [decide_eq_true (stN_right hf hl hu)]
    rw [List.countP_eq_zero] at hc
    have : us.all endedU = true := List.all_eq_true.2 fun u hm => by have := hc u hm; simpa using this
    show (true && (true && us.all endedU)) = true
    rw [this]; rfl
  | succ m ih =>
    intro us hl hu hc
    have : 0 < us.countP (fun u => !endedU u) := by omega
    obtain ⟨u, hm, hne⟩ := List.countP_pos_iff.1 this
    obtain ⟨i, hi, rfl⟩ := List.getElem_of_mem hm
    have hd : us[i] = dn := by
      rcases hu _ hm with e | e
      · rw [e] at hne; simp [endedU, uE] at hne
      · exact e
    obtain ⟨a1, a2⟩ := up_safe hf hl hu hi hd
    have hc' : (us.set i uE).countP (fun u => !endedU u) = m := by
      have := List.countP_set (p := fun u => !endedU u) (l := us) (i := i) (a := uE) hi
      rw [hd] at this
      rw [this, hc]
      simp [endedU, uE, dn]
    obtain ⟨t, h1, h2⟩ := ih (us.set i uE) (by simpa using hl) (fun u hm => by
      rcases List.mem_or_eq_of_mem_set hm with h | h
      · exact hu u h
      · exact .inl h) hc'
    refine ⟨t, reach_cons a1 ?_, h2⟩
    rw [a2]; exact h1
theorem SearchEnds_law (a : List Int) : law34_SearchEnds a = some true := by
  unfold law34_SearchEnds
  by_cases h : 200 < (a.length : Int)
  · rw [if_pos (by simpa using h), awake34]; rfl
  rw [if_neg (by simpa using h), make_own_eq]
  obtain ⟨f, m1, e1, hf, hle, _, t1⟩ := make_Fleet_ex (tape0 (a := a) (by omega)) (most := 2) (by omega) (by omega)
  rw [e1]
  simp only [Option.bind_some]
  rw [ends_l0 (by simp only; omega)]
  simp only [Option.bind_some]
  have h3 : f.Consumers.length ≤ 3 := by omega
  have hrE : RightOk f (stN (List.replicate f.Consumers.length uE)) := stN_right hf (by simp) fun u hu => .inl (List.eq_of_mem_replicate hu)
  have hrD : RightOk f (stN (List.replicate f.Consumers.length dn)) := stN_right hf (by simp) fun u hu => .inr (List.eq_of_mem_replicate hu)
  have heE : endedP f (stN (List.replicate f.Consumers.length uE)) = true := by
    unfold endedP
    rw [decide_eq_true hrE]
    show (true && (true && (List.replicate f.Consumers.length uE).all endedU)) = true
    rw [List.all_eq_true.2 fun u hu => by rw [List.eq_of_mem_replicate hu]; rfl]; rfl
  have fE : found f (stN (List.replicate f.Consumers.length uE)) ((0 : Nat) : Int) := found_is ⟨[], trivial, rfl, rfl⟩ heE fun k u _ _ => Nat.zero_le _
  have fD : found f (stN (List.replicate f.Consumers.length dn)) ((f.Consumers.length : Nat) : Int) := by
    have hc : (List.replicate f.Consumers.length dn).countP (fun u => !endedU u) = f.Consumers.length := by simp [List.countP_replicate, endedU, dn]
    obtain ⟨t, h1, h2⟩ := ups hf f.Consumers.length (List.replicate f.Consumers.length dn) (by simp) (fun u hu => .inr (List.eq_of_mem_replicate hu)) hc
    refine found_is h1 h2 fun k u hk hu => ?_
    have := pot muN hrD muN_step k u hk
    rw [muN_ended hu] at this
    have h4 : muN (stN (List.replicate f.Consumers.length dn)) = f.Consumers.length := hc
    omega
  obtain ⟨d, d1, d2⟩ := dist_ex h3 hrE
  obtain ⟨l, d', s1, s2, _, s4⟩ := short_ex h3 hrE
  obtain rfl : d = ((0 : Nat) : Int) := found_far d2 fE
  obtain rfl : d' = ((0 : Nat) : Int) := found_far s2 fE
  have hl0 := (s4 (by simp)).1
  rw [show (⟨3, 2, List.replicate f.Consumers.length uE⟩ : api_Rotation) = stN (List.replicate f.Consumers.length uE) from rfl, d1, s1]
  simp only [Option.bind_some]
  rw [hl0, if_neg (by decide), rcopy_sp (by simp [stN]; omega)]
  simp only [Option.bind_some]
  rw [ends_l1 (by simp [stN]; omega)]
  simp only [Option.bind_some]
  obtain ⟨e, g1, g2⟩ := dist_ex h3 hrD
  obtain rfl : e = ((f.Consumers.length : Nat) : Int) := found_far g2 fD
  rw [if_neg (show ¬ 0 > ((f.Consumers.length : Nat) : Int) by omega)] at g1
  rw [show (⟨(stN (List.replicate f.Consumers.length uE)).Known, (stN (List.replicate f.Consumers.length uE)).Valid, List.replicate (stN (List.replicate f.Consumers.length uE)).Units.length dn⟩ : api_Rotation) = stN (List.replicate f.Consumers.length dn) by simp [stN], g1]
  simp only [Option.bind_some]
  rw [if_pos (by rfl), if_pos (by simp), if_pos (by simp), awake34]
  rfl
end Go.Vl
