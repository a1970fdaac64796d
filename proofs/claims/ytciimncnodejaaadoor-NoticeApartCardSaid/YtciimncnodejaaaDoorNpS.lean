/- The plain law of NoticeSteps. Conditions: none. -/
import Derived.Test.YtciimncnodejaaaDoorNqP
set_option linter.unusedSimpArgs false
set_option linter.unusedVariables false
namespace Go.Vl
open Go

theorem awake_all : AllP ⟨1, 0, 1, 127, []⟩ ⟨[1], []⟩ [] [⟨5, 1, 0, 4, 0⟩] 50 = ([⟨5, 0, 0, 0⟩, ⟨6, 0, 0, 1⟩, ⟨7, 0, 0, 2⟩, ⟨8, 0, 0, 3⟩], 0) := by
  have h : catP (casP ⟨1, 0, 1, 127, []⟩ [] [⟨5, 1, 0, 4, 0⟩] 50) (opensP [⟨5, 1, 0, 4, 0⟩]) = ([⟨5, 0, 0, 0⟩, ⟨6, 0, 0, 1⟩, ⟨7, 0, 0, 2⟩, ⟨8, 0, 0, 3⟩], 0) := by kernel_rfl
  have h1 : OkC ⟨1, 0, 1, 127, []⟩ := by decide +kernel
  have h2 : dirOk ⟨[1], []⟩ = true := by decide +kernel
  have h3 : stewOk ⟨[1], []⟩ [] = true := by decide +kernel
  have h4 : casesOk ⟨[1], []⟩ [⟨5, 1, 0, 4, 0⟩] = true := by decide +kernel
  unfold AllP
  rw [if_neg (by simpa using h1), h2, h3, h4, if_neg (by decide), if_neg (by decide), if_neg (by decide), if_neg (by decide)]
  unfold allP
  rw [h, if_neg (by decide)]
  congr 1
  refine sortN_eq (List.Perm.refl _) ?_ ?_
  · simp [ltN]
  · intro a ha b hb _ h
    simp only [List.mem_cons, List.not_mem_nil, or_false] at ha hb
    rcases ha with rfl | rfl | rfl | rfl <;> rcases hb with rfl | rfl | rfl | rfl <;> simp at h ⊢
theorem awake41 : law41_awake = some true := by
  unfold law41_awake
  rw [All_sp, awake_all]
  simp only [Option.bind_some]
  rw [if_neg (by decide)]
  have : iter (law41_awake_l0 ([⟨5, 0, 0, 0⟩, ⟨6, 0, 0, 1⟩, ⟨7, 0, 0, 2⟩, ⟨8, 0, 0, 3⟩], 0)) 0 = some (.inl ()) := by
    rw [iter_go (s' := 1) (by rfl), iter_go (s' := 2) (by rfl), iter_go (s' := 3) (by rfl), iter_go (s' := 4) (by rfl)]
    exact iter_out (by rfl)
  rw [this]; rfl
theorem steps_l2 {c : api_Calendar} {d : api_Directory} {s : List api_Steward} {l : List api_Case} (M : Made c d s l) {x : api_Case} (hx : x ∈ l) (h1 : x.Kind = 1) {all : List api_Notice} {e : Int} (ha : all.length ≤ 1000000) {m1 m2 m3 : make_Tape} :
    ∀ (n i : Nat) (t step : Int), i + n = all.length → 0 ≤ t → 0 ≤ step → t ≤ 18 + 12000 * step → step + ((all.drop i).filter (fun y => y.Case == x.Case)).length ≤ 4 → UpL c s x step t ((all.drop i).filter (fun y => y.Case == x.Case)) →
      iter (law41_NoticeSteps_l2 (all, e) x (d, m1) (s, m2) (c, m3)) (t, step, (i : Int)) = some (.inl (step + ((all.drop i).filter (fun y => y.Case == x.Case)).length)) := fun n => by
  induction n with
  | zero =>
    intro i t step h _ _ _ _ _
    have : i = all.length := by omega
    subst this
    refine iter_out ?_
    unfold law41_NoticeSteps_l2
    simp only
    rw [if_neg (by simp), List.drop_length]
    simp
  | succ n ih =>
    intro i t step h g1 g2 g3 g4 g5
    have hi : i < all.length := by omega
    rw [List.drop_eq_getElem_cons hi, List.filter_cons] at g4 g5 ⊢
    by_cases hk : all[i].Case = x.Case
    · rw [if_pos (by simpa using hk)] at g4 g5 ⊢
      obtain ⟨⟨u1, u2, u3, u4, u5⟩, u6⟩ := g5
      have hl := M.level x hx h1
      have hp := dl_pos.2 (show 1 ≤ x.Level ∧ x.Level ≤ 4 by omega)
      have hb := dl_bd x.Level
      simp only [List.length_cons] at g4
      have hs4 : step ≤ 3 := by omega
      obtain ⟨a1, a2, a3⟩ := due_ok M.cal g1 (by omega) (show 1 ≤ dlP x.Level by omega) (by omega)
      obtain ⟨_, w1, w2, _⟩ := way_sp M.dir.ok M.stew (M.owner hx h1) t
      have e : law41_NoticeSteps_l2 (all, e) x (d, m1) (s, m2) (c, m3) (t, step, (i : Int)) = some (.go ((addS c t (dlP x.Level)).1, step + 1, ((i + 1 : Nat) : Int))) := by
        unfold law41_NoticeSteps_l2
        simp only
        rw [if_pos (by simp <;> omega), idx_lt hi, w64 (x := step + 1) (by omega) (by omega), w64 (x := (i : Int) + 1) (by omega) (by omega)]
        simp only [Option.bind_some]
        rw [if_neg (by simpa using hk), if_neg (by simpa using u1), if_neg (by simpa using u2), if_neg (by simp; omega), w1]
        simp only [Option.bind_some]
        rw [has_sp (by omega), List.contains_iff_mem.2 u4]
        simp only [Option.bind_some]
        rw [if_neg (by decide)]
        have hq : (if (step == 0) = true then some (all[i].To != x.Owner) else some false) = some false := by
          by_cases h0 : step = 0
          · rw [if_pos (by simpa using h0), u5 h0]; simp
          · rw [if_neg (by simpa using h0)]
        rw [hq]
        simp only [Option.bind_some, Bool.false_eq_true, if_false, dl_sp, refadd_sp]
        rw [if_neg (by simp [a1]; omega)]
        rfl
      rw [iter_go e, ih (i + 1) _ _ (by omega) (by omega) (by omega) (by omega) (by omega) u6]
      simp only [List.length_cons]
      congr 2
      omega
    · rw [if_neg (by simpa using hk)] at g4 g5 ⊢
      have e : law41_NoticeSteps_l2 (all, e) x (d, m1) (s, m2) (c, m3) (t, step, (i : Int)) = some (.go (t, step, ((i + 1 : Nat) : Int))) := by
        unfold law41_NoticeSteps_l2
        simp only
        rw [if_pos (by simp <;> omega), idx_lt hi, w64 (x := (i : Int) + 1) (by omega) (by omega)]
        simp only [Option.bind_some]
        rw [if_pos (by simpa using hk)]
        rfl
      rw [iter_go e, ih (i + 1) _ _ (by omega) g1 g2 g3 g4 g5]
theorem catM_len {c : api_Calendar} {d : api_Directory} {s : List api_Steward} {l : List api_Case} (M : Made c d s l) (until_ : Int) : (catM c s l until_).length ≤ 400 := by
  rw [← (M.cat until_).2.1]
  have h6 := catP_len (f := casP c s l until_) (m := 4) (casP_len c s l until_) (opensP l)
  have h7 : (opensP l).length ≤ l.length := by
    unfold opensP
    exact Nat.le_trans (List.length_filter_le _ _) (by simp)
  have := M.cb.1
  omega
theorem made_all {m : make_Tape} (h : TapeOk m) : ∃ (c : api_Calendar) (d : api_Directory) (s : List api_Steward) (l : List api_Case) (m1 m2 m3 m4 : make_Tape), make_Calendar m = some (c, m1) ∧ make_Directory m1 = some (d, m2) ∧ make_Stewards m2 d = some (s, m3) ∧ make_Cases m3 d = some (l, m4) ∧ TapeOk m4 ∧ Made c d s l ∧ l.length ≤ 7 ∧ ∀ x ∈ l, x.Case < 3 := by
  obtain ⟨c, m1, e1, t1, hc⟩ := calendar_spT h
  obtain ⟨d, m2, e2, t2, hd⟩ := directory_spT t1
  obtain ⟨s, m3, e3, t3, hs, _⟩ := stewards_spT t2 hd
  obtain ⟨l, m4, e4, t4, hl, h5, h6, h7, h8⟩ := cases_spT t3 hd
  exact ⟨c, d, s, l, m1, m2, m3, m4, e1, e2, e3, e4, t4, ⟨hc, hd, hs, h5, h6, h7, fun x hx => by have := h8 x hx; omega⟩, hl, fun x hx => (h8 x hx).2⟩
theorem noticeSteps_plain (l : List Int) : law41_NoticeSteps l = some true := by
  unfold law41_NoticeSteps
  by_cases hl : l.length ≤ 400
  case neg => rw [if_pos (by simp; omega), awake41]; rfl
  rw [if_neg (by simp; omega)]
  obtain ⟨c, d, s, cs, m1, m2, m3, m4, e1, e2, e3, e4, t4, M, h7, _⟩ := made_all (m := ⟨l, 0⟩) ⟨Int.le_refl _, by simp only; omega⟩
  rw [e1]; simp only [Option.bind_some]
  rw [e2]; simp only [Option.bind_some]
  rw [e3]; simp only [Option.bind_some]
  rw [e4]; simp only [Option.bind_some]
  rw [M.all ⟨by decide, by decide⟩]
  simp only [Option.bind_some]
  rw [if_neg (by decide)]
  have hal : (sortN (catM c s cs 500)).length ≤ 400 := by rw [sortN_len]; exact catM_len M 500
  have L0 : iter (law41_NoticeSteps_l0 (cs, m4) (sortN (catM c s cs 500), 0) (d, m2) (s, m3) (c, m1)) 0 = some (.inl ()) := by
    refine (iter_allE cs.length (fun _ => true) false (fun i hi => ?_) ?_).trans (congrArg some (if_pos fun _ _ => rfl))
    · rw [if_pos rfl]
      unfold law41_NoticeSteps_l0
      rw [if_pos (by simp <;> omega), idx_lt hi, w64 (by omega) (by omega)]
      simp only [Option.bind_some]
      by_cases hk : cs[i].Kind = 1
      · rw [if_neg (by simpa using hk)]
        obtain ⟨_, o2, _, _, _, o6⟩ := M.one hi hk 500
        have ow := M.own 500 hi hk
        have hln := oneP_len c s (cs.drop (i + 1)) cs[i] 500
        have ht := M.time _ (List.getElem_mem hi)
        have := steps_l2 M (List.getElem_mem hi) hk (all := sortN (catM c s cs 500)) (e := 0) (by omega) (m1 := m2) (m2 := m3) (m3 := m1) _ 0 cs[i].Time 0 (Nat.zero_add _) ht.1 (Int.le_refl _) (by omega) (by rw [List.drop_zero, ow]; omega) (by rw [List.drop_zero, ow]; exact o2)
        rw [List.drop_zero, ow] at this
        rw [show (cs[i].Time, (0 : Int), (0 : Int)) = (cs[i].Time, (0 : Int), ((0 : Nat) : Int)) from rfl, this]
        simp only [Option.bind_some]
        have hne : (oneP c s (cs.drop (i + 1)) cs[i] 500).1.length ≠ 0 := fun h => o6 (by omega) (List.eq_nil_of_length_eq_zero h)
        rw [if_neg (by simp only [beq_iff_eq]; omega)]
        rfl
      · rw [if_pos (by simpa using hk)]; rfl
    · unfold law41_NoticeSteps_l0
      rw [if_neg (by simp)]
  rw [L0]
  simp only [Option.bind_some]
  have L1 : iter (law41_NoticeSteps_l1 (sortN (catM c s cs 500), 0)) 1 = some (.inl ()) := by
    have hw := sortN_pw (catM c s cs 500)
    generalize sortN (catM c s cs 500) = al at *
    rw [iter_eq (body := law41_NoticeSteps_l1 (al, 0)) (fun s => 1 ≤ s) (fun s => (al.length + 1 - s).toNat) (fun _ => .inl ()) (fun i hi => ?_) (by decide : (1 : Int) ≤ 1)]
    unfold law41_NoticeSteps_l1
    by_cases h1 : i < (al.length : Int)
    · left
      obtain ⟨j, rfl⟩ : ∃ j : Nat, i = ((j + 1 : Nat) : Int) := ⟨(i - 1).toNat, by omega⟩
      rw [if_pos (by simpa using h1), w64 (x := ((j + 1 : Nat) : Int) - 1) (by omega) (by omega), w64 (x := ((j + 1 : Nat) : Int) + 1) (by omega) (by omega), show ((j + 1 : Nat) : Int) - 1 = (j : Int) by omega, idx_lt (show j + 1 < al.length by omega), idx_lt (show j < al.length by omega)]
      simp only [Option.bind_some]
      have := List.pairwise_iff_getElem.1 hw j (j + 1) (by omega) (by omega) (by omega)
      rw [if_neg (by simp only [decide_eq_true_eq]; intro h; exact this (.inl h))]
      exact ⟨_, rfl, by omega, by omega, by trivial⟩
    · right
      rw [if_neg (by simpa using h1)]
  rw [L1]
  simp only [Option.bind_some, awake41]
end Go.Vl
