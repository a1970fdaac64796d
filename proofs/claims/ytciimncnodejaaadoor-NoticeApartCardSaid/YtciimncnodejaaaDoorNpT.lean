/- The plain laws of NoticeQuiet and NoticeUntil. Conditions: none. -/
import Derived.Test.YtciimncnodejaaaDoorNpS
set_option linter.unusedSimpArgs false
set_option linter.unusedVariables false
namespace Go.Vl
open Go

def firstP (n : Int) (l : List api_Case) : Int := l.foldl (fun v y => if (y.Case == n && decide (v < 0)) = true then y.Time else v) (-1)
theorem firstP_fold (n : Int) : ∀ (l : List api_Case) (v : Int), (∀ x ∈ l, 0 ≤ x.Time) → (0 ≤ v → l.foldl (fun v y => if (y.Case == n && decide (v < 0)) = true then y.Time else v) v = v) ∧
    (v < 0 → (l.all (fun y => !(y.Case == n)) = true ∧ l.foldl (fun v y => if (y.Case == n && decide (v < 0)) = true then y.Time else v) v = v) ∨ (0 ≤ l.foldl (fun v y => if (y.Case == n && decide (v < 0)) = true then y.Time else v) v ∧ ∃ z ∈ l, z.Case = n ∧ z.Time = l.foldl (fun v y => if (y.Case == n && decide (v < 0)) = true then y.Time else v) v))
  | [], v, _ => ⟨fun _ => rfl, fun _ => .inl ⟨rfl, rfl⟩⟩
  | y :: l, v, h => by
    have h2 : ∀ x ∈ l, 0 ≤ x.Time := fun x hx => h x (List.mem_cons_of_mem _ hx)
    have hy := h y (List.mem_cons_self ..)
    rw [List.foldl_cons]
    constructor
    · intro hv
      rw [if_neg (by simp; omega)]
      exact (firstP_fold n l v h2).1 hv
    · intro hv
      by_cases hc : y.Case = n
      · rw [if_pos (by simp [hc]; omega)]
        have := (firstP_fold n l y.Time h2).1 hy
        rw [this]
        exact .inr ⟨hy, y, List.mem_cons_self .., hc, rfl⟩
      · rw [if_neg (by simp [hc])]
        rcases (firstP_fold n l v h2).2 hv with ⟨g1, g2⟩ | ⟨g1, z, g2, g3⟩
        · exact .inl ⟨by simp [hc]; simpa using g1, g2⟩
        · exact .inr ⟨g1, z, List.mem_cons_of_mem _ g2, g3⟩
theorem quiet_l1 {cs : List api_Case} (hl : cs.length ≤ 1000) {m : make_Tape} (i : Nat) (hi : i < 1000000) (x : api_Case) : iter (law41_NoticeQuiet_l1 (cs, m) (i : Int) x) ((-1), 0) = some (firstP x.Case (cs.drop (i + 1))) := by
  have hw : i < 1000000 → Int.toNat (IntKind.i64.wrap ((i : Int) + 1)) = i + 1 := fun h => by rw [w64 (by omega) (by omega)]; omega
  have := (iter_foldlS (body := law41_NoticeQuiet_l1 (cs, m) (i : Int) x) (cs.drop (i + 1)) (fun j v => (v, (j : Int))) (fun v y => if (y.Case == x.Case && decide (v < 0)) = true then y.Time else v) (fun v => v) (fun _ _ => True) (fun j hj v _ => by
    unfold law41_NoticeQuiet_l1
    simp only
    rw [hw hi]
    have hj2 : (cs.drop (i + 1)).length ≤ 1000 := by simp; omega
    rw [if_pos (by simp only [decide_eq_true_eq]; omega), idx_lt hj, w64 (by omega) (by omega)]
    simp only [Option.bind_some]
    refine ⟨?_, trivial⟩
    split <;> rfl) (fun v _ => by
    unfold law41_NoticeQuiet_l1
    simp only
    rw [hw hi, if_neg (by simp)]) (-1) trivial).1
  exact this
theorem quiet_l2 {all : List api_Notice} {e : Int} (ha : all.length ≤ 1000000) (x : api_Case) (v : Int) (hq : ∀ y ∈ all, y.Case = x.Case → ¬ (0 ≤ v ∧ 0 < y.Step ∧ v ≤ y.Time)) :
    ∀ (n i : Nat) (k : Int), i + n = all.length → 0 ≤ k → k ≤ i → iter (law41_NoticeQuiet_l2 (all, e) x v) (k, (i : Int)) = some (.inl (k + ((all.drop i).filter (fun y => y.Case == x.Case)).length)) := fun n => by
  induction n with
  | zero =>
    intro i k h _ _
    have : i = all.length := by omega
    subst this
    refine iter_out ?_
    unfold law41_NoticeQuiet_l2
    simp only
    rw [if_neg (by simp), List.drop_length]
    simp
  | succ n ih =>
    intro i k h h1 h2
    have hi : i < all.length := by omega
    rw [List.drop_eq_getElem_cons hi, List.filter_cons]
    by_cases hk : all[i].Case = x.Case
    · rw [if_pos (by simpa using hk)]
      have hy := hq _ (List.getElem_mem hi) hk
      have e : law41_NoticeQuiet_l2 (all, e) x v (k, (i : Int)) = some (.go (k + 1, ((i + 1 : Nat) : Int))) := by
        unfold law41_NoticeQuiet_l2
        simp only
        rw [if_pos (by simp <;> omega), idx_lt hi, w64 (x := k + 1) (by omega) (by omega), w64 (x := (i : Int) + 1) (by omega) (by omega)]
        simp only [Option.bind_some]
        rw [if_neg (by simpa using hk), if_neg (by simpa using hy)]
        rfl
      rw [iter_go e, ih (i + 1) (k + 1) (by omega) (by omega) (by omega)]
      simp only [List.length_cons]
      congr 2; omega
    · rw [if_neg (by simpa using hk)]
      have e : law41_NoticeQuiet_l2 (all, e) x v (k, (i : Int)) = some (.go (k, ((i + 1 : Nat) : Int))) := by
        unfold law41_NoticeQuiet_l2
        simp only
        rw [if_pos (by simp <;> omega), idx_lt hi, w64 (x := (i : Int) + 1) (by omega) (by omega)]
        simp only [Option.bind_some]
        rw [if_pos (by simpa using hk)]
        rfl
      rw [iter_go e, ih (i + 1) k (by omega) h1 (by omega)]
theorem noticeQuiet_plain (l : List Int) : law41_NoticeQuiet l = some true := by
  unfold law41_NoticeQuiet
  by_cases hl : l.length ≤ 400
  case neg => rw [if_pos (by simp; omega), awake41]; rfl
  rw [if_neg (by simp; omega)]
  obtain ⟨c, d, s, cs, m1, m2, m3, m4, e1, e2, e3, e4, t4, M, h7, _⟩ := made_all (m := ⟨l, 0⟩) ⟨Int.le_refl _, by simp only; omega⟩
  rw [e1]; simp only [Option.bind_some]
  rw [e2]; simp only [Option.bind_some]
  rw [e3]; simp only [Option.bind_some]
  rw [e4]; simp only [Option.bind_some]
  rw [M.all ⟨by decide, by decide⟩]
  simp only [Option.bind_some]
  rw [if_neg (by decide)]
  have hal : (sortN (catM c s cs 20000)).length ≤ 400 := by rw [sortN_len]; exact catM_len M 20000
  have L0 : iter (law41_NoticeQuiet_l0 (cs, m4) (sortN (catM c s cs 20000), 0)) 0 = some (.inl ()) := by
    refine (iter_allE cs.length (fun _ => true) false (fun i hi => ?_) ?_).trans (congrArg some (if_pos fun _ _ => rfl))
    · rw [if_pos rfl]
      unfold law41_NoticeQuiet_l0
      rw [if_pos (by simp <;> omega), idx_lt hi, w64 (by omega) (by omega)]
      simp only [Option.bind_some]
      by_cases hk : cs[i].Kind = 1
      · rw [if_neg (by simpa using hk), ck_t (by constructor <;> omega)]
        simp only [Option.bind_some]
        rw [quiet_l1 (by omega) i (by omega)]
        simp only [Option.bind_some]
        obtain ⟨_, _, o3, _, o5, o6⟩ := M.one hi hk 20000
        have ow := M.own 20000 hi hk
        have hln := oneP_len c s (cs.drop (i + 1)) cs[i] 20000
        have hne : (oneP c s (cs.drop (i + 1)) cs[i] 20000).1.length ≠ 0 := fun h => o6 (by omega) (List.eq_nil_of_length_eq_zero h)
        have hf := (firstP_fold cs[i].Case (cs.drop (i + 1)) (-1) (fun x hx => (M.time x (List.mem_of_mem_drop hx)).1)).2 (by decide)
        rw [show (cs.drop (i + 1)).foldl (fun v y => if (y.Case == cs[i].Case && decide (v < 0)) = true then y.Time else v) (-1) = firstP cs[i].Case (cs.drop (i + 1)) from rfl] at hf
        generalize firstP cs[i].Case (cs.drop (i + 1)) = v at *
        have := quiet_l2 (all := sortN (catM c s cs 20000)) (e := 0) (by omega) cs[i] v (fun y hy hc => by
          rintro ⟨q1, q2, q3⟩
          have hm : y ∈ (oneP c s (cs.drop (i + 1)) cs[i] 20000).1 := by
            rw [← ow, List.mem_filter]
            exact ⟨hy, by simpa using hc⟩
          have ha := (o3 y hm).2.2 q2
          rcases hf with ⟨_, hf⟩ | ⟨_, z, hz, hz1, hz2⟩
          · omega
          · unfold ansP at ha
            have := List.any_eq_false.1 ha z hz
            simp [hz1] at this
            omega) _ 0 0 (Nat.zero_add _) (Int.le_refl _) (Int.le_refl _)
        rw [List.drop_zero, ow] at this
        rw [show ((0 : Int), (0 : Int)) = ((0 : Int), ((0 : Nat) : Int)) from rfl, this]
        simp only [Option.bind_some]
        have h4 : v < 0 → (oneP c s (cs.drop (i + 1)) cs[i] 20000).1.length = 4 := fun hv => by
          rcases hf with ⟨hf, _⟩ | ⟨hf, _⟩
          · exact o5 hf (Int.le_refl _)
          · omega
        generalize (oneP c s (cs.drop (i + 1)) cs[i] 20000).1.length = k at *
        rw [if_neg]
        · rfl
        · cases hv : decide (v < 0) with
          | true =>
            have := h4 (of_decide_eq_true hv)
            subst this; decide
          | false =>
            simp only [cond_false, Bool.or_eq_true, decide_eq_true_eq]; omega
      · rw [if_pos (by simpa using hk)]; rfl
    · unfold law41_NoticeQuiet_l0
      rw [if_neg (by simp)]
  rw [L0]
  simp only [Option.bind_some, awake41]

/-! NoticeUntil -/
theorem upP_cut {c : api_Calendar} {d : api_Directory} {s : List api_Steward} (hc : MadeC c) (hd : dirOk d = true) (hs : stewOk d s = true) (rest : List api_Case) {x : api_Case} (hx : existsB d x.Owner = true) (hl : 2 ≤ x.Level ∧ x.Level ≤ 4) {u1 u2 : Int} (hu : u1 ≤ u2) :
    ∀ (n : Nat) (step t : Int), 1 ≤ step → 0 ≤ t → t + 12000 * n ≤ 1000000 → (upP c s rest x u1 n step t).1 = (upP c s rest x u2 n step t).1.filter fun y => decide (y.Time ≤ u1)
  | 0, _, _, _, _, _ => rfl
  | n + 1, step, t, h1, h2, h3 => by
    have hp := dl_pos.2 (show 1 ≤ x.Level ∧ x.Level ≤ 4 by omega)
    have hb := dl_bd x.Level
    obtain ⟨a1, a2, a3⟩ := due_ok hc h2 (by omega) (show 1 ≤ dlP x.Level by omega) (by omega)
    have ih := upP_cut hc hd hs rest hx hl hu n (step + 1) (addS c t (dlP x.Level)).1 (by omega) (by omega) (by omega)
    obtain ⟨i1, _⟩ := upP_up hc hd hs rest hx hl u1 n (step + 1) (addS c t (dlP x.Level)).1 (by omega) (by omega) (by omega)
    obtain ⟨j1, _, j3, _⟩ := upP_up hc hd hs rest hx hl u2 n (step + 1) (addS c t (dlP x.Level)).1 (by omega) (by omega) (by omega)
    unfold upP
    have ha0 : ¬ (addS c t (dlP x.Level)).2 ≠ 0 := by simpa using a1
    rw [if_neg ha0, if_neg ha0]
    by_cases hn : u2 < (addS c t (dlP x.Level)).1 ∨ ansP rest x.Case (addS c t (dlP x.Level)).1 = true
    · have hn1 : u1 < (addS c t (dlP x.Level)).1 ∨ ansP rest x.Case (addS c t (dlP x.Level)).1 = true := by rcases hn with h | h; exact .inl (by omega); exact .inr h
      rw [if_pos hn, if_pos hn1]; rfl
    · rw [if_neg hn, if_neg (show ¬ (upP c s rest x u2 n (step + 1) (addS c t (dlP x.Level)).1).2 ≠ 0 by simpa using j1)]
      by_cases h4 : u1 < (addS c t (dlP x.Level)).1
      · rw [if_pos (.inl h4)]
        symm
        rw [List.filter_eq_nil_iff]
        intro y hy
        rcases List.mem_cons.1 hy with rfl | hy
        · simp only [decide_eq_true_eq]; omega
        · have := (j3 y hy).1
          simp only [decide_eq_true_eq]; omega
      · have hn1 : ¬ (u1 < (addS c t (dlP x.Level)).1 ∨ ansP rest x.Case (addS c t (dlP x.Level)).1 = true) := by
          rintro (h | h)
          · exact h4 h
          · exact hn (.inr h)
        rw [if_neg hn1, if_neg (show ¬ (upP c s rest x u1 n (step + 1) (addS c t (dlP x.Level)).1).2 ≠ 0 by simpa using i1), List.filter_cons, if_pos (by simp only [decide_eq_true_eq]; omega), ih]
theorem oneP_cut {c : api_Calendar} {d : api_Directory} {s : List api_Steward} (hc : MadeC c) (hd : dirOk d = true) (hs : stewOk d s = true) (rest : List api_Case) {x : api_Case} (hx : existsB d x.Owner = true) (hl : 2 ≤ x.Level ∧ x.Level ≤ 4) (ht : 0 ≤ x.Time ∧ x.Time ≤ 18) {u1 u2 : Int} (hu : u1 ≤ u2) :
    (oneP c s rest x u1).1 = (oneP c s rest x u2).1.filter fun y => decide (y.Time ≤ u1) := by
  obtain ⟨i1, _⟩ := upP_up hc hd hs rest hx hl u1 3 1 x.Time (by omega) (by omega) (by omega)
  obtain ⟨j1, _, j3, _⟩ := upP_up hc hd hs rest hx hl u2 3 1 x.Time (by omega) (by omega) (by omega)
  have ih := upP_cut hc hd hs rest hx hl hu 3 1 x.Time (by omega) (by omega) (by omega)
  unfold oneP
  by_cases h2 : u2 < x.Time
  · rw [if_pos h2, if_pos (by omega)]; rfl
  · rw [if_neg h2, if_neg (show ¬ (upP c s rest x u2 3 1 x.Time).2 ≠ 0 by simpa using j1)]
    by_cases h1 : u1 < x.Time
    · rw [if_pos h1]
      symm
      rw [List.filter_eq_nil_iff]
      intro y hy
      rcases List.mem_cons.1 hy with rfl | hy
      · simp only [decide_eq_true_eq]; omega
      · have := (j3 y hy).1
        simp only [decide_eq_true_eq]; omega
    · rw [if_neg h1, if_neg (show ¬ (upP c s rest x u1 3 1 x.Time).2 ≠ 0 by simpa using i1), List.filter_cons, if_pos (by simp only [decide_eq_true_eq]; omega), ih]
theorem Made.cut {c : api_Calendar} {d : api_Directory} {s : List api_Steward} {l : List api_Case} (M : Made c d s l) {u1 u2 : Int} (hu : u1 ≤ u2) : sortN (catM c s l u1) = (sortN (catM c s l u2)).filter fun y => decide (y.Time ≤ u1) := by
  rw [sortN_filter (M.cat u2).2.2]
  congr 1
  unfold catM
  rw [filter_flat]
  congr 1
  refine List.map_congr_left fun k hk => ?_
  obtain ⟨h1, h2⟩ := opens_mem.1 hk
  unfold casP
  rw [List.getElem?_eq_getElem h1]
  exact oneP_cut M.cal M.dir.ok M.stew _ (M.owner (List.getElem_mem h1) h2) (M.level _ (List.getElem_mem h1) h2) (M.time _ (List.getElem_mem h1)) hu
theorem upP_less {c : api_Calendar} {d : api_Directory} {s : List api_Steward} (hc : MadeC c) (hd : dirOk d = true) (hs : stewOk d s = true) (rest : List api_Case) (e : api_Case) {x : api_Case} (hx : existsB d x.Owner = true) (hl : 2 ≤ x.Level ∧ x.Level ≤ 4) (u : Int) :
    ∀ (n : Nat) (step t : Int), 1 ≤ step → 0 ≤ t → t + 12000 * n ≤ 1000000 → (upP c s (rest ++ [e]) x u n step t).1.Sublist (upP c s rest x u n step t).1
  | 0, _, _, _, _, _ => List.Sublist.refl _
  | n + 1, step, t, h1, h2, h3 => by
    have hp := dl_pos.2 (show 1 ≤ x.Level ∧ x.Level ≤ 4 by omega)
    have hb := dl_bd x.Level
    obtain ⟨a1, a2, a3⟩ := due_ok hc h2 (by omega) (show 1 ≤ dlP x.Level by omega) (by omega)
    have ih := upP_less hc hd hs rest e hx hl u n (step + 1) (addS c t (dlP x.Level)).1 (by omega) (by omega) (by omega)
    obtain ⟨i1, _⟩ := upP_up hc hd hs rest hx hl u n (step + 1) (addS c t (dlP x.Level)).1 (by omega) (by omega) (by omega)
    obtain ⟨j1, _⟩ := upP_up hc hd hs (rest ++ [e]) hx hl u n (step + 1) (addS c t (dlP x.Level)).1 (by omega) (by omega) (by omega)
    unfold upP
    have ha0 : ¬ (addS c t (dlP x.Level)).2 ≠ 0 := by simpa using a1
    rw [if_neg ha0, if_neg ha0]
    by_cases hn : u < (addS c t (dlP x.Level)).1 ∨ ansP (rest ++ [e]) x.Case (addS c t (dlP x.Level)).1 = true
    · rw [if_pos hn]; exact List.nil_sublist _
    · have hn1 : ¬ (u < (addS c t (dlP x.Level)).1 ∨ ansP rest x.Case (addS c t (dlP x.Level)).1 = true) := by
        rintro (h | h)
        · exact hn (.inl h)
        · refine hn (.inr ?_)
          unfold ansP at h ⊢
          rw [List.any_append, h]; rfl
      rw [if_neg hn, if_neg hn1, if_neg (show ¬ (upP c s (rest ++ [e]) x u n (step + 1) (addS c t (dlP x.Level)).1).2 ≠ 0 by simpa using j1), if_neg (show ¬ (upP c s rest x u n (step + 1) (addS c t (dlP x.Level)).1).2 ≠ 0 by simpa using i1)]
      exact ih.cons_cons _
theorem oneP_less {c : api_Calendar} {d : api_Directory} {s : List api_Steward} (hc : MadeC c) (hd : dirOk d = true) (hs : stewOk d s = true) (rest : List api_Case) (e : api_Case) {x : api_Case} (hx : existsB d x.Owner = true) (hl : 2 ≤ x.Level ∧ x.Level ≤ 4) (ht : 0 ≤ x.Time ∧ x.Time ≤ 18) (u : Int) :
    (oneP c s (rest ++ [e]) x u).1.Sublist (oneP c s rest x u).1 := by
  have ih := upP_less hc hd hs rest e hx hl u 3 1 x.Time (by omega) (by omega) (by omega)
  obtain ⟨i1, _⟩ := upP_up hc hd hs rest hx hl u 3 1 x.Time (by omega) (by omega) (by omega)
  obtain ⟨j1, _⟩ := upP_up hc hd hs (rest ++ [e]) hx hl u 3 1 x.Time (by omega) (by omega) (by omega)
  unfold oneP
  split
  · exact List.Sublist.refl _
  · rw [if_neg (show ¬ (upP c s (rest ++ [e]) x u 3 1 x.Time).2 ≠ 0 by simpa using j1), if_neg (show ¬ (upP c s rest x u 3 1 x.Time).2 ≠ 0 by simpa using i1)]
    exact ih.cons_cons _
theorem casesB_snoc {d : api_Directory} {e : api_Case} : ∀ {l : List api_Case} {prev : List Int} {last : Int}, casesB d prev last l = true → (∀ x ∈ l, x.Time ≤ e.Time) → last ≤ e.Time → e.Time ≤ maxT → rightP d (prev ++ l.map (·.Case)) e = true → casesB d prev last (l ++ [e]) = true
  | [], prev, last, _, _, h3, h4, h5 => by
    simp only [List.nil_append, casesB, Bool.and_true, Bool.and_eq_true, decide_eq_true_eq]
    exact ⟨⟨h3, h4⟩, by simpa using h5⟩
  | x :: l, prev, last, h1, h2, h3, h4, h5 => by
    simp only [casesB, Bool.and_eq_true, decide_eq_true_eq] at h1
    simp only [List.cons_append, casesB, Bool.and_eq_true, decide_eq_true_eq]
    exact ⟨h1.1, casesB_snoc h1.2 (fun y hy => h2 y (List.mem_cons_of_mem _ hy)) (h2 x (List.mem_cons_self ..)) h4 (by simpa using h5)⟩
theorem casesB_sorted {d : api_Directory} : ∀ {l : List api_Case} {prev : List Int} {last : Int}, casesB d prev last l = true → l.Pairwise (fun a b => a.Time ≤ b.Time) ∧ ∀ x ∈ l, last ≤ x.Time
  | [], _, _, _ => ⟨.nil, fun x h => by cases h⟩
  | x :: l, prev, last, h => by
    simp only [casesB, Bool.and_eq_true, decide_eq_true_eq] at h
    obtain ⟨g1, g2⟩ := casesB_sorted h.2
    refine ⟨.cons g2 g1, fun y hy => ?_⟩
    rcases List.mem_cons.1 hy with rfl | hy
    · exact h.1.1.1
    · exact Int.le_trans h.1.1.1 (g2 y hy)
theorem Made.more {c : api_Calendar} {d : api_Directory} {s : List api_Steward} {l : List api_Case} (M : Made c d s l) (hl : l.length ≤ 50) {x : api_Case} (hx : x ∈ l) (hp : l.length - 1 < l.length) : Made c d s (l ++ [⟨l[l.length - 1].Time, 2, x.Case, 0, 0⟩]) := by
  have hmx := M.time _ (List.getElem_mem hp)
  have hnx := M.num x hx
  refine ⟨M.cal, M.dir, M.stew, ?_, all_snoc M.time hmx, all_snoc M.level fun h => by simp only at h; omega, all_snoc M.num hnx⟩
  unfold casesOk
  rw [decide_eq_true (by simp; omega), Bool.true_and]
  obtain ⟨g1, _⟩ := casesB_sorted M.cb.2
  refine casesB_snoc M.cb.2 (fun y hy => ?_) (by simp only; omega) (by simp only [maxT]; omega) ?_
  · obtain ⟨i, hi, rfl⟩ := List.getElem_of_mem hy
    by_cases e : i = l.length - 1
    · subst e; exact Int.le_refl _
    · exact List.pairwise_iff_getElem.1 g1 i (l.length - 1) hi hp (by omega)
  · unfold rightP
    simp only [List.nil_append, Bool.and_eq_true, decide_eq_true_eq]
    refine ⟨⟨hnx.1, hnx.2⟩, ?_⟩
    rw [if_neg (by omega), if_pos (by simp), List.contains_iff_mem.2 (List.mem_map.2 ⟨x, hx, rfl⟩)]
    rfl
theorem opens_more {l : List api_Case} {e : api_Case} (he : e.Kind ≠ 1) : opensP (l ++ [e]) = opensP l := by
  unfold opensP
  rw [List.length_append, List.length_singleton, List.range_succ, List.filter_append]
  have h1 : List.filter (opK (l ++ [e])) [l.length] = [] := by
    rw [List.filter_eq_nil_iff]
    intro k hk
    simp only [List.mem_singleton] at hk
    subst hk
    unfold opK
    simp [he]
  rw [h1, List.append_nil]
  refine List.filter_congr fun k hk => ?_
  rw [List.mem_range] at hk
  unfold opK
  rw [List.getElem?_append_left hk]
theorem flat_sub {α : Type} {f g : Nat → List α} : ∀ {ks : List Nat}, (∀ k ∈ ks, (f k).Sublist (g k)) → ((ks.map f).flatten).Sublist ((ks.map g).flatten)
  | [], _ => List.Sublist.refl _
  | k :: ks, h => by
    rw [List.map_cons, List.map_cons, List.flatten_cons, List.flatten_cons]
    exact (h k (List.mem_cons_self ..)).append (flat_sub fun j hj => h j (List.mem_cons_of_mem _ hj))
theorem Made.less {c : api_Calendar} {d : api_Directory} {s : List api_Steward} {l : List api_Case} (M : Made c d s l) {e : api_Case} (he : e.Kind ≠ 1) (u : Int) : (catM c s (l ++ [e]) u).Sublist (catM c s l u) := by
  unfold catM
  rw [opens_more he]
  refine flat_sub fun k hk => ?_
  obtain ⟨h1, h2⟩ := opens_mem.1 hk
  unfold casP
  rw [List.getElem?_append_left h1, List.getElem?_eq_getElem h1]
  simp only
  rw [List.drop_append_of_le_length (by omega)]
  exact oneP_less M.cal M.dir.ok M.stew _ e (M.owner (List.getElem_mem h1) h2) (M.level _ (List.getElem_mem h1) h2) (M.time _ (List.getElem_mem h1)) u
theorem same_sp {a : List api_Notice} (ha : a.length ≤ 1000000) : ref41_Same a a = some true := by
  unfold ref41_Same
  rw [if_neg (by simp)]
  have : iter (ref41_Same_l0 a a) 0 = some (.inl ()) := by
    refine (iter_allE a.length (fun _ => true) false (fun i hi => ?_) ?_).trans (congrArg some (if_pos fun _ _ => rfl))
    · rw [if_pos rfl]
      unfold ref41_Same_l0
      rw [if_pos (by simp <;> omega), idx_lt hi, w64 (by omega) (by omega)]
      simp only [Option.bind_some, beq_self_eq_true, Bool.and_self, Bool.not_true]
      rfl
    · unfold ref41_Same_l0
      rw [if_neg (by simp)]
  rw [this]; rfl
theorem until_l0 {all : List api_Notice} {e : Int} (ha : all.length ≤ 1000000) (u : Int) {m : make_Tape} : iter (law41_NoticeUntil_l0 (all, e) (u, m)) (0, []) = some (all.filter fun y => decide (y.Time ≤ u)) := by
  have key : ∀ (n i : Nat) (out : List api_Notice), i + n = all.length → out.length ≤ i → iter (law41_NoticeUntil_l0 (all, e) (u, m)) ((i : Int), out) = some (out ++ (all.drop i).filter fun y => decide (y.Time ≤ u)) := fun n => by
    induction n with
    | zero =>
      intro i out h _
      have : i = all.length := by omega
      subst this
      refine iter_out ?_
      unfold law41_NoticeUntil_l0
      simp only
      rw [if_neg (by simp), List.drop_length]
      simp
    | succ n ih =>
      intro i out h ho
      have hi : i < all.length := by omega
      rw [List.drop_eq_getElem_cons hi, List.filter_cons]
      have e : law41_NoticeUntil_l0 (all, e) (u, m) ((i : Int), out) = some (.go (((i + 1 : Nat) : Int), if decide (all[i].Time ≤ u) = true then out ++ [all[i]] else out)) := by
        unfold law41_NoticeUntil_l0
        simp only
        rw [if_pos (by simp <;> omega), idx_lt hi, w64 (by omega) (by omega)]
        simp only [Option.bind_some]
        rw [ck_t (by simp; omega)]
        split <;> rfl
      rw [iter_go e]
      split
      · rw [ih (i + 1) _ (by omega) (by simp; omega)]; simp
      · rw [ih (i + 1) _ (by omega) (by omega)]
  simpa using key all.length 0 [] (by omega) (by simp)
theorem until_l3 {all : List api_Notice} {e : Int} (ha : all.length ≤ 1000000) {x : api_Notice} (hx : x ∈ all) : iter (law41_NoticeUntil_l3 (all, e) x) (false, 0) = some true := by
  have := (iter_foldlS (body := law41_NoticeUntil_l3 (all, e) x) all (fun j v => (v, (j : Int))) (fun v y => v || ((x.Time == y.Time) && ((x.Case == y.Case) && ((x.To == y.To) && (x.Step == y.Step))))) (fun v => v) (fun _ _ => True) (fun j hj v _ => by
    unfold law41_NoticeUntil_l3
    simp only
    rw [if_pos (by simp <;> omega), idx_lt hj, w64 (by omega) (by omega)]
    exact ⟨rfl, trivial⟩) (fun v _ => by
    unfold law41_NoticeUntil_l3
    simp only
    rw [if_neg (by simp)]) false trivial).1
  rw [show (false, (0 : Int)) = (false, ((0 : Nat) : Int)) from rfl, this]
  have hf : ∀ (l : List api_Notice) (v : Bool), (v = true ∨ x ∈ l) → l.foldl (fun v y => v || ((x.Time == y.Time) && ((x.Case == y.Case) && ((x.To == y.To) && (x.Step == y.Step))))) v = true := fun l => by
    induction l with
    | nil => intro v h; exact h.resolve_right (by simp)
    | cons y l ih =>
      intro v h
      rw [List.foldl_cons]
      refine ih _ ?_
      rcases h with h | h
      · left; rw [h]; rfl
      · rcases List.mem_cons.1 h with rfl | h
        · left; simp
        · right; exact h
  rw [hf all false (.inr hx)]
theorem noticeUntil_plain (l : List Int) : law41_NoticeUntil l = some true := by
  unfold law41_NoticeUntil
  by_cases hl : l.length ≤ 400
  case neg => rw [if_pos (by simp; omega), awake41]; rfl
  rw [if_neg (by simp; omega)]
  obtain ⟨c, d, s, cs, m1, m2, m3, m4, e1, e2, e3, e4, t4, M, h7, _⟩ := made_all (m := ⟨l, 0⟩) ⟨Int.le_refl _, by simp only; omega⟩
  rw [e1]; simp only [Option.bind_some]
  rw [e2]; simp only [Option.bind_some]
  rw [e3]; simp only [Option.bind_some]
  rw [e4]; simp only [Option.bind_some]
  rw [next_spT t4 (by omega)]; simp only [Option.bind_some]
  have v1 := tnextV_bd m4 (n := 80) (by omega)
  have t5 := tnextT_ok t4
  generalize tnextV m4 80 = u at *
  generalize tnextT m4 = m5 at *
  rw [M.all (by unfold maxT; omega)]; simp only [Option.bind_some]
  rw [next_spT t5 (by omega)]; simp only [Option.bind_some]
  have v2 := tnextV_bd m5 (n := 200) (by omega)
  generalize tnextV m5 200 = u2 at *
  rw [w64 (by omega) (by omega), M.all (by unfold maxT; omega)]; simp only [Option.bind_some]
  rw [if_neg (by decide)]
  have hal : ∀ q, (sortN (catM c s cs q)).length ≤ 400 := fun q => by rw [sortN_len]; exact catM_len M q
  rw [until_l0 (by have := hal (u + u2); omega), ← M.cut (show u ≤ u + u2 by omega)]
  simp only [Option.bind_some]
  rw [same_sp (by have := hal u; omega)]
  simp only [Option.bind_some]
  rw [if_neg (by decide)]
  have L1 : iter (law41_NoticeUntil_l1 (cs, m4) (c, m1) (d, m2) (s, m3) (u, m5) (sortN (catM c s cs u), 0)) 0 = some (.inl ()) := by
    refine (iter_allE cs.length (fun _ => true) false (fun i hi => ?_) ?_).trans (congrArg some (if_pos fun _ _ => rfl))
    · rw [if_pos rfl]
      unfold law41_NoticeUntil_l1
      rw [if_pos (by simp <;> omega), idx_lt hi, w64 (x := (i : Int) + 1) (by omega) (by omega)]
      simp only [Option.bind_some]
      by_cases hk : cs[i].Kind = 1
      · have hp : cs.length - 1 < cs.length := by omega
        rw [if_neg (by simpa using hk), ck_t (by omega), w64 (by omega) (by omega), show (cs.length : Int) - 1 = ((cs.length - 1 : Nat) : Int) by omega, idx_lt hp]
        simp only [Option.bind_some]
        rw [ck_t (by simp; omega)]
        simp only [Option.bind_some]
        have M2 := M.more (by omega) (List.getElem_mem hi) hp
        have hsub := M.less (e := ⟨cs[cs.length - 1].Time, 2, cs[i].Case, 0, 0⟩) (by simp) u
        generalize cs ++ [(⟨cs[cs.length - 1].Time, 2, cs[i].Case, 0, 0⟩ : api_Case)] = cs2 at *
        rw [M2.all (by unfold maxT; omega)]
        simp only [Option.bind_some]
        have hlen := hsub.length_le
        have hl2 := hal u
        rw [sortN_len] at hl2
        rw [if_neg (by simp only [sortN_len, bne_self_eq_false, Bool.false_or, decide_eq_true_eq]; omega)]
        have L2 : iter (law41_NoticeUntil_l2 (sortN (catM c s cs2 u), 0) (sortN (catM c s cs u), 0)) 0 = some (.inl ()) := by
          refine (iter_allE (sortN (catM c s cs2 u)).length (fun _ => true) false (fun j hj => ?_) ?_).trans (congrArg some (if_pos fun _ _ => rfl))
          · rw [if_pos rfl]
            have hj2 := hj
            rw [sortN_len] at hj2
            unfold law41_NoticeUntil_l2
            rw [if_pos (by simp only [decide_eq_true_eq]; omega), idx_lt hj, w64 (by omega) (by omega)]
            simp only [Option.bind_some]
            have hm : (sortN (catM c s cs2 u))[j] ∈ sortN (catM c s cs u) := sortN_mem.2 (hsub.subset (sortN_mem.1 (List.getElem_mem hj)))
            rw [until_l3 (by rw [sortN_len]; omega) hm]
            rfl
          · unfold law41_NoticeUntil_l2
            rw [if_neg (by simp)]
        rw [L2]
        rfl
      · rw [if_pos (by simpa using hk)]; rfl
    · unfold law41_NoticeUntil_l1
      rw [if_neg (by simp)]
  rw [L1]
  simp only [Option.bind_some, awake41]
end Go.Vl
