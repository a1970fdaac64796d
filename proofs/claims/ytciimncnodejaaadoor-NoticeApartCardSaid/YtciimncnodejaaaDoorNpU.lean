/- The plain law of NoticeApart; which cases are open, and which are late. Conditions: none. -/
import Derived.Test.YtciimncnodejaaaDoorNpT
set_option linter.unusedSimpArgs false
set_option linter.unusedVariables false
namespace Go.Vl
open Go

/-! Open and Late -/
def openF (t : Int) (m : List (Int × Bool)) (x : api_Case) : List (Int × Bool) := if t < x.Time then m else if x.Kind = 1 then mset inE m x.Case true else if x.Kind = 3 then mdel inE m x.Case else m
theorem mset_len (m : List (Int × Bool)) (k : Int) (v : Bool) : (mset inE m k v).length ≤ m.length + 1 := by
  obtain ⟨h1, h2⟩ := mset_keys inE_eq m k v
  by_cases h : k ∈ m.map (·.1)
  · have := congrArg List.length (h1 h); simp at this; omega
  · rw [h2 h]; simp
theorem mdel_len (m : List (Int × Bool)) (k : Int) : (mdel inE m k).length ≤ m.length := (mdel_sub m k).length_le
theorem openF_len (t : Int) (m : List (Int × Bool)) (x : api_Case) : (openF t m x).length ≤ m.length + 1 := by
  unfold openF
  split
  · omega
  split
  · exact mset_len ..
  split
  · have := mdel_len m x.Case; omega
  · omega
theorem openF_nodup (t : Int) {m : List (Int × Bool)} (h : (m.map (·.1)).Nodup) (x : api_Case) : ((openF t m x).map (·.1)).Nodup := by
  unfold openF
  split
  · exact h
  split
  · exact mset_nodup inE_eq h _ _
  split
  · exact mdel_nodup h _
  · exact h
def openM (l : List api_Case) (t : Int) : List (Int × Bool) := l.foldl (openF t) []
def sortI (l : List Int) : List Int := l.mergeSort fun x y => decide (x ≤ y)
theorem open_l0 {l : List api_Case} (hl : l.length ≤ 1000) (t : Int) : iter (notice_Open_l0 l t) (0, []) = some (openM l t) ∧ (openM l t).length ≤ l.length ∧ ((openM l t).map (·.1)).Nodup := by
  have := iter_foldlS (body := notice_Open_l0 l t) l (fun i m => ((i : Int), m)) (openF t) (fun m => m) (fun i m => m.length ≤ i ∧ (m.map (·.1)).Nodup) (fun i hi m ⟨h1, h2⟩ => by
    refine ⟨?_, by have := openF_len t m l[i]; omega, openF_nodup t h2 _⟩
    unfold notice_Open_l0 openF
    simp only
    rw [if_pos (by simp <;> omega), idx_lt hi, w64 (by omega) (by omega)]
    simp only [Option.bind_some, decide_eq_true_eq, beq_iff_eq]
    split
    · rfl
    split
    · rfl
    split <;> rfl) (fun m _ => by
    unfold notice_Open_l0
    simp only
    rw [if_neg (by simp)]) [] ⟨by simp, by simp⟩
  exact ⟨this.1, this.2.1, this.2.2⟩
theorem sorted_sp {m : List (Int × Bool)} (h : m.length ≤ 268435456) : notice_sorted m = some (sortI (m.map (·.1))) := by
  unfold notice_sorted
  rw [ck_t h]; rfl
theorem sortI_mem {l : List Int} {x : Int} : x ∈ sortI l ↔ x ∈ l := List.mem_mergeSort
theorem Open_sp {d : api_Directory} {l : List api_Case} (hd : dirOk d = true) (hl : casesOk d l = true) (t : Int) : notice_Open d l t = some (sortI ((openM l t).map (·.1))) := by
  have hc := hl
  unfold casesOk at hc
  simp only [Bool.and_eq_true, decide_eq_true_eq] at hc
  unfold notice_Open
  rw [ncheck_sp, hd, hl]
  simp only [if_true, Option.bind_some]
  obtain ⟨h1, h2, _⟩ := open_l0 (show l.length ≤ 1000 by omega) t
  rw [if_neg (by decide), h1]
  simp only [Option.bind_some]
  rw [sorted_sp (by omega)]; rfl
def lateF (op : List Int) (m : List (Int × Bool)) (n : api_Notice) : List (Int × Bool) := if (decide (0 < n.Step) && op.contains n.Case) = true then mset inE m n.Case true else m
def lateM (al : List api_Notice) (op : List Int) : List (Int × Bool) := al.foldl (lateF op) []
theorem late_l0 {al : List api_Notice} {e : Int} (ha : al.length ≤ 1000000) {op : List Int} (ho : op.length ≤ 1000000) : iter (notice_Late_l0 (al, e) op) (0, []) = some (lateM al op) ∧ (lateM al op).length ≤ al.length ∧ (∀ x ∈ (lateM al op).map (·.1), x ∈ op) ∧ ((lateM al op).map (·.1)).Nodup := by
  have := iter_foldlS (body := notice_Late_l0 (al, e) op) al (fun i m => ((i : Int), m)) (lateF op) (fun m => m) (fun i m => m.length ≤ i ∧ (∀ x ∈ m.map (·.1), x ∈ op) ∧ (m.map (·.1)).Nodup) (fun i hi m ⟨h1, h2, h3⟩ => by
    have hF : (lateF op m al[i]).length ≤ m.length + 1 ∧ (∀ x ∈ (lateF op m al[i]).map (·.1), x ∈ op) ∧ ((lateF op m al[i]).map (·.1)).Nodup := by
      unfold lateF
      split
      · rename_i hc
        simp only [Bool.and_eq_true, List.contains_iff_mem] at hc
        refine ⟨mset_len .., fun x hx => ?_, mset_nodup inE_eq h3 _ _⟩
        rcases (mset_mem inE_eq).1 hx with rfl | hx
        · exact hc.2
        · exact h2 x hx
      · exact ⟨by omega, h2, h3⟩
    refine ⟨?_, by have := hF.1; omega, hF.2⟩
    unfold notice_Late_l0 lateF
    simp only
    rw [if_pos (by simp <;> omega), idx_lt hi, w64 (by omega) (by omega)]
    simp only [Option.bind_some, contains_sp ho]
    by_cases hs : 0 < al[i].Step
    · rw [if_pos (by simpa using hs)]
      simp only [hs, decide_true, Bool.true_and, Option.bind_some]
      split <;> rfl
    · rw [if_neg (by simpa using hs)]
      simp only [hs, decide_false, Bool.false_and, Option.bind_some, Bool.false_eq_true, if_false]
      rfl) (fun m _ => by
    unfold notice_Late_l0
    simp only
    rw [if_neg (by simp)]) [] ⟨by simp, by simp, by simp⟩
  exact ⟨this.1, this.2.1, this.2.2.1, this.2.2.2⟩

/-! NoticeApart -/
theorem casesB_own {d : api_Directory} (k : Int) : ∀ {l : List api_Case} {prev prev' : List Int} {last last' : Int}, casesB d prev last l = true → last' ≤ last → (prev'.contains k = prev.contains k) → casesB d prev' last' (l.filter fun x => x.Case == k) = true
  | [], _, _, _, _, _, _, _ => rfl
  | x :: l, prev, prev', last, last', h, h1, h2 => by
    simp only [casesB, Bool.and_eq_true, decide_eq_true_eq] at h
    obtain ⟨⟨⟨h3, h4⟩, h5⟩, h6⟩ := h
    rw [List.filter_cons]
    by_cases hk : x.Case = k
    · rw [if_pos (by simpa using hk)]
      simp only [casesB, Bool.and_eq_true, decide_eq_true_eq]
      refine ⟨⟨⟨by omega, h4⟩, ?_⟩, casesB_own k h6 (Int.le_refl _) ?_⟩
      · have : rightP d prev' x = rightP d prev x := by unfold rightP; rw [hk, h2]
        rw [this]; exact h5
      · have e : ∀ a b : List Int, (a ++ b).contains k = (a.contains k || b.contains k) := fun a b => by
          rw [Bool.eq_iff_iff]; simp [List.contains_iff_mem]
        rw [e, e, h2]
    · rw [if_neg (by simpa using hk)]
      refine casesB_own k h6 (by omega) ?_
      rw [h2, Bool.eq_iff_iff]
      simp only [List.contains_iff_mem, List.mem_append, List.mem_singleton]
      exact ⟨.inl, fun h => h.resolve_right fun e => hk e.symm⟩
theorem Made.part {c : api_Calendar} {d : api_Directory} {s : List api_Steward} {l : List api_Case} (M : Made c d s l) (k : Int) : Made c d s (l.filter fun x => x.Case == k) := by
  refine ⟨M.cal, M.dir, M.stew, ?_, fun x hx => M.time x (List.mem_filter.1 hx).1, fun x hx => M.level x (List.mem_filter.1 hx).1, fun x hx => M.num x (List.mem_filter.1 hx).1⟩
  unfold casesOk
  rw [casesB_own k M.cb.2 (Int.le_refl _) rfl, Bool.and_true, decide_eq_true_eq]
  exact Nat.le_trans (List.length_filter_le _ _) M.cb.1
theorem ansP_own (l : List api_Case) (k t : Int) : ansP (l.filter fun x => x.Case == k) k t = ansP l k t := by
  unfold ansP
  rw [List.any_filter]
  congr 1
  funext x
  cases x.Case == k <;> rfl
theorem upP_rest {c : api_Calendar} {s : List api_Steward} {r1 r2 : List api_Case} {x : api_Case} (h : ∀ t, ansP r1 x.Case t = ansP r2 x.Case t) (u : Int) : ∀ (n : Nat) (step t : Int), upP c s r1 x u n step t = upP c s r2 x u n step t
  | 0, _, _ => rfl
  | n + 1, step, t => by
    unfold upP
    rw [h, upP_rest h u n]
theorem oneP_rest {c : api_Calendar} {s : List api_Steward} {r1 r2 : List api_Case} {x : api_Case} (h : ∀ t, ansP r1 x.Case t = ansP r2 x.Case t) (u : Int) : oneP c s r1 x u = oneP c s r2 x u := by
  unfold oneP
  rw [upP_rest h u]
theorem catM_case {c : api_Calendar} {d : api_Directory} {s : List api_Steward} {l : List api_Case} (M : Made c d s l) (u : Int) {y : api_Notice} (hy : y ∈ catM c s l u) : ∃ (i : Nat) (h : i < l.length), l[i].Kind = 1 ∧ y.Case = l[i].Case := by
  rw [← (M.cat u).2.1] at hy
  obtain ⟨i, hi, hy⟩ := catP_mem hy
  obtain ⟨h1, h2⟩ := opens_mem.1 hi
  simp only [casP, List.getElem?_eq_getElem h1] at hy
  exact ⟨i, h1, h2, ((oneP_get ..).2 y hy).1⟩
theorem Made.alone {c : api_Calendar} {d : api_Directory} {s : List api_Steward} {l : List api_Case} (M : Made c d s l) (k u : Int) : sortN (catM c s (l.filter fun x => x.Case == k) u) = (sortN (catM c s l u)).filter fun y => y.Case == k := by
  have M2 := M.part k
  by_cases hex : ∃ (i : Nat) (h : i < l.length), l[i].Kind = 1 ∧ l[i].Case = k
  · obtain ⟨i, hi, h1, hk⟩ := hex
    have hsplit : l.filter (fun x => x.Case == k) = (l.take i).filter (fun x => x.Case == k) ++ l[i] :: (l.drop (i + 1)).filter (fun x => x.Case == k) := by
      conv => lhs; rw [← List.take_append_drop i l, List.filter_append, List.drop_eq_getElem_cons hi, List.filter_cons, if_pos (by simpa using hk)]
    have hj : ((l.take i).filter (fun x => x.Case == k)).length < (l.filter (fun x => x.Case == k)).length := by rw [hsplit]; simp
    have hgj : (l.filter (fun x => x.Case == k))[((l.take i).filter (fun x => x.Case == k)).length] = l[i] := by
      simp only [hsplit]
      rw [List.getElem_append_right (Nat.le_refl _)]
      simp
    have hdj : (l.filter (fun x => x.Case == k)).drop (((l.take i).filter (fun x => x.Case == k)).length + 1) = (l.drop (i + 1)).filter (fun x => x.Case == k) := by
      rw [hsplit, ← List.drop_drop, List.drop_left]; rfl
    have o2 := M2.own u hj (by rw [hgj]; exact h1)
    rw [hgj, hdj, hk] at o2
    have o1 := M.own u hi h1
    rw [hk] at o1
    rw [o1, oneP_rest (r1 := l.drop (i + 1)) (r2 := (l.drop (i + 1)).filter (fun x => x.Case == k)) (fun t => by rw [hk, ansP_own]) u, ← o2]
    symm
    refine List.filter_eq_self.2 fun y hy => ?_
    obtain ⟨j, hj2, _, e⟩ := catM_case M2 u (sortN_mem.1 hy)
    rw [e]
    exact (List.mem_filter.1 (List.getElem_mem hj2)).2
  · have e1 : (sortN (catM c s l u)).filter (fun y => y.Case == k) = [] := by
      rw [List.filter_eq_nil_iff]
      intro y hy
      obtain ⟨i, hi, h1, e⟩ := catM_case M u (sortN_mem.1 hy)
      rw [e]
      intro h
      exact hex ⟨i, hi, h1, by simpa using h⟩
    rw [e1]
    apply List.eq_nil_iff_forall_not_mem.2
    intro y hy
    obtain ⟨i, hi, h1, _⟩ := catM_case M2 u (sortN_mem.1 hy)
    have hm := List.mem_filter.1 (List.getElem_mem hi)
    obtain ⟨j, hj, e⟩ := List.getElem_of_mem hm.1
    exact hex ⟨j, hj, by rw [e]; exact h1, by rw [e]; simpa using hm.2⟩
theorem filt_loop {α σ : Type} {body : Int × List α → Option (Lp (Int × List α) (List α))} {al : List α} (p : α → Bool) (ha : al.length ≤ 1000000)
    (hb : ∀ (i : Nat) (h : i < al.length) (out : List α), out.length ≤ i → body ((i : Int), out) = some (.go (((i + 1 : Nat) : Int), if p al[i] = true then out ++ [al[i]] else out))) (he : ∀ out, body ((al.length : Int), out) = some (.out out)) : iter body (0, []) = some (al.filter p) := by
  have key : ∀ (n i : Nat) (out : List α), i + n = al.length → out.length ≤ i → iter body ((i : Int), out) = some (out ++ (al.drop i).filter p) := fun n => by
    induction n with
    | zero =>
      intro i out h _
      have : i = al.length := by omega
      subst this
      rw [iter_out (he out), List.drop_length]; simp
    | succ n ih =>
      intro i out h ho
      have hi : i < al.length := by omega
      rw [List.drop_eq_getElem_cons hi, List.filter_cons, iter_go (hb i hi out ho)]
      split
      · rw [ih (i + 1) _ (by omega) (by simp; omega)]; simp
      · rw [ih (i + 1) _ (by omega) (by omega)]
  simpa using key al.length 0 [] (by omega) (by simp)
theorem noticeApart_plain (l : List Int) : law41_NoticeApart l = some true := by
  unfold law41_NoticeApart
  by_cases hl : l.length ≤ 400
  case neg => rw [if_pos (by simp; omega), awake41]; rfl
  rw [if_neg (by simp; omega)]
  obtain ⟨c, d, s, cs, m1, m2, m3, m4, e1, e2, e3, e4, t4, M, h7, _⟩ := made_all (m := ⟨l, 0⟩) ⟨Int.le_refl _, by simp only; omega⟩
  rw [e1]; simp only [Option.bind_some]
  rw [e2]; simp only [Option.bind_some]
  rw [e3]; simp only [Option.bind_some]
  rw [e4]; simp only [Option.bind_some]
  rw [next_spT t4 (by omega)]; simp only [Option.bind_some]
  have v1 := tnextV_bd m4 (n := 400) (by omega)
  generalize tnextV m4 400 = u at *
  generalize tnextT m4 = m5 at *
  rw [M.all (by unfold maxT; omega)]; simp only [Option.bind_some]
  rw [if_neg (by decide)]
  have hal : ∀ q, (sortN (catM c s cs q)).length ≤ 400 := fun q => by rw [sortN_len]; exact catM_len M q
  have hu := hal u
  have L0 : iter (law41_NoticeApart_l0 (cs, m4) (c, m1) (d, m2) (s, m3) (u, m5) (sortN (catM c s cs u), 0)) 0 = some (.inl ()) := by
    refine (iter_allE 3 (fun _ => true) false (fun i hi => ?_) ?_).trans (congrArg some (if_pos fun _ _ => rfl))
    · rw [if_pos rfl]
      unfold law41_NoticeApart_l0
      rw [if_pos (by simp; omega), w64 (x := (i : Int) + 1) (by omega) (by omega)]
      have L2 : iter (law41_NoticeApart_l2 (cs, m4) (i : Int)) (0, []) = some (cs.filter fun x => x.Case == (i : Int)) := by
        refine filt_loop (σ := Unit) _ (by omega) (fun j hj out ho => ?_) (fun out => ?_)
        · unfold law41_NoticeApart_l2
          simp only
          rw [if_pos (by simp <;> omega), idx_lt hj, w64 (by omega) (by omega)]
          simp only [Option.bind_some]
          rw [ck_t (by simp; omega)]
          split <;> rfl
        · unfold law41_NoticeApart_l2
          simp only
          rw [if_neg (by simp)]
      have L3 : iter (law41_NoticeApart_l3 (sortN (catM c s cs u), 0) (i : Int)) (0, []) = some ((sortN (catM c s cs u)).filter fun x => x.Case == (i : Int)) := by
        refine filt_loop (σ := Unit) _ (by omega) (fun j hj out ho => ?_) (fun out => ?_)
        · unfold law41_NoticeApart_l3
          simp only
          rw [if_pos (by simp <;> omega), idx_lt hj, w64 (by omega) (by omega)]
          simp only [Option.bind_some]
          rw [ck_t (by simp; omega)]
          split <;> rfl
        · unfold law41_NoticeApart_l3
          simp only
          rw [if_neg (by simp)]
      rw [L2]; simp only [Option.bind_some]
      rw [(M.part (i : Int)).all (by unfold maxT; omega)]; simp only [Option.bind_some]
      rw [L3]; simp only [Option.bind_some]
      rw [if_neg (by decide), M.alone, same_sp (Nat.le_trans (List.length_filter_le _ _) (by omega))]
      rfl
    · unfold law41_NoticeApart_l0
      rw [if_neg (by decide)]
  rw [L0]; simp only [Option.bind_some]
  have hop := Open_sp M.dir.ok M.case u
  obtain ⟨_, hm1, _⟩ := open_l0 (show cs.length ≤ 1000 by omega) u
  have hol : (sortI ((openM cs u).map (·.1))).length ≤ 1000000 := by unfold sortI; rw [List.length_mergeSort, List.length_map]; omega
  generalize sortI ((openM cs u).map (·.1)) = op at *
  obtain ⟨g1, g2, g3, _⟩ := late_l0 (al := sortN (catM c s cs u)) (e := 0) (by omega) hol
  have hlate : notice_Late c d s cs u = some (sortI ((lateM (sortN (catM c s cs u)) op).map (·.1)), 0) := by
    unfold notice_Late
    rw [M.all (by unfold maxT; omega)]; simp only [Option.bind_some]
    rw [if_neg (by decide), hop]; simp only [Option.bind_some]
    rw [g1]; simp only [Option.bind_some]
    rw [sorted_sp (by omega)]; rfl
  rw [hlate]; simp only [Option.bind_some]
  rw [hop]; simp only [Option.bind_some]
  have L1 : iter (law41_NoticeApart_l1 (sortI ((lateM (sortN (catM c s cs u)) op).map (·.1)), 0) op) 0 = some (.inl ()) := by
    have hll : (sortI ((lateM (sortN (catM c s cs u)) op).map (·.1))).length ≤ 400 := by unfold sortI; rw [List.length_mergeSort, List.length_map]; omega
    refine (iter_allE (sortI ((lateM (sortN (catM c s cs u)) op).map (·.1))).length (fun _ => true) false (fun i hi => ?_) ?_).trans (congrArg some (if_pos fun _ _ => rfl))
    · rw [if_pos rfl]
      unfold law41_NoticeApart_l1
      rw [if_pos (by simp only [decide_eq_true_eq]; omega), idx_lt hi, w64 (by omega) (by omega)]
      simp only [Option.bind_some]
      rw [has_sp hol, List.contains_iff_mem.2 (g3 _ (sortI_mem.1 (List.getElem_mem hi)))]
      rfl
    · unfold law41_NoticeApart_l1
      rw [if_neg (by simp)]
  rw [L1]
  simp only [Option.bind_some, awake41]
  rfl
end Go.Vl
