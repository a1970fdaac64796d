/- Plain laws of notices: the reference's All computes what the program's does. Conditions: none. -/
import Derived.Test.YtciimncnodejaaaGreatDoorXpB
set_option linter.unusedSimpArgs false
set_option linter.unusedVariables false
namespace Go.Vl
open Go

instance (a b : api_Notice) : Decidable (ltN a b) := by unfold ltN; infer_instance
theorem before_sp (a b : api_Notice) : ref41_before a b = some (decide (ltN a b)) := by
  unfold ref41_before ltN
  by_cases h1 : a.Time = b.Time
  · by_cases h2 : a.Case = b.Case
    · simp [h1, h2]
    · simp [h1, h2]
  · simp [h1]
def srtN (l : List api_Notice) : Prop := l.Pairwise fun a b => ¬ ltN b a
/-- where a notice goes -/
theorem ins_l2 {out : List api_Notice} (hl : out.length ≤ 1000000) (n : api_Notice) (s6 : Int × Int × List api_Notice) (x : api_Case) (hs : s6.2.2 = out) (hn : n = ⟨s6.1, x.Case, n.To, s6.2.1⟩) : ∃ k : Nat, k ≤ out.length ∧ iter (ref41_All_l2 s6 x n.To) 0 = some (k : Int) ∧ (∀ (j : Nat) (h : j < out.length), j < k → ltN out[j] n) ∧ ∀ h : k < out.length, ¬ ltN out[k] n := by
  subst hs
  obtain ⟨t, st, out⟩ := s6
  simp only at hl hn ⊢
  have key : ∀ (m i : Nat), i + m = out.length → (∀ (j : Nat) (h : j < out.length), j < i → ltN out[j] n) → ∃ k : Nat, k ≤ out.length ∧ iter (ref41_All_l2 (t, st, out) x n.To) (i : Int) = some (k : Int) ∧ (∀ (j : Nat) (h : j < out.length), j < k → ltN out[j] n) ∧ ∀ h : k < out.length, ¬ ltN out[k] n := fun m => by
    induction m with
    | zero =>
      intro i h hp
      have : i = out.length := by omega
      subst this
      refine ⟨out.length, Nat.le_refl _, iter_out ?_, hp, fun h => by omega⟩
      unfold ref41_All_l2
      simp only
      rw [if_neg (by simp)]; rfl
    | succ m ih =>
      intro i h hp
      have hi : i < out.length := by omega
      have e : ref41_All_l2 (t, st, out) x n.To (i : Int) = some (if ltN out[i] n then .go ((i + 1 : Nat) : Int) else .out (i : Int)) := by
        unfold ref41_All_l2
        simp only
        rw [if_pos (by simp <;> omega), ck_t (by constructor <;> omega), idx_lt hi, w64 (by omega) (by omega), ← hn]
        simp only [Option.bind_some, before_sp, decide_eq_true_eq]
        split <;> rfl
      by_cases hc : ltN out[i] n
      · rw [if_pos hc] at e
        rw [iter_go e]
        refine ih (i + 1) (by omega) fun j hj hj2 => ?_
        by_cases hji : j = i
        · subst hji; exact hc
        · exact hp j hj (by omega)
      · rw [if_neg hc] at e
        exact ⟨i, by omega, iter_out e, hp, fun _ => hc⟩
  exact key out.length 0 (by omega) (fun j _ h => by omega)
theorem ins_sorted {out : List api_Notice} (hs : srtN out) {n : api_Notice} {k : Nat} (hk : k ≤ out.length) (h1 : ∀ (j : Nat) (h : j < out.length), j < k → ltN out[j] n) (h2 : ∀ h : k < out.length, ¬ ltN out[k] n) : srtN (out.take k ++ ([n] ++ out.drop k)) ∧ (out.take k ++ ([n] ++ out.drop k)).Perm (out ++ [n]) := by
  constructor
  · unfold srtN at *
    rw [List.pairwise_append]
    refine ⟨hs.sublist (List.take_sublist k out), ?_, ?_⟩
    · rw [List.singleton_append, List.pairwise_cons]
      refine ⟨fun b hb => ?_, hs.sublist (List.drop_sublist k out)⟩
      obtain ⟨i, hi, rfl⟩ := List.getElem_of_mem hb
      rw [List.length_drop] at hi
      rw [List.getElem_drop]
      have h3 := h2 (by omega)
      by_cases hi0 : i = 0
      · subst hi0; exact h3
      · have h4 := List.pairwise_iff_getElem.1 hs k (k + i) (by omega) (by omega) (by omega)
        simp only [ltN] at h3 h4 ⊢
        omega
    · intro a ha b hb
      obtain ⟨i, hi, rfl⟩ := List.getElem_of_mem ha
      rw [List.length_take] at hi
      rw [List.getElem_take]
      have h3 := h1 i (by omega) (by omega)
      rw [List.singleton_append] at hb
      rcases List.mem_cons.1 hb with rfl | hb
      · simp only [ltN] at h3 ⊢; omega
      · obtain ⟨j, hj, rfl⟩ := List.getElem_of_mem hb
        rw [List.length_drop] at hj
        rw [List.getElem_drop]
        exact List.pairwise_iff_getElem.1 hs i (k + j) (by omega) (by omega) (by omega)
  · refine (List.perm_middle (a := n) (l₁ := out.take k) (l₂ := out.drop k)).trans ?_
    rw [List.take_append_drop]
    exact (List.perm_append_singleton n out).symm
theorem rall_l1 {c : api_Calendar} {d : api_Directory} {s : List api_Steward} {l : List api_Case} {k : Nat} (hk : k < l.length) (hl : l.length ≤ 100) (hd : dirOk d = true) (hs : stewOk d s = true) (hx : existsB d l[k].Owner = true) (until_ : Int) (s3 : Int × List api_Notice) (h3 : s3.1 = (k : Int)) :
    ∀ (n : Nat) (step t : Int) (out : List api_Notice), step + n = 3 → 0 ≤ step → t ≤ until_ → srtN out → out.length + n ≤ 1000 →
      ∃ out', iter (ref41_All_l1 until_ d s l[k] c l s3) (t, step, out) = some (if (upP c s (l.drop (k + 1)) l[k] until_ n (step + 1) t).2 ≠ 0 then .inr ([], (upP c s (l.drop (k + 1)) l[k] until_ n (step + 1) t).2) else .inl out') ∧
        ((upP c s (l.drop (k + 1)) l[k] until_ n (step + 1) t).2 = 0 → srtN out' ∧ out'.Perm (out ++ ⟨t, l[k].Case, toP (wayS s l[k].Owner t) step, step⟩ :: (upP c s (l.drop (k + 1)) l[k] until_ n (step + 1) t).1)) := fun n => by
  have one : ∀ (step t : Int) (out : List api_Notice), 0 ≤ step → step ≤ 3 → t ≤ until_ → srtN out → out.length ≤ 1000 → ∃ out1, srtN out1 ∧ out1.Perm (out ++ [⟨t, l[k].Case, toP (wayS s l[k].Owner t) step, step⟩]) ∧
      ref41_All_l1 until_ d s l[k] c l s3 (t, step, out) = (if (step == 3) = true then some (.out (.inl out1)) else if ((addS c t (dlP l[k].Level)).2 != 0) = true then some (.out (.inr ([], (addS c t (dlP l[k].Level)).2))) else if ansP (l.drop (k + 1)) l[k].Case (addS c t (dlP l[k].Level)).1 = true then some (.out (.inl out1)) else some (.go ((addS c t (dlP l[k].Level)).1, step + 1, out1))) := fun step t out g1 g2 g3 g4 g5 => by
    obtain ⟨_, w1, w2, w3⟩ := way_sp hd hs hx t
    have hp : 0 < (wayS s l[k].Owner t).length := by
      cases hw : wayS s l[k].Owner t with
      | nil => rw [hw] at w3; cases w3
      | cons _ _ => simp
    obtain ⟨at_, a1, a2, a3, a4⟩ := ins_l2 (out := out) (by omega) ⟨t, l[k].Case, toP (wayS s l[k].Owner t) step, step⟩ (t, step, out) l[k] rfl rfl
    obtain ⟨b1, b2⟩ := ins_sorted g4 a1 a3 a4
    refine ⟨_, b1, b2, ?_⟩
    unfold ref41_All_l1
    simp only [Option.bind_some]
    rw [if_pos (show (decide (step ≤ 3) && decide (t ≤ until_)) = true by simp; omega), w1]
    simp only [Option.bind_some]
    rw [toP_sp w2 hp g1]
    simp only [Option.bind_some]
    rw [a2]
    simp only [Option.bind_some, Int.toNat_natCast]
    have htk : ((out.drop at_).take (out.length - at_)) = out.drop at_ := List.take_of_length_le (by rw [List.length_drop]; omega)
    simp only [htk]
    rw [ck_t (by constructor <;> omega), ck_t (by constructor <;> omega), ck_t (by omega), ck_t (by simp; omega), ck_t (by omega), ck_t (by simp; omega), rdl_sp, w64 (x := step + 1) (by omega) (by omega)]
    simp only [Option.bind_some, refadd_sp, h3, ranswered_sp hl hk]
  induction n with
  | zero =>
    intro step t out h1 h2 h4 h5 h6
    obtain ⟨out1, b1, b2, e⟩ := one step t out h2 (by omega) h4 h5 (by omega)
    rw [if_pos (by simp; omega)] at e
    refine ⟨out1, ?_, fun _ => ⟨b1, b2⟩⟩
    rw [iter_out e]
    rfl
  | succ n ih =>
    intro step t out h1 h2 h4 h5 h6
    obtain ⟨out1, b1, b2, e⟩ := one step t out h2 (by omega) h4 h5 (by omega)
    rw [if_neg (by simp; omega)] at e
    unfold upP
    generalize hg : addS c t (dlP l[k].Level) = a at e ⊢
    by_cases ha : a.2 = 0
    case neg =>
      rw [if_pos (by simpa using ha)] at e
      exact ⟨[], by rw [iter_out e]; simp [ha], fun h => by simp [ha] at h⟩
    have ha2 : ¬ (a.2 ≠ 0) := by simp [ha]
    rw [if_neg (show ¬ (a.2 != 0) = true by simp [ha])] at e
    by_cases hq : ansP (l.drop (k + 1)) l[k].Case a.1 = true
    · rw [if_pos hq] at e
      refine ⟨out1, ?_, fun _ => ⟨b1, ?_⟩⟩
      · rw [iter_out e]; simp [ha, hq]
      · simpa [ha, hq] using b2
    rw [if_neg hq] at e
    by_cases hu : until_ < a.1
    · have e2 : ref41_All_l1 until_ d s l[k] c l s3 (a.1, step + 1, out1) = some (.out (.inl out1)) := by
        unfold ref41_All_l1
        simp only [Option.bind_some]
        rw [if_neg (by simp; omega)]
      refine ⟨out1, ?_, fun _ => ⟨b1, ?_⟩⟩
      · rw [iter_go e, iter_out e2]; simp [ha, hu]
      · simpa [ha, hu] using b2
    have hn : ¬ (until_ < a.1 ∨ ansP (l.drop (k + 1)) l[k].Case a.1 = true) := by rintro (h | h); exact hu h; exact hq h
    have hl1 : out1.length = out.length + 1 := by have := b2.length_eq; simpa using this
    obtain ⟨out2, i1, i2⟩ := ih (step + 1) a.1 out1 (by omega) (by omega) (by omega) b1 (by omega)
    rw [if_neg ha2, if_neg hn]
    generalize upP c s (l.drop (k + 1)) l[k] until_ n (step + 1 + 1) a.1 = r at *
    refine ⟨out2, ?_, fun h => ?_⟩
    · rw [iter_go e, i1]
      by_cases hr : r.2 = 0
      · simp [hr]
      · simp [hr]
    · by_cases hr : r.2 = 0
      · obtain ⟨j1, j2⟩ := i2 hr
        refine ⟨j1, j2.trans ?_⟩
        rw [if_neg (by simp [hr])]
        have := b2.append_right (⟨a.1, l[k].Case, toP (wayS s l[k].Owner a.1) (step + 1), step + 1⟩ :: r.1)
        simpa using this
      · exfalso; simp [hr] at h
theorem catP_cons (f : Nat → List api_Notice × Int) (k : Nat) (ks : List Nat) : catP f (k :: ks) = (if (f k).2 ≠ 0 then ([], (f k).2) else if (catP f ks).2 ≠ 0 then ([], (catP f ks).2) else ((f k).1 ++ (catP f ks).1, 0)) := rfl
theorem rAll_loop {c : api_Calendar} {d : api_Directory} {s : List api_Steward} {l : List api_Case} (hd : dirOk d = true) (hs : stewOk d s = true) (hl : casesOk d l = true) (until_ : Int) :
    ∀ (n i : Nat) (out : List api_Notice), i + n = l.length → out.length ≤ 4 * i → srtN out →
      ∃ out', iter (ref41_All_l0 l until_ d s c) ((i : Int), out) = some (if (catP (casP c s l until_) (((List.range l.length).drop i).filter (opK l))).2 ≠ 0 then .inr ([], (catP (casP c s l until_) (((List.range l.length).drop i).filter (opK l))).2) else .inl out') ∧
        ((catP (casP c s l until_) (((List.range l.length).drop i).filter (opK l))).2 = 0 → srtN out' ∧ out'.Perm (out ++ (catP (casP c s l until_) (((List.range l.length).drop i).filter (opK l))).1)) := fun n => by
  have hl' := hl
  unfold casesOk at hl'
  simp only [Bool.and_eq_true, decide_eq_true_eq] at hl'
  obtain ⟨hn, hc⟩ := hl'
  induction n with
  | zero =>
    intro i out h ha hso
    have : i = l.length := by omega
    subst this
    refine ⟨out, ?_, fun _ => ⟨hso, ?_⟩⟩
    · rw [List.drop_eq_nil_of_le (by simp)]
      refine iter_out ?_
      unfold ref41_All_l0
      rw [if_neg (by simp)]
      simp [catP]
    · rw [List.drop_eq_nil_of_le (by simp)]; simp [catP]
  | succ n ih =>
    intro i out h ha hso
    have hi : i < l.length := by omega
    rw [range_split _ _ hi, List.filter_cons]
    by_cases hk : l[i].Kind = 1
    · have hx : existsB d l[i].Owner = true := by
        have := (casesB_get hc i hi).1
        unfold rightP at this
        rw [if_pos hk] at this
        simp only [Bool.and_eq_true] at this
        exact this.2.2.2
      have hcas : casP c s l until_ i = oneP c s (l.drop (i + 1)) l[i] until_ := by unfold casP; rw [List.getElem?_eq_getElem hi]
      have e : ∃ out1, ref41_All_l0 l until_ d s c ((i : Int), out) = some (if (casP c s l until_ i).2 ≠ 0 then .out (.inr ([], (casP c s l until_ i).2)) else .go (((i + 1 : Nat) : Int), out1)) ∧ ((casP c s l until_ i).2 = 0 → srtN out1 ∧ out1.Perm (out ++ (casP c s l until_ i).1)) := by
        rw [hcas]
        have hb : ref41_All_l0 l until_ d s c ((i : Int), out) = (iter (ref41_All_l1 until_ d s l[i] c l ((i : Int), out)) (l[i].Time, 0, out)).bind fun q19 => match q19 with | .inl v5 => some (.go (((i + 1 : Nat) : Int), v5)) | .inr r18 => some (.out (.inr r18)) := by
          unfold ref41_All_l0
          simp only
          rw [if_pos (by simp <;> omega), idx_lt hi, w64 (by omega) (by omega)]
          simp only [Option.bind_some]
          rw [if_neg (by simpa using hk)]
          rfl
        rw [hb]
        unfold oneP
        by_cases hu : until_ < l[i].Time
        · have e2 : ref41_All_l1 until_ d s l[i] c l ((i : Int), out) (l[i].Time, 0, out) = some (.out (.inl out)) := by
            unfold ref41_All_l1
            simp only [Option.bind_some]
            rw [if_neg (by simp; omega)]
          refine ⟨out, ?_, fun _ => ⟨hso, ?_⟩⟩
          · rw [iter_out e2]; simp [hu]
          · simp [hu]
        · obtain ⟨out1, i1, i2⟩ := rall_l1 (c := c) hi (by omega) hd hs hx until_ ((i : Int), out) rfl 3 0 l[i].Time out (by omega) (by omega) (by omega) hso (by omega)
          rw [i1]
          rw [show (0 : Int) + 1 = 1 from rfl] at i2 ⊢
          obtain ⟨_, _, w2, w3⟩ := way_sp hd hs hx l[i].Time
          have hto : toP (wayS s l[i].Owner l[i].Time) 0 = l[i].Owner := by
            have hp : 0 < (wayS s l[i].Owner l[i].Time).length := by
              cases hw : wayS s l[i].Owner l[i].Time with
              | nil => rw [hw] at w3; cases w3
              | cons _ _ => simp
            unfold toP
            rw [if_neg (by omega)]
            unfold idx
            rw [if_pos (by omega), show Int.toNat 0 = 0 from rfl, w3]; rfl
          rw [hto] at i2
          generalize upP c s (l.drop (i + 1)) l[i] until_ 3 1 l[i].Time = r at *
          rw [if_neg hu]
          by_cases hr : r.2 = 0
          · obtain ⟨j1, j2⟩ := i2 hr
            refine ⟨out1, by simp [hr], fun _ => ⟨j1, by simpa [hr] using j2⟩⟩
          · exact ⟨[], by simp [hr], fun h => by simp [hr] at h⟩
      obtain ⟨out1, e1, e2⟩ := e
      have hcl := casP_len c s l until_ i
      rw [if_pos (show opK l i = true by simp [opK, hi, hk])]
      rw [catP_cons]
      generalize casP c s l until_ i = r at *
      by_cases hr : r.2 = 0
      · obtain ⟨f1, f2⟩ := e2 hr
        have hr2 : ¬ (r.2 ≠ 0) := by simp [hr]
        rw [if_neg hr2] at e1
        have hlen : out1.length ≤ 4 * (i + 1) := by have := f2.length_eq; simp at this; omega
        obtain ⟨out2, i1, i2⟩ := ih (i + 1) out1 (by omega) hlen f1
        rw [if_neg hr2]
        generalize catP _ _ = q at *
        refine ⟨out2, ?_, fun h => ?_⟩
        · rw [iter_go e1, i1]
          by_cases hq : q.2 = 0
          · simp [hq]
          · simp [hq]
        · by_cases hq : q.2 = 0
          · obtain ⟨j1, j2⟩ := i2 hq
            refine ⟨j1, j2.trans ?_⟩
            have := f2.append_right q.1
            simpa [hq] using this
          · exfalso; simp [hq] at h
      · rw [if_pos hr] at e1
        exact ⟨[], by rw [iter_out e1]; simp [hr], fun h => by simp [hr] at h⟩
    · have e : ref41_All_l0 l until_ d s c ((i : Int), out) = some (.go (((i + 1 : Nat) : Int), out)) := by
        unfold ref41_All_l0
        simp only
        rw [if_pos (by simp <;> omega), idx_lt hi, w64 (by omega) (by omega)]
        simp [hk]
      rw [iter_go e, if_neg (show ¬ opK l i = true by simp [opK, hi, hk])]
      exact ih (i + 1) out (by omega) (by omega) hso
theorem rAll_sp (c : api_Calendar) (d : api_Directory) (s : List api_Steward) (l : List api_Case) (until_ : Int) : ref41_All c d s l until_ = some (AllP c d s l until_) := by
  unfold ref41_All ref41_check AllP
  rw [refvalid_sp, rocheck_sp, rcheckN_sp]
  simp only [Option.bind_some]
  by_cases h1 : OkC c
  case neg => simp [h1]
  cases h2 : dirOk d with
  | false => simp [h1]
  | true =>
  cases h3 : stewOk d s with
  | false => simp [h1]
  | true =>
  cases h4 : casesOk d l with
  | false => simp [h1]
  | true =>
  simp only [h1, not_true_eq_false, if_true, if_false, ref41_in, Option.bind_some, decide_true, Bool.not_true, Bool.false_eq_true]
  by_cases h5 : until_ < 0 ∨ maxT < until_
  · have h5' : (!(decide (0 ≤ until_) && decide (until_ ≤ 1099511627776))) = true := by
      have hm : maxT = 1099511627776 := rfl
      rw [hm] at h5
      simp; omega
    simp [h5, h5']
  · have h5' : (!(decide (0 ≤ until_) && decide (until_ ≤ 1099511627776))) = false := by
      have hm : maxT = 1099511627776 := rfl
      rw [hm] at h5
      simp; omega
    rw [h5']
    have h4' := h4
    unfold casesOk at h4'
    simp only [Bool.and_eq_true, decide_eq_true_eq] at h4'
    obtain ⟨out, i1, i2⟩ := rAll_loop (c := c) h2 h3 h4 until_ l.length 0 [] (by omega) (by simp) .nil
    rw [List.drop_zero] at i1 i2
    have hz : (iter (ref41_All_l0 l until_ d s c) (0, [])) = iter (ref41_All_l0 l until_ d s c) (((0 : Nat) : Int), []) := rfl
    simp only [bne_self_eq_false, Bool.false_eq_true, if_false, Option.bind_some, h5, Bool.true_eq_false]
    rw [hz, i1]
    unfold allP
    change (some (if (catP (casP c s l until_) (opensP l)).2 ≠ 0 then _ else _)).bind _ = _
    by_cases hr : (catP (casP c s l until_) (opensP l)).2 = 0
    · obtain ⟨j1, j2⟩ := i2 hr
      have hr2 : ¬ (catP (casP c s l until_) (opensP l)).2 ≠ 0 := by simp [hr]
      rw [if_neg hr2, if_neg hr2]
      simp only [Option.bind_some]
      rw [sortN_eq (l' := out) (l := (catP (casP c s l until_) (opensP l)).1) (show out.Perm ([] ++ (catP (casP c s l until_) (opensP l)).1) from j2) j1 fun a ha b hb g1 g2 => cat_uniq h4'.2 c s until_ ha hb g1 g2]
    · rw [if_pos hr, if_pos hr]; rfl
end Go.Vl
