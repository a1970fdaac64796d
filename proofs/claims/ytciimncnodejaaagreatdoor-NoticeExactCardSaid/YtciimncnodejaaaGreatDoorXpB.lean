/- Plain laws of notices: the reference's functions compute what the program's do. Conditions: none. -/
import Derived.Test.YtciimncnodejaaaGreatDoorXpA
set_option linter.unusedSimpArgs false
set_option linter.unusedVariables false
namespace Go.Vl
open Go

theorem rdl_sp (a : Int) : ref41_Deadline a = some (dlP a) := by
  unfold ref41_Deadline dlP
  by_cases h1 : a = 1
  · subst h1; rfl
  by_cases h2 : a = 2
  · subst h2; rfl
  by_cases h3 : a = 3
  · subst h3; rfl
  by_cases h4 : a = 4
  · subst h4; rfl
  simp only [beq_iff_eq, h1, h2, h3, h4, if_false]
  split
  · rfl
  · rw [if_pos (by omega)]
theorem rcheck_body {d : api_Directory} (hk : d.Kinds.length ≤ 24) {l : List api_Case} (hl : l.length ≤ 100) (i : Nat) (hi : i < l.length) {op : List Bool} (ho : op.length = 16) {prev : List Int} (hp : ∀ c : Nat, c < 16 → op[c]? = some (prev.contains (c : Int))) (hlast : 0 ≤ prevT (·.Time) 0 l i) :
    ref41_Check_l0 l d ((i : Int), op) = some (if (decide (prevT (·.Time) 0 l i ≤ l[i].Time) && decide (l[i].Time ≤ maxT) && rightP d prev l[i]) = true then .go (((i + 1 : Nat) : Int), if l[i].Kind = 1 then op.set l[i].Case.toNat true else op) else .out (.inr 43)) := by
  unfold ref41_Check_l0
  simp only
  rw [if_pos (by simp <;> omega), idx_lt hi, w64 (x := (i : Int) + 1) (by omega) (by omega)]
  simp only [Option.bind_some, ref41_in]
  have hprev : (if (decide (0 < (i : Int))) = true then (idx l (IntKind.i64.wrap ((i : Int) - 1))).bind fun x13 => some (decide (l[i].Time < x13.Time)) else some (decide (l[i].Time < 0))) = some (decide (l[i].Time < prevT (·.Time) 0 l i)) := by
    cases i with
    | zero => rfl
    | succ i =>
      rw [if_pos (by simp <;> omega), w64 (by omega) (by omega), show (((i + 1 : Nat) : Int) - 1) = (i : Int) by omega, idx_lt (show i < l.length by omega), prevT_succ (·.Time) 0 l (show i < l.length by omega)]
      rfl
  generalize prevT (·.Time) 0 l i = last at *
  have hb1 : (if (!(decide (0 ≤ l[i].Time) && decide (l[i].Time ≤ 1099511627776))) = true then some true
      else if (decide (0 < (i : Int))) = true then (idx l (IntKind.i64.wrap ((i : Int) - 1))).bind fun x13 => if (decide (l[i].Time < x13.Time)) = true then some true else if (!(decide (0 ≤ l[i].Case) && decide (l[i].Case ≤ 15))) = true then some true else some (!(decide (1 ≤ l[i].Kind) && decide (l[i].Kind ≤ 3)))
      else if (!(decide (0 ≤ l[i].Case) && decide (l[i].Case ≤ 15))) = true then some true else some (!(decide (1 ≤ l[i].Kind) && decide (l[i].Kind ≤ 3)))) =
      some (!(decide (last ≤ l[i].Time) && decide (l[i].Time ≤ 1099511627776) && (decide (0 ≤ l[i].Case) && decide (l[i].Case ≤ 15)) && (decide (1 ≤ l[i].Kind) && decide (l[i].Kind ≤ 3)))) := by
    cases i with
    | zero =>
      simp only [Int.natCast_zero] at hprev ⊢
      rw [if_neg (by decide)] at hprev
      simp only [Option.some.injEq] at hprev
      grind
    | succ i =>
      rw [if_pos (by simp <;> omega), w64 (by omega) (by omega), show (((i + 1 : Nat) : Int) - 1) = (i : Int) by omega, idx_lt (show i < l.length by omega)] at hprev
      rw [if_pos (show decide (0 < ((i + 1 : Nat) : Int)) = true by simp <;> omega), w64 (by omega) (by omega), show (((i + 1 : Nat) : Int) - 1) = (i : Int) by omega, idx_lt (show i < l.length by omega)]
      simp only [Option.bind_some, Option.some.injEq] at hprev ⊢
      grind
  rw [hb1]
  simp only [Option.bind_some]
  generalize l[i] = x at *
  by_cases hc : (decide (last ≤ x.Time) && decide (x.Time ≤ 1099511627776) && (decide (0 ≤ x.Case) && decide (x.Case ≤ 15)) && (decide (1 ≤ x.Kind) && decide (x.Kind ≤ 3))) = true
  · rw [hc, if_neg (by decide)]
    simp only [Bool.and_eq_true, decide_eq_true_eq] at hc
    obtain ⟨⟨⟨h1, h2⟩, h3, h4⟩, h5, h6⟩ := hc
    have hix : idx op x.Case = some (prev.contains x.Case) := by
      unfold idx
      rw [if_pos h3]
      have := hp x.Case.toNat (by omega)
      rw [show ((x.Case.toNat : Nat) : Int) = x.Case by omega] at this
      exact this
    rw [ck_t (show 0 ≤ x.Case ∧ x.Case < 16 by omega), ck_t (show x.Case.toNat < op.length by omega), hix, rexists_sp (by omega)]
    simp only [Option.bind_some]
    have hd : decide (0 < dlP x.Level) = (decide (1 ≤ x.Level) && decide (x.Level ≤ 4)) := by
      rw [Bool.eq_iff_iff]; simp [dl_pos]
    have h2m : x.Time ≤ maxT := h2
    have hcr : (decide (0 ≤ x.Case) && decide (x.Case < 16)) = true := by simp; omega
    by_cases hk1 : x.Kind = 1
    · have hr : rightP d prev x = (!(prev.contains x.Case) && ((decide (1 ≤ x.Level) && decide (x.Level ≤ 4)) && existsB d x.Owner)) := by
        unfold rightP; rw [hcr, if_pos hk1, hd, Bool.true_and]
      rw [hr]
      generalize prev.contains x.Case = b
      generalize existsB d x.Owner = e
      simp only [hk1, beq_self_eq_true, if_true, h1, h2, h2m, decide_true, Bool.true_and]
      cases b <;> cases e <;> simp only [Bool.true_and, Bool.false_and, Bool.not_true, Bool.not_false] <;> grind
    · have hk2 : x.Kind = 2 ∨ x.Kind = 3 := by omega
      have hr : rightP d prev x = (prev.contains x.Case && (decide (x.Level = 0) && decide (x.Owner = 0))) := by
        unfold rightP; rw [hcr, if_neg hk1, if_pos hk2, Bool.true_and]
      rw [hr, if_neg (show ¬ (x.Kind == 1) = true by simpa using hk1), if_neg hk1]
      generalize prev.contains x.Case = b
      simp only [h1, h2, h2m, decide_true, Bool.true_and]
      cases b <;> grind
  · rw [Bool.not_eq_true _ |>.mp hc, if_pos (by rfl)]
    have : ¬ (decide (last ≤ x.Time) && decide (x.Time ≤ maxT) && rightP d prev x) = true := by
      intro h
      apply hc
      unfold rightP at h
      have hm : maxT = 1099511627776 := rfl
      rw [hm] at h
      grind
    rw [if_neg this]
theorem rcheck_loop {d : api_Directory} (hk : d.Kinds.length ≤ 24) {l : List api_Case} (hl : l.length ≤ 100) : ∀ (n i : Nat) (op : List Bool), i + n = l.length → op.length = 16 → (∀ c : Nat, c < 16 → op[c]? = some (((l.take i).map (·.Case)).contains (c : Int))) → 0 ≤ prevT (·.Time) 0 l i →
    iter (ref41_Check_l0 l d) ((i : Int), op) = some (if casesB d ((l.take i).map (·.Case)) (prevT (·.Time) 0 l i) (l.drop i) = true then .inl () else .inr 43) := fun n => by
  induction n with
  | zero =>
    intro i op h _ _ _
    have : i = l.length := by omega
    subst this
    rw [List.drop_length]
    refine iter_out ?_
    unfold ref41_Check_l0
    rw [if_neg (by simp)]; rfl
  | succ n ih =>
    intro i op h ho hp hlast
    have hi : i < l.length := by omega
    have e := rcheck_body hk hl i hi ho hp hlast
    rw [List.drop_eq_getElem_cons hi, casesB]
    by_cases hc : (decide (prevT (·.Time) 0 l i ≤ l[i].Time) && decide (l[i].Time ≤ maxT) && rightP d ((l.take i).map (·.Case)) l[i]) = true
    · rw [if_pos hc] at e
      have et : (l.take (i + 1)).map (·.Case) = (l.take i).map (·.Case) ++ [l[i].Case] := by rw [List.take_succ_eq_append_getElem hi, List.map_append]; rfl
      have hc2 := hc
      simp only [Bool.and_eq_true, decide_eq_true_eq] at hc2
      obtain ⟨⟨h1, _⟩, h3⟩ := hc2
      have hcr : 0 ≤ l[i].Case ∧ l[i].Case < 16 := by unfold rightP at h3; simp only [Bool.and_eq_true, decide_eq_true_eq] at h3; exact h3.1
      rw [iter_go e, ih (i + 1) _ (by omega) (by split <;> simp [ho]) ?_ (by rw [prevT_succ (·.Time) 0 l hi]; omega), et, hc, prevT_succ (·.Time) 0 l hi]
      · simp
      · intro c hcc
        rw [et]
        have hcont : ((l.take i).map (·.Case) ++ [l[i].Case]).contains (c : Int) = (((l.take i).map (·.Case)).contains (c : Int) || decide ((c : Int) = l[i].Case)) := by
          rw [Bool.eq_iff_iff]; simp [List.contains_iff_mem]
        rw [hcont]
        by_cases hk1 : l[i].Kind = 1
        · rw [if_pos hk1, List.getElem?_set]
          by_cases hcc2 : l[i].Case.toNat = c
          · rw [if_pos hcc2, if_pos (by omega), decide_eq_true (by omega), Bool.or_true]
          · rw [if_neg hcc2, hp c hcc, decide_eq_false (by omega), Bool.or_false]
        · rw [if_neg hk1, hp c hcc]
          by_cases hcc2 : (c : Int) = l[i].Case
          · unfold rightP at h3
            rw [if_neg hk1] at h3
            simp only [Bool.and_eq_true] at h3
            have h4 := h3.2
            split at h4
            · simp only [Bool.and_eq_true] at h4
              rw [hcc2, h4.1]; rfl
            · cases h4
          · rw [decide_eq_false hcc2, Bool.or_false]
    · rw [if_neg hc] at e
      rw [iter_out e, Bool.not_eq_true _ |>.mp hc]; rfl
theorem rcheckN_sp (d : api_Directory) (l : List api_Case) : ref41_Check d l = some (if dirOk d = true then (if casesOk d l = true then 0 else 43) else 30) := by
  unfold ref41_Check casesOk
  rw [rvalid_sp]
  simp only [Option.bind_some]
  by_cases h1 : dirOk d = true
  case neg => simp [h1]
  by_cases h2 : l.length ≤ 100
  case neg => simp [h1, h2]; intro h; omega
  rw [h1, if_neg (by decide), if_neg (by simp <;> omega)]
  have := rcheck_loop (dir_len h1) h2 l.length 0 (zerosB 16) (by omega) rfl (fun c hc => by
    unfold zerosB
    rw [List.getElem?_replicate, if_pos hc]; rfl) (Int.le_refl _)
  rw [show ((0 : Int), zerosB 16) = (((0 : Nat) : Int), zerosB 16) from rfl, this]
  simp only [h2, decide_true, Bool.true_and, if_true, List.take_zero, List.map_nil, List.drop_zero, prevT_zero]
  cases casesB d [] 0 l <;> simp
theorem ranswered_sp {l : List api_Case} (hl : l.length ≤ 100) {k : Nat} (hk : k < l.length) (t : Int) : ref41_answered l (k : Int) t = some (ansP (l.drop (k + 1)) l[k].Case t) := by
  unfold ref41_answered
  have hw : Int.toNat (IntKind.i64.wrap ((k : Int) + 1)) = k + 1 := by rw [w64 (by omega) (by omega)]; omega
  rw [w64 (x := (k : Int) + 1) (by omega) (by omega), ck_t (by constructor <;> omega)]
  simp only [Option.bind_some]
  obtain ⟨h1, h2⟩ := iter_findS (body := ref41_answered_l0 l (k : Int) t) (l.drop (k + 1)) (fun x => x.Case == l[k].Case && decide (x.Time ≤ t)) (fun _ _ => .inr true) (.inl ()) (fun i hi => by
    have hi2 := hi
    rw [List.length_drop] at hi2
    unfold ref41_answered_l0
    rw [hw, if_pos (by simp only [decide_eq_true_eq]; omega), idx_lt hi, idx_lt hk, w64 (by omega) (by omega)]
    simp only [Option.bind_some]
    generalize (l.drop (k + 1))[i] = x
    by_cases hc : x.Case = l[k].Case
    · rw [if_pos (by simpa using hc)]
      simp only [Option.bind_some, hc, beq_self_eq_true, Bool.true_and]
      split <;> rfl
    · rw [if_neg (by simpa using hc)]
      simp [hc]) (by
    unfold ref41_answered_l0
    rw [hw, if_neg (by simp)])
  unfold ansP
  cases h : (l.drop (k + 1)).any (fun x => x.Case == l[k].Case && decide (x.Time ≤ t)) with
  | false => rw [h1 h]; rfl
  | true => obtain ⟨i, hi, _, e⟩ := h2 h; rw [e]; rfl
end Go.Vl
