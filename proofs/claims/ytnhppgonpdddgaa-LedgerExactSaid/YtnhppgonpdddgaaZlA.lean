/- Plain laws of ledgers: which are valid, what is believed, the line of a subject. Conditions: none. -/
import Derived.Test.YtnhppgonpdddgaaZm
import Derived.Test.YtnhppgonpdddgaaPlB
set_option linter.unusedSimpArgs false
set_option linter.unusedVariables false
namespace Go.Vl
open Go

/-! Which ledgers are valid -/
def recB (low : Int) (r : api_Record) : Bool := decide (low ≤ r.Known) && (decide (r.Known ≤ 1099511627776) && (decide (0 ≤ r.Since) && (decide (r.Since ≤ 1099511627776) && (decide (0 ≤ r.Subject) && (decide (r.Subject ≤ 15) && (decide (-1000000 ≤ r.Value) && decide (r.Value ≤ 1000000)))))))
theorem recB_iff {low : Int} {r : api_Record} : recB low r = true ↔ low ≤ r.Known ∧ r.Known ≤ 1099511627776 ∧ 0 ≤ r.Since ∧ r.Since ≤ 1099511627776 ∧ 0 ≤ r.Subject ∧ r.Subject ≤ 15 ∧ -1000000 ≤ r.Value ∧ r.Value ≤ 1000000 := by
  simp only [recB, Bool.and_eq_true, decide_eq_true_eq]
def recK (l : List api_Record) : Nat → Int
  | 0 => 0
  | i + 1 => (l.getD i default).Known
def ValidL (l : List api_Record) : Prop := l.length ≤ 100 ∧ ∀ i, (h : i < l.length) → recB (recK l i) l[i] = true
instance (l : List api_Record) : Decidable (ValidL l) := by unfold ValidL; infer_instance
open Classical in
theorem lcheck_loop (l : List api_Record) (hl : l.length ≤ 1000) : ∀ (m i : Nat), i + m = l.length → iter (ledger_Check_l0 l) (recK l i, (i : Int)) = some (if (∀ j, i ≤ j → (h : j < l.length) → recB (recK l j) l[j] = true) then .inl () else .inr 44) := fun m => by
  induction m with
  | zero =>
    intro i h
    rw [if_pos (fun j h1 h2 => by omega)]
    refine iter_out ?_
    unfold ledger_Check_l0
    rw [if_neg (by simp; omega)]
  | succ m ih =>
    intro i h
    have hi : i < l.length := by omega
    have hstep : ledger_Check_l0 l (recK l i, (i : Int)) = some (if recB (recK l i) l[i] = true then .go (recK l (i + 1), ((i + 1 : Nat) : Int)) else .out (.inr 44)) := by
      unfold ledger_Check_l0 ledger_among
      simp only
      rw [if_pos (by simp; omega), idx_lt hi, w64 (by omega) (by omega)]
      simp only [Option.bind_some]
      have hk : recK l (i + 1) = l[i].Known := by simp [recK, List.getD, hi]
      rw [hk]
      generalize recK l i = low
      generalize l[i] = r
      unfold recB
      generalize decide (low ≤ r.Known) = b1
      generalize decide (r.Known ≤ 1099511627776) = b2
      generalize decide (0 ≤ r.Since) = b3
      generalize decide (r.Since ≤ 1099511627776) = b4
      generalize decide (0 ≤ r.Subject) = b5
      generalize decide (r.Subject ≤ 15) = b6
      generalize decide (-1000000 ≤ r.Value) = b7
      generalize decide (r.Value ≤ 1000000) = b8
      cases b1 <;> cases b2 <;> (try rfl) <;> cases b3 <;> cases b4 <;> (try rfl) <;> cases b5 <;> cases b6 <;> (try rfl) <;> cases b7 <;> cases b8 <;> rfl
    by_cases hr : recB (recK l i) l[i] = true
    · rw [if_pos hr] at hstep
      rw [iter_go hstep, ih (i + 1) (by omega)]
      congr 1
      have : (∀ j, i + 1 ≤ j → (h : j < l.length) → recB (recK l j) l[j] = true) ↔ (∀ j, i ≤ j → (h : j < l.length) → recB (recK l j) l[j] = true) := ⟨fun g j h1 h2 => by
        rcases Nat.lt_or_eq_of_le h1 with h3 | h3
        · exact g j h3 h2
        · subst h3; exact hr, fun g j h1 h2 => g j (by omega) h2⟩
      simp only [this]
    · rw [if_neg hr] at hstep
      rw [iter_out hstep, if_neg (fun g => hr (g i (Nat.le_refl i) hi))]
open Classical in
theorem lcheck_sp (l : List api_Record) : ledger_Check l = some (if ValidL l then 0 else 44) := by
  unfold ledger_Check
  by_cases h : l.length ≤ 100
  · rw [if_neg (by simp; omega)]
    have := lcheck_loop l (by omega) l.length 0 (by omega)
    rw [show ((0 : Int), (0 : Int)) = (recK l 0, ((0 : Nat) : Int)) from rfl, this]
    simp only [Option.bind_some]
    by_cases g : ∀ j, 0 ≤ j → (h : j < l.length) → recB (recK l j) l[j] = true
    · rw [if_pos g, if_pos ⟨h, fun j hj => g j (Nat.zero_le j) hj⟩]
    · rw [if_neg g, if_neg (fun q => g fun j _ hj => q.2 j hj)]
  · rw [if_pos (by simp; omega), if_neg (fun q => h q.1)]
theorem valid_at {l : List api_Record} (h : ValidL l) {i : Nat} (hi : i < l.length) : 0 ≤ l[i].Known ∧ l[i].Known ≤ 1099511627776 ∧ 0 ≤ l[i].Since ∧ l[i].Since ≤ 1099511627776 := by
  induction i with
  | zero =>
    have := recB_iff.1 (h.2 0 hi)
    exact ⟨this.1, this.2.1, this.2.2.1, this.2.2.2.1⟩
  | succ i ih =>
    have := recB_iff.1 (h.2 (i + 1) hi)
    have h2 := ih (by omega)
    have hk : recK l (i + 1) = l[i].Known := by simp [recK, List.getD, show i < l.length by omega]
    rw [hk] at this
    exact ⟨by omega, this.2.1, this.2.2.1, this.2.2.2.1⟩
theorem valid_mono {l : List api_Record} (h : ValidL l) : ∀ (d i : Nat) (hi : i + d < l.length), l[i].Known ≤ l[i + d].Known := fun d => by
  induction d with
  | zero => intro i hi; exact Int.le_refl _
  | succ d ih =>
    intro i hi
    have h1 := ih i (by omega)
    have := (recB_iff.1 (h.2 (i + d + 1) (by omega))).1
    have hk : recK l (i + d + 1) = l[i + d].Known := by simp [recK, List.getD, show i + d < l.length by omega]
    rw [hk] at this
    exact Int.le_trans h1 this
/-! What is believed -/
def selB (k s t : Int) (r : api_Record) : Bool := decide (r.Known ≤ k) && (r.Subject == s && decide (r.Since ≤ t))
def bestF (l : List api_Record) (k s t : Int) : Nat → Int
  | 0 => -1
  | i + 1 => if selB k s t (l.getD i default) = true ∧ (bestF l k s t i < 0 ∨ (l.getD (bestF l k s t i).toNat default).Since ≤ (l.getD i default).Since) then (i : Int) else bestF l k s t i
theorem bestF_bd (l : List api_Record) (k s t : Int) : ∀ n, -1 ≤ bestF l k s t n ∧ bestF l k s t n < n := fun n => by
  induction n with
  | zero => exact ⟨by simp [bestF], by simp [bestF]⟩
  | succ n ih => unfold bestF; split <;> omega
abbrev bel (l : List api_Record) (k s t : Int) : Int := bestF l k s t l.length
theorem believe_sp {l : List api_Record} (hl : l.length ≤ 1000) (k s t : Int) : ledger_believe l k s t = some (bel l k s t) := by
  have key : ∀ (m i : Nat), i + m = l.length → iter (ledger_believe_l0 l k s t) (bestF l k s t i, (i : Int)) = some (bel l k s t) := fun m => by
    induction m with
    | zero =>
      intro i h
      have : i = l.length := by omega
      subst this
      refine iter_out ?_
      unfold ledger_believe_l0
      rw [if_neg (by simp)]
    | succ m ih =>
      intro i h
      have hi : i < l.length := by omega
      obtain ⟨b1, b2⟩ := bestF_bd l k s t i
      have hg : l.getD i default = l[i] := by simp [List.getD, hi]
      have hgo : ledger_believe_l0 l k s t (bestF l k s t i, (i : Int)) = some (.go (bestF l k s t (i + 1), ((i + 1 : Nat) : Int))) := by
        unfold ledger_believe_l0
        simp only
        rw [if_pos (by simp; omega), idx_lt hi, w64 (by omega) (by omega)]
        simp only [Option.bind_some, bestF, hg]
        unfold selB
        by_cases h1 : l[i].Known ≤ k
        · by_cases h2 : l[i].Subject = s
          · by_cases h3 : l[i].Since ≤ t
            · by_cases h4 : bestF l k s t i = -1
              · simp [h1, h2, h3, h4]
              · have h5 : (bestF l k s t i).toNat < l.length := by omega
                have h6 : l.getD (bestF l k s t i).toNat default = l[(bestF l k s t i).toNat] := by simp [List.getD, h5]
                rw [idx_toNat (by omega) h5, h6]
                by_cases h7 : l[(bestF l k s t i).toNat].Since ≤ l[i].Since
                · simp [h1, h2, h3, h4, h7]
                · have h8 : ¬ bestF l k s t i < 0 := by omega
                  simp [h1, h2, h3, h4, h7, h8]
            · simp [h1, h2, h3]
          · simp [h1, h2]
        · simp [h1]
      rw [iter_go hgo]
      exact ih (i + 1) (by omega)
  unfold ledger_believe
  rw [show ((-1 : Int), (0 : Int)) = (bestF l k s t 0, ((0 : Nat) : Int)) from rfl, key l.length 0 (by omega)]
  rfl
/-- the record that speaks: the last of those of the greatest Since -/
theorem bestF_spec (l : List api_Record) (k s t : Int) : ∀ n, n ≤ l.length → (bestF l k s t n = -1 ∧ ∀ j (h : j < l.length), j < n → selB k s t l[j] = false) ∨
    ∃ (i : Nat) (hi : i < l.length), i < n ∧ bestF l k s t n = (i : Int) ∧ selB k s t l[i] = true ∧ ∀ j (h : j < l.length), j < n → selB k s t l[j] = true → l[j].Since < l[i].Since ∨ (l[j].Since = l[i].Since ∧ j ≤ i) := fun n => by
  induction n with
  | zero => intro _; exact .inl ⟨rfl, fun j _ h => by omega⟩
  | succ n ih =>
    intro hn
    have hn' : n < l.length := by omega
    have hg : l.getD n default = l[n] := by simp [List.getD, hn']
    unfold bestF
    rw [hg]
    rcases ih (by omega) with ⟨h1, h2⟩ | ⟨i, hi, h0, h1, h2, h3⟩
    · rw [h1]
      by_cases hs : selB k s t l[n] = true
      · rw [if_pos ⟨hs, .inl (by decide)⟩]
        refine .inr ⟨n, hn', by omega, rfl, hs, fun j hj hjn hsj => ?_⟩
        by_cases e : j = n
        · subst e; exact .inr ⟨rfl, Nat.le_refl _⟩
        · rw [h2 j hj (by omega)] at hsj; cases hsj
      · rw [if_neg (fun q => hs q.1)]
        refine .inl ⟨rfl, fun j hj hjn => ?_⟩
        by_cases e : j = n
        · subst e; exact Bool.eq_false_iff.2 hs
        · exact h2 j hj (by omega)
    · rw [h1]
      have hgi : l.getD ((i : Int)).toNat default = l[i] := by simp [List.getD, hi]
      rw [hgi]
      by_cases hc : selB k s t l[n] = true ∧ ((i : Int) < 0 ∨ l[i].Since ≤ l[n].Since)
      · rw [if_pos hc]
        refine .inr ⟨n, hn', by omega, rfl, hc.1, fun j hj hjn hsj => ?_⟩
        have hle : l[i].Since ≤ l[n].Since := hc.2.resolve_left (by omega)
        by_cases e : j = n
        · subst e; exact .inr ⟨rfl, Nat.le_refl _⟩
        · rcases h3 j hj (by omega) hsj with h | h
          · left; omega
          · by_cases e2 : l[i].Since = l[n].Since
            · right; exact ⟨by omega, by omega⟩
            · left; omega
      · rw [if_neg hc]
        refine .inr ⟨i, hi, by omega, rfl, h2, fun j hj hjn hsj => ?_⟩
        by_cases e : j = n
        · subst e
          left
          apply Int.lt_of_not_ge
          intro hge
          exact hc ⟨hsj, .inr hge⟩
        · exact h3 j hj (by omega) hsj
theorem bel_none {l : List api_Record} {k s t : Int} (h : bel l k s t < 0) : bel l k s t = -1 ∧ ∀ r ∈ l, selB k s t r = false := by
  rcases bestF_spec l k s t l.length (Nat.le_refl _) with ⟨h1, h2⟩ | ⟨i, _, _, h1, _⟩
  · refine ⟨h1, fun r hr => ?_⟩
    obtain ⟨j, hj, rfl⟩ := List.getElem_of_mem hr
    exact h2 j hj hj
  · unfold bel at h; omega
theorem bel_some {l : List api_Record} {k s t : Int} (h : ¬ bel l k s t < 0) : ∃ (i : Nat) (hi : i < l.length), bel l k s t = (i : Int) ∧ selB k s t l[i] = true ∧ ∀ j (hj : j < l.length), selB k s t l[j] = true → l[j].Since < l[i].Since ∨ (l[j].Since = l[i].Since ∧ j ≤ i) := by
  rcases bestF_spec l k s t l.length (Nat.le_refl _) with ⟨h1, _⟩ | ⟨i, hi, _, h1, h2, h3⟩
  · unfold bel at h; omega
  · exact ⟨i, hi, h1, h2, fun j hj => h3 j hj hj⟩
theorem bel_is {l : List api_Record} {k s t : Int} {i : Nat} (hi : i < l.length) (h1 : selB k s t l[i] = true) (h2 : ∀ j (hj : j < l.length), selB k s t l[j] = true → l[j].Since < l[i].Since ∨ (l[j].Since = l[i].Since ∧ j ≤ i)) : bel l k s t = (i : Int) := by
  by_cases h : bel l k s t < 0
  · rw [(bel_none h).2 _ (List.getElem_mem hi)] at h1; cases h1
  · obtain ⟨j, hj, e, g1, g2⟩ := bel_some h
    rw [e]
    have a := h2 j hj g1
    have b := g2 i hi h1
    omega
theorem selB_iff {k s t : Int} {r : api_Record} : selB k s t r = true ↔ r.Known ≤ k ∧ r.Subject = s ∧ r.Since ≤ t := by
  simp [selB]
/-! The line -/
def inLine (l : List api_Record) (k s : Int) (i : Nat) : Bool := bel l k s (l.getD i default).Since == (i : Int)
def lineF (l : List api_Record) (k s : Int) : List api_Record := ((List.range l.length).filter (inLine l k s)).map fun i => l.getD i default
def lineS (l : List api_Record) (k s : Int) : List api_Record := (lineF l k s).mergeSort fun x y => decide (x.Since ≤ y.Since)
theorem mem_lineF {l : List api_Record} {k s : Int} {r : api_Record} : r ∈ lineF l k s ↔ ∃ (i : Nat) (hi : i < l.length), r = l[i] ∧ bel l k s l[i].Since = (i : Int) := by
  unfold lineF
  simp only [List.mem_map, List.mem_filter, List.mem_range]
  constructor
  · rintro ⟨i, ⟨hi, h⟩, rfl⟩
    have hg : l.getD i default = l[i] := by simp [List.getD, hi]
    unfold inLine at h
    rw [hg] at h ⊢
    exact ⟨i, hi, rfl, by simpa using h⟩
  · rintro ⟨i, hi, rfl, h⟩
    have hg : l.getD i default = l[i] := by simp [List.getD, hi]
    exact ⟨i, ⟨hi, by unfold inLine; rw [hg]; simpa using h⟩, hg⟩
theorem line_sel {l : List api_Record} {k s : Int} {i : Nat} (hi : i < l.length) (h : bel l k s l[i].Since = (i : Int)) : l[i].Known ≤ k ∧ l[i].Subject = s := by
  obtain ⟨j, hj, e, g1, _⟩ := bel_some (l := l) (k := k) (s := s) (t := l[i].Since) (by rw [h]; omega)
  rw [h] at e
  have : i = j := by omega
  subst this
  have := selB_iff.1 g1
  exact ⟨this.1, this.2.1⟩
theorem line_inj {l : List api_Record} {k s : Int} {x y : api_Record} (hx : x ∈ lineF l k s) (hy : y ∈ lineF l k s) (h : x.Since = y.Since) : x = y := by
  obtain ⟨i, hi, rfl, h1⟩ := mem_lineF.1 hx
  obtain ⟨j, hj, rfl, h2⟩ := mem_lineF.1 hy
  rw [h, h2] at h1
  have : i = j := by omega
  subst this; rfl
theorem lineF_nodup {l : List api_Record} {k s : Int} : (lineF l k s).Pairwise fun x y => x.Since ≠ y.Since := by
  unfold lineF
  rw [List.pairwise_map]
  refine List.Pairwise.imp_of_mem (R := fun a b => a < b) (fun {a b} ha hb hab e => ?_) (List.Pairwise.filter _ List.pairwise_lt_range)
  simp only [List.mem_filter, List.mem_range, inLine, beq_iff_eq] at ha hb
  rw [e, hb.2] at ha
  omega
theorem lineS_asc (l : List api_Record) (k s : Int) : (lineS l k s).Pairwise fun x y => x.Since < y.Since := by
  have h1 : (lineS l k s).Pairwise fun x y => (decide (x.Since ≤ y.Since)) = true := List.pairwise_mergeSort (fun a b c => by simp only [decide_eq_true_eq]; omega) (fun a b => by simp only [Bool.or_eq_true, decide_eq_true_eq]; omega) _
  have h2 : (lineS l k s).Pairwise fun x y => x.Since ≠ y.Since := (List.Perm.pairwise_iff (fun {a b} h => fun e => h e.symm) (List.mergeSort_perm _ _)).2 lineF_nodup
  exact (h1.and h2).imp fun {a b} ⟨p, q⟩ => by simp only [decide_eq_true_eq] at p; omega
theorem mem_lineS {l : List api_Record} {k s : Int} {r : api_Record} : r ∈ lineS l k s ↔ ∃ (i : Nat) (hi : i < l.length), r = l[i] ∧ bel l k s l[i].Since = (i : Int) := by
  unfold lineS
  rw [List.mem_mergeSort, mem_lineF]
theorem line_loop {l : List api_Record} (hl : l.length ≤ 1000) (k s : Int) : iter (ledger_Line_l0 l k s) (0, []) = some (lineF l k s) := by
  have key : ∀ (m i : Nat), i + m = l.length → iter (ledger_Line_l0 l k s) ((i : Int), ((List.range i).filter (inLine l k s)).map fun i => l.getD i default) = some (lineF l k s) := fun m => by
    induction m with
    | zero =>
      intro i h
      have : i = l.length := by omega
      subst this
      refine iter_out ?_
      unfold ledger_Line_l0
      rw [if_neg (by simp)]
      rfl
    | succ m ih =>
      intro i h
      have hi : i < l.length := by omega
      have hg : l.getD i default = l[i] := by simp [List.getD, hi]
      have hlen : (((List.range i).filter (inLine l k s)).map fun i => l.getD i default).length ≤ i := by
        rw [List.length_map]
        exact Nat.le_trans (List.length_filter_le _ _) (by simp)
      have hgo : ledger_Line_l0 l k s ((i : Int), ((List.range i).filter (inLine l k s)).map fun i => l.getD i default) = some (.go (((i + 1 : Nat) : Int), ((List.range (i + 1)).filter (inLine l k s)).map fun i => l.getD i default)) := by
        unfold ledger_Line_l0
        simp only
        rw [if_pos (by simp; omega), idx_lt hi]
        simp only [Option.bind_some, believe_sp hl]
        rw [w64 (by omega) (by omega), List.range_succ, List.filter_append, List.map_append]
        have hin : inLine l k s i = (bel l k s l[i].Since == (i : Int)) := by unfold inLine; rw [hg]
        by_cases hc : (bel l k s l[i].Since == (i : Int)) = true
        · rw [if_pos hc, ck_t (by rw [List.length_singleton]; omega)]
          rw [List.filter_cons, hin, if_pos hc]
          simp only [Option.bind_some, List.filter_nil, List.map_cons, List.map_nil, hg]
          rfl
        · rw [if_neg hc, List.filter_cons, hin, if_neg hc]
          simp
      rw [iter_go hgo]
      exact ih (i + 1) (by omega)
  exact key l.length 0 (by omega)
open Classical in
theorem line_sp {l : List api_Record} (k s : Int) : ledger_Line l k s = some (if ValidL l then (lineS l k s, 0) else ([], 44)) := by
  unfold ledger_Line
  rw [lcheck_sp]
  simp only [Option.bind_some]
  by_cases h : ValidL l
  · have hl := h.1
    rw [if_pos h, if_pos h, if_neg (by simp), line_loop (by omega)]
    simp only [Option.bind_some]
    unfold slices_SortFunc_api_Record_vec0_at_ledger_Line_1
    have hlen : (lineF l k s).length ≤ l.length := by
      unfold lineF
      rw [List.length_map]
      exact Nat.le_trans (List.length_filter_le _ _) (by simp)
    rw [ck_t ⟨by omega, fun x hx => by
      obtain ⟨i, hi, rfl, _⟩ := mem_lineF.1 hx
      have := valid_at h hi
      omega, fun x hx y hy e => line_inj hx hy e⟩]
    rfl
  · rw [if_neg h, if_neg h, if_pos (by simp)]
theorem Believe_sp {l : List api_Record} (k s t : Int) : ledger_Believe l k s t = some (if ValidL l then (if bel l k s t < 0 then (⟨0, -1⟩, false) else (⟨(l.getD (bel l k s t).toNat default).Value, bel l k s t⟩, true)) else (⟨0, -1⟩, false)) := by
  unfold ledger_Believe
  rw [lcheck_sp]
  simp only [Option.bind_some]
  by_cases h : ValidL l
  · have hl := h.1
    rw [if_pos h, if_pos h, if_neg (by simp), believe_sp (by omega)]
    simp only [Option.bind_some]
    obtain ⟨b1, b2⟩ := bestF_bd l k s t l.length
    by_cases hb : bel l k s t < 0
    · have := (bel_none hb).1
      rw [if_pos hb, if_pos (by rw [this]; rfl)]
    · have h5 : (bel l k s t).toNat < l.length := by unfold bel at hb ⊢; omega
      have h6 : l.getD (bel l k s t).toNat default = l[(bel l k s t).toNat] := by simp [List.getD, h5]
      rw [if_neg hb, if_neg (by simp; omega), idx_toNat (by omega) h5, h6]
      rfl
  · rw [if_neg h, if_neg h, if_pos (by simp)]
end Go.Vl
