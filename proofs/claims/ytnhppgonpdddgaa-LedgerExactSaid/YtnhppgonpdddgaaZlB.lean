/- The law LedgerLine. Conditions: none. -/
import Derived.Test.YtnhppgonpdddgaaZlA
import Derived.Test.YtnhppgonpdddgaaZeA
set_option linter.unusedSimpArgs false
set_option linter.unusedVariables false
namespace Go.Vl
open Go

theorem next_ex {m : make_Tape} (h : 0 ≤ m.at_ ∧ m.at_ ≤ m.L.length ∧ m.L.length ≤ 1000000) {n : Int} (hn : 0 < n) : ∃ v m', make_Tape_Next m n = some (v, m') ∧ 0 ≤ v ∧ v < n ∧ (0 ≤ m'.at_ ∧ m'.at_ ≤ m'.L.length ∧ m'.L.length ≤ 1000000) := by
  obtain ⟨h1, h2, h3⟩ := h
  unfold make_Tape_Next
  by_cases hb : (m.L.length : Int) ≤ m.at_
  · rw [if_pos (by simpa using hb)]
    exact ⟨0, m, rfl, by omega, hn, h1, h2, h3⟩
  · rw [if_neg (by simpa using hb), idx_toNat h1 (by omega)]
    simp only [Option.bind_some, ck_t (show n ≠ 0 by omega), bAnd16]
    rw [Int.tmod_eq_emod_of_nonneg (Int.emod_nonneg _ (by omega)), w64 (by omega) (by omega)]
    exact ⟨_, _, rfl, Int.emod_nonneg _ (by omega), Int.emod_lt_of_pos _ hn, by simp; omega, by simp; omega, h3⟩
abbrev TOk (m : make_Tape) : Prop := 0 ≤ m.at_ ∧ m.at_ ≤ m.L.length ∧ m.L.length ≤ 1000000
theorem between_ex {m : make_Tape} (h : TOk m) {a b : Int} (hab : a ≤ b) (ha : -1000000 ≤ a) (hb : b ≤ 1000000) : ∃ v m', make_Tape_Between m a b = some (v, m') ∧ a ≤ v ∧ v ≤ b ∧ TOk m' := by
  unfold make_Tape_Between
  rw [w64 (x := b - a) (by omega) (by omega), w64 (x := b - a + 1) (by omega) (by omega)]
  obtain ⟨v, m', h1, h2, h3, h4⟩ := next_ex h (n := b - a + 1) (by omega)
  rw [h1]
  simp only [Option.bind_some]
  rw [w64 (by omega) (by omega)]
  exact ⟨_, _, rfl, by omega, by omega, h4⟩

theorem clock_ex {m : make_Tape} (h : TOk m) {n : Nat} (hn : n ≤ 1000) : ∃ c m', make_Clock m (n : Int) = some (c, m') ∧ c.length = n ∧ (∀ i (h : i < c.length), 0 ≤ c[i] ∧ c[i] ≤ 100000) ∧ (∀ i (h : i + 1 < c.length), c[i] ≤ c[i + 1]) ∧ TOk m' := by
  unfold make_Clock
  obtain ⟨v, m1, e1, v0, v1, t1⟩ := next_ex h (n := 4) (by omega)
  rw [e1]
  simp only [Option.bind_some]
  have key : ∀ (mm i : Nat) (t : Int) (m1 : make_Tape) (c : List Int), i + mm = n → TOk m1 → c.length = i → 0 ≤ t → t ≤ 10 + 3 * (i : Int) → (∀ j (h : j < c.length), 0 ≤ c[j] ∧ c[j] ≤ t) → (∀ j (h : j + 1 < c.length), c[j] ≤ c[j + 1]) →
      ∃ c' m', iter (make_Clock_l0 (n : Int)) (t, (i : Int), m1.L, m1.at_, c) = some (m'.L, m'.at_, c') ∧ TOk m' ∧ c'.length = n ∧ (∀ j (h : j < c'.length), 0 ≤ c'[j] ∧ c'[j] ≤ 100000) ∧ (∀ j (h : j + 1 < c'.length), c'[j] ≤ c'[j + 1]) := fun mm => by
    induction mm with
    | zero =>
      intro i t m1 c h ht hc h0 h1 h2 h3
      refine ⟨c, m1, iter_out ?_, ht, by omega, fun j hj => ?_, h3⟩
      · unfold make_Clock_l0
        rw [if_neg (by simp; omega)]
      · have := h2 j hj; omega
    | succ mm ih =>
      intro i t m1 c h ht hc h0 h1 h2 h3
      obtain ⟨v, m2, e2, w0, w1, t2⟩ := next_ex ht (n := 3) (by omega)
      have hgo : make_Clock_l0 (n : Int) (t, (i : Int), m1.L, m1.at_, c) = some (.go (t + v, ((i + 1 : Nat) : Int), m2.L, m2.at_, c ++ [t + v])) := by
        unfold make_Clock_l0
        simp only
        rw [if_pos (by simp; omega), show (⟨m1.L, m1.at_⟩ : make_Tape) = m1 from rfl, e2]
        simp only [Option.bind_some]
        rw [ck_t (by simp; omega), w64 (x := t + v) (by omega) (by omega), w64 (by omega) (by omega)]
        rfl
      rw [iter_go hgo]
      refine ih (i + 1) (t + v) m2 (c ++ [t + v]) (by omega) t2 (by simp [hc]) (by omega) (by push_cast; omega) (fun j hj => ?_) (fun j hj => ?_)
      · by_cases hjc : j < c.length
        · rw [List.getElem_append_left hjc]; have := h2 j hjc; omega
        · rw [List.getElem_append_right (by omega)]; simp; omega
      · rw [List.length_append, List.length_singleton] at hj
        by_cases hjc : j + 1 < c.length
        · rw [List.getElem_append_left (by omega), List.getElem_append_left hjc]; exact h3 j hjc
        · rw [List.getElem_append_left (by omega), List.getElem_append_right (by omega)]
          have := h2 j (by omega)
          simp; omega
  obtain ⟨c, m', g1, g2, g3, g4, g5⟩ := key n 0 v m1 [] (by omega) t1 rfl (by omega) (by omega) (fun j h => by simp at h) (fun j h => by simp at h)
  rw [show ((v, (0 : Int), m1.L, m1.at_, ([] : List Int)) : Int × Int × List Int × Int × List Int) = (v, ((0 : Nat) : Int), m1.L, m1.at_, []) from rfl, g1]
  exact ⟨c, m', rfl, g3, g4, g5, g2⟩
theorem make_Ledger_ex {m : make_Tape} (h : TOk m) : ∃ l m', make_Ledger m = some (l, m') ∧ ValidL l ∧ l.length ≤ 11 ∧ TOk m' := by
  unfold make_Ledger
  obtain ⟨n, m1, e1, n0, n1, t1⟩ := next_ex h (n := 12) (by omega)
  rw [e1]
  simp only [Option.bind_some]
  obtain ⟨c, m2, e2, c1, c2, c3, t2⟩ := clock_ex t1 (n := n.toNat) (by omega)
  rw [show n = ((n.toNat : Nat) : Int) by omega, e2]
  simp only [Option.bind_some]
  have key : ∀ (mm i : Nat) (m1 : make_Tape) (l : List api_Record), i + mm = c.length → TOk m1 → l.length = i → (∀ j (h : j < l.length) (h' : j < c.length), l[j].Known = c[j] ∧ 0 ≤ l[j].Since ∧ l[j].Since ≤ 11 ∧ 0 ≤ l[j].Subject ∧ l[j].Subject ≤ 1 ∧ -2 ≤ l[j].Value ∧ l[j].Value ≤ 4) →
      ∃ l' m', iter (make_Ledger_l0 (c, m2)) ((i : Int), m1.L, m1.at_, l) = some (m'.L, m'.at_, l') ∧ TOk m' ∧ l'.length = c.length ∧ (∀ j (h : j < l'.length) (h' : j < c.length), l'[j].Known = c[j] ∧ 0 ≤ l'[j].Since ∧ l'[j].Since ≤ 11 ∧ 0 ≤ l'[j].Subject ∧ l'[j].Subject ≤ 1 ∧ -2 ≤ l'[j].Value ∧ l'[j].Value ≤ 4) := fun mm => by
    induction mm with
    | zero =>
      intro i m1 l h ht hl h2
      refine ⟨l, m1, iter_out ?_, ht, by omega, h2⟩
      unfold make_Ledger_l0
      rw [if_neg (by simp; omega)]
    | succ mm ih =>
      intro i m1 l h ht hl h2
      have hi : i < c.length := by omega
      obtain ⟨a, m3, f1, a0, a1, t3⟩ := next_ex ht (n := 12) (by omega)
      obtain ⟨b, m4, f2, b0, b1, t4⟩ := next_ex t3 (n := 2) (by omega)
      obtain ⟨d, m5, f3, d0, d1, t5⟩ := between_ex t4 (a := -2) (b := 4) (by omega) (by omega) (by omega)
      have hgo : make_Ledger_l0 (c, m2) ((i : Int), m1.L, m1.at_, l) = some (.go (((i + 1 : Nat) : Int), m5.L, m5.at_, l ++ [⟨c[i], a, b, d⟩])) := by
        unfold make_Ledger_l0
        simp only
        rw [if_pos (by simp; omega), idx_lt hi, show (⟨m1.L, m1.at_⟩ : make_Tape) = m1 from rfl, f1]
        simp only [Option.bind_some]
        rw [f2]
        simp only [Option.bind_some]
        rw [f3]
        simp only [Option.bind_some]
        rw [ck_t (by simp; omega), w64 (by omega) (by omega)]
        rfl
      rw [iter_go hgo]
      refine ih (i + 1) m5 _ (by omega) t5 (by simp [hl]) (fun j hj hjc => ?_)
      by_cases hjl : j < l.length
      · rw [List.getElem_append_left hjl]; exact h2 j hjl hjc
      · have : j = i := by rw [List.length_append, List.length_singleton] at hj; omega
        subst this
        rw [List.getElem_append_right (by omega)]
        simp
        omega
  obtain ⟨l, m', g1, g2, g3, g4⟩ := key c.length 0 m2 [] (by omega) t2 rfl (fun j h => by simp at h)
  rw [show (((0 : Int), m2.L, m2.at_, ([] : List api_Record)) : Int × List Int × Int × List api_Record) = (((0 : Nat) : Int), m2.L, m2.at_, []) from rfl, g1]
  refine ⟨l, m', rfl, ⟨by omega, fun i hi => ?_⟩, by omega, g2⟩
  have hic : i < c.length := by omega
  obtain ⟨q1, q2⟩ := g4 i hi hic
  have q3 := c2 i hic
  rw [recB_iff]
  have hlow : recK l i ≤ l[i].Known := by
    cases i with
    | zero => show 0 ≤ _; omega
    | succ i =>
      have hk : recK l (i + 1) = l[i].Known := by simp [recK, List.getD, show i < l.length by omega]
      have := c3 i hic
      have := (g4 i (by omega) (by omega)).1
      omega
  omega
theorem awake42 : law42_awake = some true := by
  have hv : ValidL [(⟨5, 3, 0, 1⟩ : api_Record), (⟨9, 2, 0, 7⟩ : api_Record)] := by decide
  have b1 : bel [(⟨5, 3, 0, 1⟩ : api_Record), (⟨9, 2, 0, 7⟩ : api_Record)] 9 0 4 = 0 := by decide
  have b2 : bel [(⟨5, 3, 0, 1⟩ : api_Record), (⟨9, 2, 0, 7⟩ : api_Record)] 9 0 2 = 1 := by decide
  have b3 : bel [(⟨5, 3, 0, 1⟩ : api_Record), (⟨9, 2, 0, 7⟩ : api_Record)] 5 0 2 = -1 := by decide
  unfold law42_awake
  rw [Believe_sp, Believe_sp, Believe_sp, lcheck_sp, if_pos hv, if_pos hv, if_pos hv, if_pos hv, b1, b2, b3]
  rfl
/-! The last record of the line that is not behind a time -/
def lastT (t : Int) (l : List api_Record) (a : Bool × api_Record) : Bool × api_Record := l.foldl (fun a r => if r.Since ≤ t then (true, r) else a) a
theorem lastT_none {t : Int} : ∀ {l : List api_Record} {a : Bool × api_Record}, (∀ r ∈ l, ¬ r.Since ≤ t) → lastT t l a = a
  | [], _, _ => rfl
  | x :: l, a, h => by
    have : lastT t (x :: l) a = lastT t l (if x.Since ≤ t then (true, x) else a) := rfl
    rw [this, if_neg (h x (List.mem_cons_self ..))]
    exact lastT_none fun r hr => h r (List.mem_cons_of_mem _ hr)
theorem lastT_some {t : Int} {b : api_Record} (hb : b.Since ≤ t) : ∀ {l : List api_Record} {a : Bool × api_Record}, l.Pairwise (fun x y => x.Since < y.Since) → b ∈ l → (∀ r ∈ l, r.Since ≤ t → r.Since ≤ b.Since) → lastT t l a = (true, b)
  | [], _, _, h, _ => by cases h
  | x :: l, a, hp, hm, h => by
    have e : lastT t (x :: l) a = lastT t l (if x.Since ≤ t then (true, x) else a) := rfl
    obtain ⟨p1, p2⟩ := List.pairwise_cons.1 hp
    rw [e]
    rcases List.mem_cons.1 hm with rfl | hm
    · rw [if_pos hb]
      exact lastT_none fun r hr hc => by
        have := p1 r hr
        have := h r (List.mem_cons_of_mem _ hr) hc
        omega
    · exact lastT_some hb p2 hm fun r hr => h r (List.mem_cons_of_mem _ hr)
theorem line_last {l : List api_Record} {k s t : Int} : lastT t (lineS l k s) (false, ⟨0, 0, 0, 0⟩) = if bel l k s t < 0 then (false, ⟨0, 0, 0, 0⟩) else (true, l.getD (bel l k s t).toNat default) := by
  by_cases h : bel l k s t < 0
  · rw [if_pos h]
    have h2 := (bel_none h).2
    refine lastT_none fun r hr hc => ?_
    obtain ⟨i, hi, rfl, hb⟩ := mem_lineS.1 hr
    obtain ⟨g1, g2⟩ := line_sel hi hb
    have := h2 _ (List.getElem_mem hi)
    rw [selB_iff.2 ⟨g1, g2, hc⟩] at this
    cases this
  · rw [if_neg h]
    obtain ⟨i, hi, e, g1, g2⟩ := bel_some h
    obtain ⟨s1, s2, s3⟩ := selB_iff.1 g1
    rw [e]
    have hg : l.getD ((i : Int)).toNat default = l[i] := by simp [List.getD, hi]
    rw [hg]
    refine lastT_some s3 (lineS_asc l k s) (mem_lineS.2 ⟨i, hi, rfl, bel_is hi (selB_iff.2 ⟨s1, s2, Int.le_refl _⟩) fun j hj hsj => ?_⟩) fun r hr hc => ?_
    · obtain ⟨t1, t2, t3⟩ := selB_iff.1 hsj
      exact g2 j hj (selB_iff.2 ⟨t1, t2, by omega⟩)
    · obtain ⟨j, hj, rfl, hb⟩ := mem_lineS.1 hr
      obtain ⟨t1, t2⟩ := line_sel hj hb
      have := g2 j hj (selB_iff.2 ⟨t1, t2, hc⟩)
      omega
abbrev SL : Type := Bool × Int × Int × Int × Int × Int
def recS (a : Bool × api_Record) (i : Int) : SL := (a.1, i, a.2.Known, a.2.Since, a.2.Subject, a.2.Value)
theorem lline_l1 {l : List api_Record} {y4 y3 : Int × make_Tape} {t : Int} (hl : l.length ≤ 1000) (ha : l.Pairwise fun x y => x.Since < y.Since) (hs : ∀ r ∈ l, r.Subject = y4.1 ∧ r.Known ≤ y3.1) {e : Int} : iter (law42_LedgerLine_l1 (l, e) y4 y3 t) (false, 0, 0, 0, 0, 0) = some (.inl ((lastT t l (false, ⟨0, 0, 0, 0⟩)).1, (lastT t l (false, ⟨0, 0, 0, 0⟩)).2.Known, (lastT t l (false, ⟨0, 0, 0, 0⟩)).2.Since, (lastT t l (false, ⟨0, 0, 0, 0⟩)).2.Subject, (lastT t l (false, ⟨0, 0, 0, 0⟩)).2.Value)) := by
  have key : ∀ (m i : Nat), i + m = l.length → iter (law42_LedgerLine_l1 (l, e) y4 y3 t) (recS (lastT t (l.take i) (false, ⟨0, 0, 0, 0⟩)) (i : Int)) = some (.inl ((lastT t l (false, ⟨0, 0, 0, 0⟩)).1, (lastT t l (false, ⟨0, 0, 0, 0⟩)).2.Known, (lastT t l (false, ⟨0, 0, 0, 0⟩)).2.Since, (lastT t l (false, ⟨0, 0, 0, 0⟩)).2.Subject, (lastT t l (false, ⟨0, 0, 0, 0⟩)).2.Value)) := fun m => by
    induction m with
    | zero =>
      intro i h
      have : i = l.length := by omega
      subst this
      rw [List.take_length]
      refine iter_out ?_
      unfold law42_LedgerLine_l1 recS
      rw [if_neg (by simp)]
    | succ m ih =>
      intro i h
      have hi : i < l.length := by omega
      obtain ⟨s1, s2⟩ := hs _ (List.getElem_mem hi)
      have hfold : lastT t (l.take (i + 1)) (false, ⟨0, 0, 0, 0⟩) = if l[i].Since ≤ t then (true, l[i]) else lastT t (l.take i) (false, ⟨0, 0, 0, 0⟩) := by
        unfold lastT
        rw [List.take_succ_eq_append_getElem hi, List.foldl_append]
        rfl
      have hgo : law42_LedgerLine_l1 (l, e) y4 y3 t (recS (lastT t (l.take i) (false, ⟨0, 0, 0, 0⟩)) (i : Int)) = some (.go (recS (lastT t (l.take (i + 1)) (false, ⟨0, 0, 0, 0⟩)) ((i + 1 : Nat) : Int))) := by
        rw [hfold]
        generalize lastT t (l.take i) (false, ⟨0, 0, 0, 0⟩) = a
        unfold law42_LedgerLine_l1 recS
        simp only
        rw [if_pos (by simp; omega), idx_lt hi]
        simp only [Option.bind_some]
        have hnb : ((if (decide (0 < (i : Int))) = true then (idx l (IntKind.i64.wrap ((i : Int) - 1))).bind fun x16 => if (decide (l[i].Since ≤ x16.Since)) = true then some true else if (l[i].Subject != y4.1) = true then some true else some (decide (y3.1 < l[i].Known)) else if (l[i].Subject != y4.1) = true then some true else some (decide (y3.1 < l[i].Known)))) = some false := by
          have hk : decide (y3.1 < l[i].Known) = false := by simp; omega
          by_cases h0 : 0 < i
          · rw [if_pos (by simpa using h0), w64 (by omega) (by omega), show (i : Int) - 1 = ((i - 1 : Nat) : Int) by omega, idx_lt (show i - 1 < l.length by omega)]
            have := List.pairwise_iff_getElem.1 ha (i - 1) i (by omega) hi (by omega)
            simp only [Option.bind_some]
            rw [if_neg (by simp; omega), if_neg (by simp [s1]), hk]
          · rw [if_neg (by simpa using h0), if_neg (by simp [s1]), hk]
        rw [hnb]
        simp only [Option.bind_some]
        rw [if_neg (by simp), w64 (by omega) (by omega)]
        by_cases hc : l[i].Since ≤ t
        · rw [if_pos (by simpa using hc), if_pos hc]; rfl
        · rw [if_neg (by simpa using hc), if_neg hc]; rfl
      rw [iter_go hgo]
      exact ih (i + 1) (by omega)
  exact key l.length 0 (by omega)
theorem LedgerLine_law (a : List Int) : law42_LedgerLine a = some true := by
  unfold law42_LedgerLine
  by_cases h : 200 < (a.length : Int)
  · rw [if_pos (by simpa using h), awake42]; rfl
  rw [if_neg (by simpa using h)]
  obtain ⟨l, m1, e1, hv, hl, t1⟩ := make_Ledger_ex (m := ⟨a, 0⟩) ⟨by simp, by simp, by simp; omega⟩
  obtain ⟨k, m2, e2, _, _, t2⟩ := next_ex t1 (n := 30) (by omega)
  obtain ⟨s, m3, e3, _, _, t3⟩ := next_ex t2 (n := 2) (by omega)
  rw [e1]
  simp only [Option.bind_some]
  rw [e2]
  simp only [Option.bind_some]
  rw [e3]
  simp only [Option.bind_some]
  rw [line_sp, if_pos hv]
  simp only [Option.bind_some]
  rw [if_neg (by simp)]
  have hlen : (lineS l k s).length ≤ 1000 := by
    have : (lineS l k s).length ≤ l.length := by
      unfold lineS lineF
      rw [List.length_mergeSort, List.length_map]
      exact Nat.le_trans (List.length_filter_le _ _) (by simp)
    omega
  have hloop : iter (law42_LedgerLine_l0 (l, m1) (k, m2) (s, m3) (lineS l k s, 0)) 0 = some (.inl ()) := by
    have := iter_all (body := law42_LedgerLine_l0 (l, m1) (k, m2) (s, m3) (lineS l k s, 0)) 14 (fun _ => true) (fun i hi => ?_) ?_
    · rw [this, if_pos (fun _ _ => rfl)]
    · unfold law42_LedgerLine_l0
      simp only
      rw [if_pos (by simp; omega), Believe_sp, if_pos hv]
      simp only [Option.bind_some]
      rw [lline_l1 (y4 := (s, m3)) (y3 := (k, m2)) hlen (lineS_asc l k s) (fun r hr => by
        obtain ⟨j, hj, rfl, hb⟩ := mem_lineS.1 hr
        obtain ⟨g1, g2⟩ := line_sel hj hb
        exact ⟨g2, g1⟩), line_last]
      simp only [Option.bind_some]
      rw [w64 (by omega) (by omega)]
      by_cases hb : bel l k s (i : Int) < 0
      · rw [if_pos hb, if_pos hb]
        simp
      · rw [if_neg hb, if_neg hb]
        obtain ⟨j, hj, e, _, _⟩ := bel_some hb
        rw [e]
        have hg : l.getD ((j : Int)).toNat default = l[j] := by simp [List.getD, hj]
        rw [hg]
        simp only
        rw [if_neg (by simp), if_pos trivial, if_neg (by simp), if_neg (by simp), if_neg (by simp; omega), idx_lt hj]
        simp
    · unfold law42_LedgerLine_l0
      rw [if_neg (by decide)]
  rw [hloop]
  simp only [Option.bind_some]
  rw [awake42]
  rfl
end Go.Vl
