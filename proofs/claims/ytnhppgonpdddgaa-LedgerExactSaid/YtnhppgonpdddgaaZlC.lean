/- The law LedgerExact: both texts of the ledger agree. Conditions: none. -/
import Derived.Test.YtnhppgonpdddgaaZlB
set_option linter.unusedSimpArgs false
set_option linter.unusedVariables false
namespace Go.Vl
open Go

/-! Valid, in the reference -/
def refQ (l : List api_Record) (i : Nat) : Bool :=
  decide (0 ≤ (l.getD i default).Known) && (decide ((l.getD i default).Known ≤ 1099511627776) && (!(decide (0 < i) && decide ((l.getD i default).Known < recK l i)) && (decide (0 ≤ (l.getD i default).Since) && (decide ((l.getD i default).Since ≤ 1099511627776) && (decide (0 ≤ (l.getD i default).Subject) && (decide ((l.getD i default).Subject ≤ 15) && (decide (-1000000 ≤ (l.getD i default).Value) && decide ((l.getD i default).Value ≤ 1000000))))))))
theorem refQ_all (l : List api_Record) : (∀ i, i < l.length → refQ l i = true) ↔ ∀ i, (h : i < l.length) → recB (recK l i) l[i] = true := by
  have hg : ∀ i (h : i < l.length), l.getD i default = l[i] := fun i h => by simp [List.getD, h]
  constructor
  · intro g i hi
    have := g i hi
    unfold refQ at this
    rw [hg i hi] at this
    simp only [Bool.and_eq_true, decide_eq_true_eq, Bool.not_eq_true', Bool.and_eq_false_iff, decide_eq_false_iff_not] at this
    rw [recB_iff]
    have hlow : recK l i ≤ l[i].Known := by
      cases i with
      | zero => show 0 ≤ _; omega
      | succ i => omega
    omega
  · intro g i hi
    have h0 : 0 ≤ recK l i := by
      have key : ∀ i, i ≤ l.length → 0 ≤ recK l i := fun i => by
        induction i with
        | zero => intro _; exact Int.le_refl _
        | succ i ih =>
          intro hi
          have := (recB_iff.1 (g i (by omega))).1
          have h2 := ih (by omega)
          show 0 ≤ (l.getD i default).Known
          rw [hg i (by omega)]
          omega
      exact key i (by omega)
    have := recB_iff.1 (g i hi)
    unfold refQ
    rw [hg i hi]
    simp only [Bool.and_eq_true, decide_eq_true_eq, Bool.not_eq_true', Bool.and_eq_false_iff, decide_eq_false_iff_not]
    omega
open Classical in
theorem rvalid_sp (l : List api_Record) : ref42_Valid l = some (decide (ValidL l)) := by
  unfold ref42_Valid
  by_cases h : l.length ≤ 100
  · rw [if_neg (by simp; omega)]
    have := iter_all (body := ref42_Valid_l0 l) l.length (refQ l) (fun i hi => ?_) ?_
    · rw [this]
      simp only [Option.bind_some]
      by_cases g : ∀ i, i < l.length → refQ l i = true
      · rw [if_pos g, decide_eq_true (show ValidL l from ⟨h, (refQ_all l).1 g⟩)]
      · rw [if_neg g, decide_eq_false (fun q : ValidL l => g ((refQ_all l).2 q.2))]
    · have hg : l.getD i default = l[i] := by simp [List.getD, hi]
      unfold ref42_Valid_l0 ref42_in refQ
      rw [if_pos (by simp; omega), idx_lt hi, hg, w64 (x := (i : Int) + 1) (by omega) (by omega)]
      simp only [Option.bind_some]
      by_cases h0 : 0 < i
      · have hk : recK l i = l[i - 1].Known := by
          obtain ⟨i, rfl⟩ : ∃ j, i = j + 1 := ⟨i - 1, by omega⟩
          simp [recK, List.getD, show i < l.length by omega]
        rw [w64 (x := (i : Int) - 1) (by omega) (by omega), show (i : Int) - 1 = ((i - 1 : Nat) : Int) by omega, idx_lt (show i - 1 < l.length by omega), hk]
        simp only [Option.bind_some]
        have e0 : decide (0 < (i : Int)) = true := by simpa using h0
        have e1 : decide (0 < i) = true := by simpa using h0
        rw [e0, e1]
        generalize l[i - 1].Known = low
        generalize l[i] = r
        generalize decide (0 ≤ r.Known) = b0
        generalize decide (r.Known < low) = b1
        generalize decide (r.Known ≤ 1099511627776) = b2
        generalize decide (0 ≤ r.Since) = b3
        generalize decide (r.Since ≤ 1099511627776) = b4
        generalize decide (0 ≤ r.Subject) = b5
        generalize decide (r.Subject ≤ 15) = b6
        generalize decide (-1000000 ≤ r.Value) = b7
        generalize decide (r.Value ≤ 1000000) = b8
        cases b0 <;> cases b1 <;> (try rfl) <;> cases b2 <;> (try rfl) <;> cases b3 <;> cases b4 <;> (try rfl) <;> cases b5 <;> cases b6 <;> (try rfl) <;> cases b7 <;> cases b8 <;> rfl
      · have e0 : decide (0 < (i : Int)) = false := by simpa using h0
        have e1 : decide (0 < i) = false := by simpa using h0
        rw [e0, e1]
        generalize decide (l[i].Known < recK l i) = b1
        generalize l[i] = r
        generalize decide (0 ≤ r.Known) = b0
        generalize decide (r.Known ≤ 1099511627776) = b2
        generalize decide (0 ≤ r.Since) = b3
        generalize decide (r.Since ≤ 1099511627776) = b4
        generalize decide (0 ≤ r.Subject) = b5
        generalize decide (r.Subject ≤ 15) = b6
        generalize decide (-1000000 ≤ r.Value) = b7
        generalize decide (r.Value ≤ 1000000) = b8
        cases b0 <;> (try rfl) <;> cases b2 <;> (try rfl) <;> cases b3 <;> cases b4 <;> (try rfl) <;> cases b5 <;> cases b6 <;> (try rfl) <;> cases b7 <;> cases b8 <;> rfl
    · unfold ref42_Valid_l0
      rw [if_neg (by simp)]
  · rw [if_pos (by simp; omega), decide_eq_false (fun q : ValidL l => h q.1)]
theorem says_sp {l : List api_Record} (hl : l.length ≤ 1000) (k s t : Int) : ref42_says l k s t = some (bel l k s t) := by
  have key : ∀ (m i : Nat), i + m = l.length → iter (ref42_says_l0 l k s t) (bestF l k s t i, (i : Int)) = some (bel l k s t) := fun m => by
    induction m with
    | zero =>
      intro i h
      have : i = l.length := by omega
      subst this
      refine iter_out ?_
      unfold ref42_says_l0
      rw [if_neg (by simp)]
    | succ m ih =>
      intro i h
      have hi : i < l.length := by omega
      obtain ⟨b1, b2⟩ := bestF_bd l k s t i
      have hg : l.getD i default = l[i] := by simp [List.getD, hi]
      have hgo : ref42_says_l0 l k s t (bestF l k s t i, (i : Int)) = some (.go (bestF l k s t (i + 1), ((i + 1 : Nat) : Int))) := by
        unfold ref42_says_l0
        simp only
        rw [if_pos (by simp; omega), idx_lt hi, w64 (by omega) (by omega)]
        simp only [Option.bind_some, bestF, hg]
        unfold selB
        by_cases h1 : l[i].Known ≤ k
        · by_cases h2 : l[i].Subject = s
          · by_cases h3 : l[i].Since ≤ t
            · by_cases h4 : bestF l k s t i < 0
              · simp [h1, h2, h3, h4]
              · have h5 : (bestF l k s t i).toNat < l.length := by omega
                have h6 : l.getD (bestF l k s t i).toNat default = l[(bestF l k s t i).toNat] := by simp [List.getD, h5]
                rw [idx_toNat (by omega) h5, h6]
                by_cases h7 : l[(bestF l k s t i).toNat].Since ≤ l[i].Since
                · simp [h1, h2, h3, h4, h7]
                · simp [h1, h2, h3, h4, h7]
            · simp [h1, h2, h3]
          · simp [h1, h2]
        · simp [h1]
      rw [iter_go hgo]
      exact ih (i + 1) (by omega)
  unfold ref42_says
  rw [show ((-1 : Int), (0 : Int)) = (bestF l k s t 0, ((0 : Nat) : Int)) from rfl, key l.length 0 (by omega)]
  rfl
open Classical in
theorem rBelieve_sp {l : List api_Record} (k s t : Int) : ref42_Believe l k s t = some (if ValidL l then (if bel l k s t < 0 then (⟨0, -1⟩, false) else (⟨(l.getD (bel l k s t).toNat default).Value, bel l k s t⟩, true)) else (⟨0, -1⟩, false)) := by
  unfold ref42_Believe
  rw [rvalid_sp]
  simp only [Option.bind_some]
  by_cases h : ValidL l
  · have hl := h.1
    rw [decide_eq_true h, if_pos h, if_neg (by simp), says_sp (by omega)]
    simp only [Option.bind_some]
    obtain ⟨b1, b2⟩ := bestF_bd l k s t l.length
    by_cases hb : bel l k s t < 0
    · rw [if_pos hb, if_pos (by simpa using hb)]
    · have h5 : (bel l k s t).toNat < l.length := by unfold bel at hb ⊢; omega
      have h6 : l.getD (bel l k s t).toNat default = l[(bel l k s t).toNat] := by simp [List.getD, h5]
      rw [if_neg hb, if_neg (by simpa using hb), idx_toNat (by omega) h5, h6]
      rfl
  · rw [decide_eq_false h, if_neg h, if_pos (by simp)]
/-! The line, in the reference -/
theorem asc_ext : ∀ {a b : List api_Record}, a.Pairwise (fun x y => x.Since < y.Since) → b.Pairwise (fun x y => x.Since < y.Since) → (∀ x, x ∈ a ↔ x ∈ b) → a = b
  | [], [], _, _, _ => rfl
  | [], y :: b, _, _, h => by have := (h y).2 (List.mem_cons_self ..); cases this
  | x :: a, [], _, _, h => by have := (h x).1 (List.mem_cons_self ..); cases this
  | x :: a, y :: b, ha, hb, h => by
    obtain ⟨a1, a2⟩ := List.pairwise_cons.1 ha
    obtain ⟨b1, b2⟩ := List.pairwise_cons.1 hb
    have e : x = y := by
      rcases List.mem_cons.1 ((h x).1 (List.mem_cons_self ..)) with e | hx
      · exact e
      · rcases List.mem_cons.1 ((h y).2 (List.mem_cons_self ..)) with e | hy
        · exact e.symm
        · have := a1 y hy
          have := b1 x hx
          omega
    subst e
    congr 1
    refine asc_ext a2 b2 fun z => ?_
    constructor
    · intro hz
      rcases List.mem_cons.1 ((h z).1 (List.mem_cons_of_mem _ hz)) with rfl | hz'
      · have := a1 z hz; omega
      · exact hz'
    · intro hz
      rcases List.mem_cons.1 ((h z).2 (List.mem_cons_of_mem _ hz)) with rfl | hz'
      · have := b1 z hz; omega
      · exact hz'
def insAt (r : api_Record) (l : List api_Record) : Nat := (l.takeWhile fun x => decide (x.Since < r.Since)).length
theorem ins_loop {out : List api_Record} (hl : out.length ≤ 1000) {r : api_Record} {q : Int} : iter (ref42_Line_l1 (q, out) r) 0 = some ((insAt r out : Nat) : Int) := by
  have key : ∀ (m i : Nat), i + m = out.length → iter (ref42_Line_l1 (q, out) r) (i : Int) = some ((i + insAt r (out.drop i) : Nat) : Int) := fun m => by
    induction m with
    | zero =>
      intro i h
      have : i = out.length := by omega
      subst this
      rw [List.drop_length]
      refine iter_out ?_
      unfold ref42_Line_l1
      simp [insAt]
    | succ m ih =>
      intro i h
      have hi : i < out.length := by omega
      rw [List.drop_eq_getElem_cons hi]
      have hb : ref42_Line_l1 (q, out) r (i : Int) = some (if out[i].Since < r.Since then .go ((i + 1 : Nat) : Int) else .out (i : Int)) := by
        unfold ref42_Line_l1
        simp only
        rw [if_pos (by simp; omega), ck_t (by omega), idx_lt hi]
        simp only [Option.bind_some]
        rw [w64 (by omega) (by omega)]
        by_cases hc : out[i].Since < r.Since
        · rw [if_pos (by simpa using hc), if_pos hc]; rfl
        · rw [if_neg (by simpa using hc), if_neg hc]
      unfold insAt
      rw [List.takeWhile_cons]
      by_cases hc : out[i].Since < r.Since
      · rw [if_pos hc] at hb
        rw [iter_go hb, ih (i + 1) (by omega), decide_eq_true hc]
        congr 2
        simp only [insAt, List.length_cons, if_true]
        omega
      · rw [if_neg hc] at hb
        rw [iter_out hb, decide_eq_false hc]
        simp
  have := key out.length 0 (by omega)
  simpa using this
theorem ins_asc {r : api_Record} : ∀ {out : List api_Record}, out.Pairwise (fun x y => x.Since < y.Since) → (∀ x ∈ out, x.Since ≠ r.Since) → (out.take (insAt r out) ++ ([r] ++ out.drop (insAt r out))).Pairwise fun x y => x.Since < y.Since
  | [], _, _ => by simp
  | x :: out, hp, hn => by
    obtain ⟨p1, p2⟩ := List.pairwise_cons.1 hp
    unfold insAt
    rw [List.takeWhile_cons]
    by_cases hc : x.Since < r.Since
    · rw [decide_eq_true hc]
      simp only [if_true, List.length_cons, List.take_succ_cons, List.drop_succ_cons, List.cons_append]
      refine List.pairwise_cons.2 ⟨fun y hy => ?_, ins_asc p2 fun y hy => hn y (List.mem_cons_of_mem _ hy)⟩
      rcases List.mem_append.1 hy with hy | hy
      · exact p1 y (List.mem_of_mem_take hy)
      · simp only [List.mem_cons, List.nil_append] at hy
        rcases hy with rfl | hy
        · exact hc
        · exact p1 y (List.mem_of_mem_drop hy)
    · rw [decide_eq_false hc]
      simp only [Bool.false_eq_true, if_false, List.length_nil, List.take_zero, List.drop_zero, List.nil_append, List.singleton_append]
      have hx := hn x (List.mem_cons_self ..)
      refine List.pairwise_cons.2 ⟨fun y hy => ?_, hp⟩
      rcases List.mem_cons.1 hy with rfl | hy
      · omega
      · have := p1 y hy; omega
theorem ins_len (r : api_Record) (out : List api_Record) : insAt r out ≤ out.length := by
  unfold insAt
  exact (List.takeWhile_sublist _).length_le
structure LineInv (l : List api_Record) (k s : Int) (i : Nat) (out : List api_Record) : Prop where
  asc : out.Pairwise fun x y => x.Since < y.Since
  mem : ∀ x, x ∈ out ↔ ∃ (j : Nat) (hj : j < l.length), j < i ∧ x = l[j] ∧ bel l k s l[j].Since = (j : Int)
  len : out.length ≤ i
theorem rline_loop {l : List api_Record} (hl : l.length ≤ 1000) (k s : Int) : iter (ref42_Line_l0 l k s) (0, []) = some (lineS l k s) := by
  have key : ∀ (m i : Nat) (out : List api_Record), i + m = l.length → LineInv l k s i out → iter (ref42_Line_l0 l k s) ((i : Int), out) = some (lineS l k s) := fun m => by
    induction m with
    | zero =>
      intro i out h hv
      have : i = l.length := by omega
      subst this
      have e : out = lineS l k s := asc_ext hv.asc (lineS_asc l k s) fun x => by
        rw [hv.mem, mem_lineS]
        exact ⟨fun ⟨j, hj, _, e, b⟩ => ⟨j, hj, e, b⟩, fun ⟨j, hj, e, b⟩ => ⟨j, hj, hj, e, b⟩⟩
      rw [← e]
      refine iter_out ?_
      unfold ref42_Line_l0
      rw [if_neg (by simp)]
    | succ m ih =>
      intro i out h hv
      have hi : i < l.length := by omega
      have hlen := hv.len
      by_cases hc : bel l k s l[i].Since = (i : Int)
      · obtain ⟨g1, g2⟩ := line_sel hi hc
        have hat := ins_len l[i] out
        have htk : (out.drop (insAt l[i] out)).take (out.length - insAt l[i] out) = out.drop (insAt l[i] out) := List.take_of_length_le (by rw [List.length_drop]; omega)
        have hgo : ref42_Line_l0 l k s ((i : Int), out) = some (.go (((i + 1 : Nat) : Int), out.take (insAt l[i] out) ++ ([l[i]] ++ out.drop (insAt l[i] out)))) := by
          unfold ref42_Line_l0
          simp only
          rw [if_pos (by simp; omega), idx_lt hi, w64 (by omega) (by omega)]
          simp only [Option.bind_some, says_sp hl]
          rw [if_pos (by simpa using g1), if_pos (by simpa using g2), hc]
          simp only [Option.bind_some]
          rw [if_pos (by simp), ins_loop (by omega)]
          simp only [Option.bind_some, Int.toNat_natCast]
          rw [ck_t (by omega)]
          simp only [Option.bind_some]
          rw [ck_t (by omega)]
          simp only [Option.bind_some]
          rw [ck_t (by omega)]
          simp only [Option.bind_some]
          simp only [htk]
          rw [ck_t (by simp; omega)]
          simp only [Option.bind_some]
          rw [ck_t (by omega)]
          simp only [Option.bind_some]
          rw [ck_t (by simp; omega)]
          rfl
        rw [iter_go hgo]
        refine ih (i + 1) _ (by omega) ⟨ins_asc hv.asc fun x hx e => ?_, fun x => ?_, by simp; omega⟩
        · obtain ⟨j, hj, hji, rfl, hb⟩ := (hv.mem x).1 hx
          rw [e, hc] at hb
          omega
        · have hsplit : x ∈ out ↔ x ∈ out.take (insAt l[i] out) ∨ x ∈ out.drop (insAt l[i] out) := by rw [← List.mem_append, List.take_append_drop]
          rw [List.mem_append, List.mem_append, List.mem_singleton]
          constructor
          · rintro (hx | rfl | hx)
            · obtain ⟨j, hj, hji, e⟩ := (hv.mem x).1 (hsplit.2 (.inl hx)); exact ⟨j, hj, by omega, e⟩
            · exact ⟨i, hi, by omega, rfl, hc⟩
            · obtain ⟨j, hj, hji, e⟩ := (hv.mem x).1 (hsplit.2 (.inr hx)); exact ⟨j, hj, by omega, e⟩
          · rintro ⟨j, hj, hji, e, hb⟩
            by_cases ej : j = i
            · subst ej; exact .inr (.inl e)
            · rcases hsplit.1 ((hv.mem x).2 ⟨j, hj, by omega, e, hb⟩) with hx | hx
              · exact .inl hx
              · exact .inr (.inr hx)
      · have hgo : ref42_Line_l0 l k s ((i : Int), out) = some (.go (((i + 1 : Nat) : Int), out)) := by
          unfold ref42_Line_l0
          simp only
          rw [if_pos (by simp; omega), idx_lt hi, w64 (by omega) (by omega)]
          simp only [Option.bind_some, says_sp hl]
          by_cases h1 : l[i].Known ≤ k
          · by_cases h2 : l[i].Subject = s
            · simp [h1, h2]
              exact fun e => absurd e hc
            · simp [h1, h2]
          · simp [h1]
        rw [iter_go hgo]
        refine ih (i + 1) _ (by omega) ⟨hv.asc, fun x => ?_, by omega⟩
        rw [hv.mem]
        constructor
        · rintro ⟨j, hj, hji, e⟩; exact ⟨j, hj, by omega, e⟩
        · rintro ⟨j, hj, hji, e, hb⟩
          refine ⟨j, hj, ?_, e, hb⟩
          by_cases ej : j = i
          · subst ej; exact absurd hb hc
          · omega
  exact key l.length 0 [] (by omega) ⟨.nil, fun x => ⟨fun h => (by cases h), fun ⟨j, _, h, _⟩ => by omega⟩, by simp⟩
open Classical in
theorem rline_sp {l : List api_Record} (k s : Int) : ref42_Line l k s = some (if ValidL l then (lineS l k s, 0) else ([], 44)) := by
  unfold ref42_Line
  rw [rvalid_sp]
  simp only [Option.bind_some]
  by_cases h : ValidL l
  · have hl := h.1
    rw [decide_eq_true h, if_pos h, if_neg (by simp), rline_loop (by omega)]
    rfl
  · rw [decide_eq_false h, if_neg h, if_pos (by simp)]
/-! The changes -/
def belK (l : List api_Record) (s t : Int) (i : Nat) : Int := bel l (l.getD i default).Known s t
def chSt (l : List api_Record) (s t : Int) : Nat → Int × List api_Belief
  | 0 => (-1, [])
  | i + 1 => if belK l s t i = (chSt l s t i).1 then chSt l s t i else (belK l s t i, (chSt l s t i).2 ++ [⟨(l.getD (belK l s t i).toNat default).Value, belK l s t i⟩])
theorem sel_up {k k' s t : Int} {r : api_Record} (h : k ≤ k') (hs : selB k s t r = true) : selB k' s t r = true := by
  obtain ⟨a, b, c⟩ := selB_iff.1 hs
  exact selB_iff.2 ⟨by omega, b, c⟩
theorem bel_up {l : List api_Record} {k k' s t : Int} (h : k ≤ k') (hb : ¬ bel l k s t < 0) : ¬ bel l k' s t < 0 := fun hc => by
  obtain ⟨i, hi, _, g, _⟩ := bel_some hb
  have := (bel_none hc).2 _ (List.getElem_mem hi)
  rw [sel_up h g] at this
  cases this
theorem ch_before {l : List api_Record} (s t : Int) : ∀ i, (chSt l s t (i + 1)).1 = belK l s t i := fun i => by
  unfold chSt
  split
  · rename_i h; exact h.symm
  · rfl
theorem ch_inv {l : List api_Record} (hv : ValidL l) (s t : Int) : ∀ i, i ≤ l.length → (chSt l s t i).2.length ≤ i ∧ -1 ≤ (chSt l s t i).1 ∧ (i < l.length → ¬ (chSt l s t i).1 < 0 → ¬ belK l s t i < 0) ∧ (((chSt l s t i).1 = -1 ∧ (chSt l s t i).2 = []) ∨ (0 ≤ (chSt l s t i).1 ∧ ∃ o v, (chSt l s t i).2 = o ++ [⟨v, (chSt l s t i).1⟩])) := fun i => by
  induction i with
  | zero => intro _; exact ⟨Nat.le_refl _, by simp [chSt], fun _ h => absurd (show (-1 : Int) < 0 by decide) h, .inl ⟨rfl, rfl⟩⟩
  | succ i ih =>
    intro hi
    obtain ⟨h1, h2, h3, h4⟩ := ih (by omega)
    have hb := (bestF_bd l (l.getD i default).Known s t l.length).1
    have hb' : -1 ≤ belK l s t i := hb
    have hm : i + 1 < l.length → ¬ (chSt l s t (i + 1)).1 < 0 → ¬ belK l s t (i + 1) < 0 := fun hi1 hn => by
      rw [ch_before] at hn
      refine bel_up ?_ hn
      have := valid_mono hv 1 i hi1
      simpa [List.getD, show i < l.length by omega, hi1] using this
    by_cases hc : belK l s t i = (chSt l s t i).1
    · have e : chSt l s t (i + 1) = chSt l s t i := by
        show (if belK l s t i = (chSt l s t i).1 then chSt l s t i else _) = _
        rw [if_pos hc]
      rw [e] at hm ⊢
      exact ⟨by omega, h2, hm, h4⟩
    · have e : chSt l s t (i + 1) = (belK l s t i, (chSt l s t i).2 ++ [⟨(l.getD (belK l s t i).toNat default).Value, belK l s t i⟩]) := by
        show (if belK l s t i = (chSt l s t i).1 then chSt l s t i else _) = _
        rw [if_neg hc]
      rw [e] at hm ⊢
      refine ⟨by simp; omega, hb', hm, .inr ⟨?_, _, _, rfl⟩⟩
      simp only
      rcases h4 with ⟨q, _⟩ | ⟨q, _⟩
      · omega
      · have := h3 (by omega) (by omega); omega
theorem ch_step {l : List api_Record} (hv : ValidL l) (s t : Int) {i : Nat} (hi : i < l.length) (hc : belK l s t i ≠ (chSt l s t i).1) : 0 ≤ belK l s t i ∧ (belK l s t i).toNat < l.length := by
  obtain ⟨_, _, h3, h4⟩ := ch_inv hv s t i (by omega)
  obtain ⟨b1, b2⟩ := bestF_bd l (l.getD i default).Known s t l.length
  have hb1 : -1 ≤ belK l s t i := b1
  have hb2 : belK l s t i < l.length := b2
  have h0 : 0 ≤ belK l s t i := by
    rcases h4 with ⟨q, _⟩ | ⟨q, _⟩
    · omega
    · have := h3 hi (by omega); omega
  omega
theorem ch_loop {l : List api_Record} (hv : ValidL l) (s t : Int) : iter (ledger_Changes_l0 l s t) (-1, 0, []) = some (chSt l s t l.length).2 := by
  have hl := hv.1
  have key : ∀ (m i : Nat), i + m = l.length → iter (ledger_Changes_l0 l s t) ((chSt l s t i).1, (i : Int), (chSt l s t i).2) = some (chSt l s t l.length).2 := fun m => by
    induction m with
    | zero =>
      intro i h
      have : i = l.length := by omega
      subst this
      refine iter_out ?_
      unfold ledger_Changes_l0
      rw [if_neg (by simp)]
    | succ m ih =>
      intro i h
      have hi : i < l.length := by omega
      have hg : l.getD i default = l[i] := by simp [List.getD, hi]
      have hk : belK l s t i = bel l l[i].Known s t := by unfold belK; rw [hg]
      have hlen := (ch_inv hv s t i (by omega)).1
      have hgo : ledger_Changes_l0 l s t ((chSt l s t i).1, (i : Int), (chSt l s t i).2) = some (.go ((chSt l s t (i + 1)).1, ((i + 1 : Nat) : Int), (chSt l s t (i + 1)).2)) := by
        unfold ledger_Changes_l0
        simp only
        rw [if_pos (by simp; omega), idx_lt hi, w64 (by omega) (by omega)]
        simp only [Option.bind_some]
        rw [believe_sp (by omega), ← hk]
        simp only [Option.bind_some]
        by_cases hc : belK l s t i = (chSt l s t i).1
        · rw [if_neg (by simpa using hc)]
          have e : chSt l s t (i + 1) = chSt l s t i := by
            show (if belK l s t i = (chSt l s t i).1 then chSt l s t i else _) = _
            rw [if_pos hc]
          rw [e]
          rfl
        · obtain ⟨q1, q2⟩ := ch_step hv s t hi hc
          have e : chSt l s t (i + 1) = (belK l s t i, (chSt l s t i).2 ++ [⟨(l.getD (belK l s t i).toNat default).Value, belK l s t i⟩]) := by
            show (if belK l s t i = (chSt l s t i).1 then chSt l s t i else _) = _
            rw [if_neg hc]
          have hgb : l.getD (belK l s t i).toNat default = l[(belK l s t i).toNat] := by simp [List.getD, q2]
          rw [if_pos (by simpa using hc), idx_toNat q1 q2, e, hgb]
          simp only [Option.bind_some]
          rw [ck_t (by simp; omega)]
          rfl
      rw [iter_go hgo]
      exact ih (i + 1) (by omega)
  exact key l.length 0 (by omega)
theorem rch_loop {l : List api_Record} (hv : ValidL l) (s t : Int) : iter (ref42_Changes_l0 l s t) (0, []) = some (chSt l s t l.length).2 := by
  have hl := hv.1
  have key : ∀ (m i : Nat), i + m = l.length → iter (ref42_Changes_l0 l s t) ((i : Int), (chSt l s t i).2) = some (chSt l s t l.length).2 := fun m => by
    induction m with
    | zero =>
      intro i h
      have : i = l.length := by omega
      subst this
      refine iter_out ?_
      unfold ref42_Changes_l0
      rw [if_neg (by simp)]
    | succ m ih =>
      intro i h
      have hi : i < l.length := by omega
      have hg : l.getD i default = l[i] := by simp [List.getD, hi]
      have hk : belK l s t i = bel l l[i].Known s t := by unfold belK; rw [hg]
      obtain ⟨hlen, h2, h3, h4⟩ := ch_inv hv s t i (by omega)
      have b1 : -1 ≤ belK l s t i := (bestF_bd l (l.getD i default).Known s t l.length).1
      have hgo : ref42_Changes_l0 l s t ((i : Int), (chSt l s t i).2) = some (.go (((i + 1 : Nat) : Int), (chSt l s t (i + 1)).2)) := by
        unfold ref42_Changes_l0
        simp only
        rw [if_pos (by simp; omega), idx_lt hi, w64 (x := (i : Int) + 1) (by omega) (by omega)]
        simp only [Option.bind_some]
        rw [rBelieve_sp, if_pos hv, ← hk]
        simp only [Option.bind_some]
        by_cases hc : belK l s t i = (chSt l s t i).1
        · have e : chSt l s t (i + 1) = chSt l s t i := by
            show (if belK l s t i = (chSt l s t i).1 then chSt l s t i else _) = _
            rw [if_pos hc]
          rw [e]
          rcases h4 with ⟨q1, q2⟩ | ⟨q1, o, v, q2⟩
          · rw [if_pos (show belK l s t i < 0 by omega)]
            rfl
          · rw [if_neg (show ¬ belK l s t i < 0 by omega), if_pos rfl]
            have hne : ¬ (((chSt l s t i).2.length : Int) == 0) = true := by rw [q2]; simp; omega
            rw [if_neg hne]
            have hlt : (chSt l s t i).2.length - 1 < (chSt l s t i).2.length := by rw [q2]; simp
            have hlast : (chSt l s t i).2[(chSt l s t i).2.length - 1].Record = (chSt l s t i).1 := by
              simp only [q2, List.length_append, List.length_singleton, Nat.add_sub_cancel]
              rw [List.getElem_append_right (Nat.le_refl _)]
              simp
            rw [w64 (x := ((chSt l s t i).2.length : Int) - 1) (by omega) (by omega), show ((chSt l s t i).2.length : Int) - 1 = (((chSt l s t i).2.length - 1 : Nat) : Int) by omega, ck_t (by rw [Int.toNat_natCast]; omega), idx_lt hlt]
            simp only [Option.bind_some]
            rw [hlast, ← hc]
            simp
        · obtain ⟨q1, q2⟩ := ch_step hv s t hi hc
          have e : chSt l s t (i + 1) = (belK l s t i, (chSt l s t i).2 ++ [⟨(l.getD (belK l s t i).toNat default).Value, belK l s t i⟩]) := by
            show (if belK l s t i = (chSt l s t i).1 then chSt l s t i else _) = _
            rw [if_neg hc]
          rw [e, if_neg (show ¬ belK l s t i < 0 by omega), if_pos rfl]
          rcases h4 with ⟨q3, q4⟩ | ⟨q3, o, v, q4⟩
          · rw [q4, if_pos (by simp)]
            simp only [Option.bind_some]
            rw [if_pos trivial, ck_t (by simp)]
            rfl
          · have hne : ¬ (((chSt l s t i).2.length : Int) == 0) = true := by rw [q4]; simp; omega
            rw [if_neg hne]
            have hlt : (chSt l s t i).2.length - 1 < (chSt l s t i).2.length := by rw [q4]; simp
            have hlast : (chSt l s t i).2[(chSt l s t i).2.length - 1].Record = (chSt l s t i).1 := by
              simp only [q4, List.length_append, List.length_singleton, Nat.add_sub_cancel]
              rw [List.getElem_append_right (Nat.le_refl _)]
              simp
            rw [w64 (x := ((chSt l s t i).2.length : Int) - 1) (by omega) (by omega), show ((chSt l s t i).2.length : Int) - 1 = (((chSt l s t i).2.length - 1 : Nat) : Int) by omega, ck_t (by rw [Int.toNat_natCast]; omega), idx_lt hlt]
            simp only [Option.bind_some]
            rw [hlast, if_pos (by simpa using fun e : (chSt l s t i).1 = belK l s t i => hc e.symm), ck_t (by simp; omega)]
            rfl
      rw [iter_go hgo]
      exact ih (i + 1) (by omega)
  exact key l.length 0 (by omega)
theorem changes_sp {l : List api_Record} (s t : Int) : ∃ r, ledger_Changes l s t = some r ∧ ref42_Changes l s t = some r ∧ r = if ValidL l then ((chSt l s t l.length).2, 0) else ([], 44) := by
  refine ⟨_, ?_, ?_, rfl⟩
  · unfold ledger_Changes
    rw [lcheck_sp]
    by_cases h : ValidL l
    · simp only [Option.bind_some, h, if_true]
      rw [if_neg (by simp), ch_loop h]
      rfl
    · simp [h]
  · unfold ref42_Changes
    rw [rvalid_sp]
    by_cases h : ValidL l
    · simp only [Option.bind_some, h, if_true, decide_true]
      rw [if_neg (by simp), rch_loop h]
      rfl
    · simp [h]
/-! What is learned -/
def goodJ (l : List api_Record) (s t v : Int) (j : Nat) : Bool := decide (0 ≤ belK l s t j) && (l.getD (belK l s t j).toNat default).Value == v
theorem find_ch {l : List api_Record} (hv : ValidL l) (s t v : Int) : ∀ n, n ≤ l.length → (chSt l s t n).2.find? (fun x => x.Value == v) = ((List.range n).find? (goodJ l s t v)).map fun j => ⟨(l.getD (belK l s t j).toNat default).Value, belK l s t j⟩ := fun n => by
  induction n with
  | zero => intro _; rfl
  | succ n ih =>
    intro hn
    have ih := ih (by omega)
    rw [List.range_succ, List.find?_append]
    by_cases hc : belK l s t n = (chSt l s t n).1
    · have e : chSt l s t (n + 1) = chSt l s t n := by
        show (if belK l s t n = (chSt l s t n).1 then chSt l s t n else _) = _
        rw [if_pos hc]
      rw [e, ih]
      cases hf : (List.range n).find? (goodJ l s t v) with
      | some j => rfl
      | none =>
        have hg : goodJ l s t v n = false := by
          cases n with
          | zero =>
            unfold goodJ
            have : belK l s t 0 = -1 := hc
            rw [this]; rfl
          | succ n =>
            rw [ch_before] at hc
            have := List.find?_eq_none.1 hf n (by simp)
            unfold goodJ at this ⊢
            rw [hc]
            simpa using this
        simp [hg]
    · obtain ⟨q1, q2⟩ := ch_step hv s t (by omega) hc
      have e : chSt l s t (n + 1) = (belK l s t n, (chSt l s t n).2 ++ [⟨(l.getD (belK l s t n).toNat default).Value, belK l s t n⟩]) := by
        show (if belK l s t n = (chSt l s t n).1 then chSt l s t n else _) = _
        rw [if_neg hc]
      rw [e, List.find?_append, ih]
      cases hf : (List.range n).find? (goodJ l s t v) with
      | some j => rfl
      | none =>
        simp only [Option.map_none, Option.none_or]
        by_cases hg : goodJ l s t v n = true
        · have hval : ((l.getD (belK l s t n).toNat default).Value == v) = true := by
            unfold goodJ at hg
            simp only [Bool.and_eq_true] at hg
            exact hg.2
          simp only [List.find?_cons, hg, hval, List.find?_nil, Option.map_some]
        · have hval : ((l.getD (belK l s t n).toNat default).Value == v) = false := by
            unfold goodJ at hg
            rw [decide_eq_true q1] at hg
            simpa using hg
          have hg' : goodJ l s t v n = false := by simpa using hg
          simp only [List.find?_cons, hg', hval, List.find?_nil, Option.map_none]
theorem first_known {l : List api_Record} (hv : ValidL l) (s t v : Int) {j : Nat} (hj : (List.range l.length).find? (goodJ l s t v) = some j) : ∃ (hjl : j < l.length) (hb : (belK l s t j).toNat < l.length), 0 ≤ belK l s t j ∧ l[(belK l s t j).toNat].Known = l[j].Known := by
  have hjl : j < l.length := by have := List.mem_of_find?_eq_some hj; simpa using this
  have hg := List.find?_some hj
  have hg2 : l.getD j default = l[j] := by simp [List.getD, hjl]
  unfold goodJ at hg
  simp only [Bool.and_eq_true, decide_eq_true_eq] at hg
  obtain ⟨h0, hval⟩ := hg
  obtain ⟨i, hi, e, g1, g2⟩ := bel_some (l := l) (k := l[j].Known) (s := s) (t := t) (by unfold belK at h0; rw [hg2] at h0; omega)
  have hbi : belK l s t j = (i : Int) := by unfold belK; rw [hg2]; exact e
  rw [hbi, Int.toNat_natCast] at hval
  refine ⟨hjl, by rw [hbi, Int.toNat_natCast]; exact hi, h0, ?_⟩
  simp only [hbi, Int.toNat_natCast]
  obtain ⟨s1, s2, s3⟩ := selB_iff.1 g1
  have hii : bel l l[i].Known s t = (i : Int) := bel_is hi (selB_iff.2 ⟨Int.le_refl _, s2, s3⟩) fun q hq hsq => g2 q hq (sel_up s1 hsq)
  have hgi : l.getD i default = l[i] := by simp [List.getD, hi]
  have hgood : goodJ l s t v i = true := by
    unfold goodJ belK
    rw [hgi, hii, Int.toNat_natCast]
    simp only [Bool.and_eq_true, decide_eq_true_eq]
    exact ⟨by omega, hval⟩
  have hle : j ≤ i := by
    apply Nat.le_of_not_lt
    intro hlt
    obtain ⟨_, pre, post, hr, hno⟩ := List.find?_eq_some_iff_append.1 hj
    have hmem : i ∈ pre := by
      have hlen : pre.length = j := by
        have h1 : (List.range l.length)[pre.length]? = some j := by rw [hr]; simp
        rw [List.getElem?_range] at h1
        · simpa using h1
        · have : (List.range l.length).length = (pre ++ j :: post).length := by rw [hr]
          simp at this; omega
      have h2 : (List.range l.length)[i]? = some i := by rw [List.getElem?_range (by omega)]
      rw [hr, List.getElem?_append_left (by omega)] at h2
      exact List.mem_of_getElem? h2
    have := hno i hmem
    rw [hgood] at this
    simp at this
  obtain ⟨d, rfl⟩ : ∃ d, i = j + d := ⟨i - j, by omega⟩
  have := valid_mono hv d j hi
  omega
theorem learned_sp {l : List api_Record} (s t v : Int) : ∃ r, ledger_Learned l s t v = some r ∧ ref42_Learned l s t v = some r := by
  obtain ⟨c, c1, _, c3⟩ := changes_sp (l := l) s t
  by_cases hv : ValidL l
  · have hl := hv.1
    rw [if_pos hv] at c3
    subst c3
    have hlen := (ch_inv hv s t l.length (Nat.le_refl _)).1
    refine ⟨(((List.range l.length).find? (goodJ l s t v)).map fun j => ((l.getD j default).Known, true)).getD (0, false), ?_, ?_⟩
    · unfold ledger_Learned
      rw [c1]
      simp only [Option.bind_some]
      have hfind := find_ch hv s t v l.length (Nat.le_refl _)
      have key : ∀ (m i : Nat), i + m = (chSt l s t l.length).2.length → ((chSt l s t l.length).2.drop i).find? (fun x => x.Value == v) = (chSt l s t l.length).2.find? (fun x => x.Value == v) →
          iter (ledger_Learned_l0 ((chSt l s t l.length).2, 0) v l) (i : Int) = some ((((chSt l s t l.length).2.find? (fun x => x.Value == v)).map fun x => Sum.inr ((l.getD x.Record.toNat default).Known, true)).getD (.inl ())) := fun m => by
        induction m with
        | zero =>
          intro i h hd
          rw [← hd, List.drop_eq_nil_of_le (by omega)]
          refine iter_out ?_
          unfold ledger_Learned_l0
          rw [if_neg (by simp; omega)]
          rfl
        | succ m ih =>
          intro i h hd
          have hi : i < (chSt l s t l.length).2.length := by omega
          rw [List.drop_eq_getElem_cons hi, List.find?_cons] at hd
          by_cases hc : ((chSt l s t l.length).2[i].Value == v) = true
          · rw [hc] at hd
            rw [← hd]
            refine iter_out ?_
            unfold ledger_Learned_l0
            simp only
            rw [if_pos (by simp; omega), idx_lt hi]
            simp only [Option.bind_some]
            rw [if_pos hc]
            -- the record is there
            rw [hfind] at hd
            cases hf : (List.range l.length).find? (goodJ l s t v) with
            | none => rw [hf] at hd; cases hd
            | some j =>
              rw [hf] at hd
              obtain ⟨hjl, hb, h0, _⟩ := first_known hv s t v hf
              have e := Option.some.inj hd
              rw [e]
              simp only
              rw [idx_toNat h0 hb]
              have : l.getD (belK l s t j).toNat default = l[(belK l s t j).toNat] := by simp [List.getD, hb]
              simp only [Option.bind_some, Option.map_some, Option.getD_some]
              rw [this]
          · have hc' : ((chSt l s t l.length).2[i].Value == v) = false := by simpa using hc
            rw [hc'] at hd
            have hgo : ledger_Learned_l0 ((chSt l s t l.length).2, 0) v l (i : Int) = some (.go ((i + 1 : Nat) : Int)) := by
              unfold ledger_Learned_l0
              simp only
              rw [if_pos (by simp; omega), idx_lt hi, w64 (by omega) (by omega)]
              simp only [Option.bind_some]
              rw [if_neg hc]
              rfl
            rw [iter_go hgo]
            exact ih (i + 1) (by omega) hd
      have hk : iter (ledger_Learned_l0 ((chSt l s t l.length).2, 0) v l) 0 = _ := key (chSt l s t l.length).2.length 0 (by omega) rfl
      rw [hk, hfind]
      simp only [Option.bind_some]
      cases hf : (List.range l.length).find? (goodJ l s t v) with
      | none => rfl
      | some j =>
        obtain ⟨hjl, hb, h0, hk⟩ := first_known hv s t v hf
        have e1 : l.getD (belK l s t j).toNat default = l[(belK l s t j).toNat] := by simp [List.getD, hb]
        have e2 : l.getD j default = l[j] := by simp [List.getD, hjl]
        simp only [Option.map_some, Option.getD_some]
        rw [e1, e2, hk]
    · unfold ref42_Learned
      rw [rvalid_sp, decide_eq_true hv]
      simp only [Option.bind_some]
      rw [if_neg (by simp)]
      have hb : ∀ i, i < l.length → ref42_Learned_l0 l s t v (i : Int) = some (if goodJ l s t v i = true then .out (.inr ((l.getD i default).Known, true)) else .go ((i + 1 : Nat) : Int)) := fun i hi => by
        have hg : l.getD i default = l[i] := by simp [List.getD, hi]
        have hk : belK l s t i = bel l l[i].Known s t := by unfold belK; rw [hg]
        unfold ref42_Learned_l0
        rw [if_pos (by simp; omega), idx_lt hi, w64 (by omega) (by omega)]
        simp only [Option.bind_some]
        rw [rBelieve_sp, if_pos hv, ← hk]
        simp only [Option.bind_some]
        unfold goodJ
        by_cases h0 : belK l s t i < 0
        · rw [if_pos h0, decide_eq_false (by omega)]
          simp
        · rw [if_neg h0, decide_eq_true (by omega), hg]
          simp only [Bool.true_and]
          split <;> rfl
      have key : ∀ (m i : Nat), i + m = l.length → (∀ j, j < i → goodJ l s t v j = false) → iter (ref42_Learned_l0 l s t v) (i : Int) = some ((((List.range l.length).find? (goodJ l s t v)).map fun j => Sum.inr ((l.getD j default).Known, true)).getD (.inl ())) := fun m => by
        induction m with
        | zero =>
          intro i h hn
          have : (List.range l.length).find? (goodJ l s t v) = none := List.find?_eq_none.2 fun j hj => by rw [hn j (by have := List.mem_range.1 hj; omega)]; simp
          rw [this]
          refine iter_out ?_
          unfold ref42_Learned_l0
          rw [if_neg (by simp; omega)]
          rfl
        | succ m ih =>
          intro i h hn
          have hi : i < l.length := by omega
          have hbi := hb i hi
          by_cases hg : goodJ l s t v i = true
          · rw [if_pos hg] at hbi
            have : (List.range l.length).find? (goodJ l s t v) = some i := by
              rw [show l.length = i + (1 + m) by omega, List.range_add, List.find?_append]
              have h1 : (List.range i).find? (goodJ l s t v) = none := List.find?_eq_none.2 fun j hj => by rw [hn j (by have := List.mem_range.1 hj; omega)]; simp
              rw [h1, show 1 + m = m + 1 by omega, List.range_succ_eq_map]
              simp [hg]
            rw [this]
            exact iter_out hbi
          · rw [if_neg hg] at hbi
            rw [iter_go hbi]
            refine ih (i + 1) (by omega) fun j hj => ?_
            by_cases e : j = i
            · subst e; simpa using hg
            · exact hn j (by omega)
      have hk : iter (ref42_Learned_l0 l s t v) 0 = _ := key l.length 0 (by omega) (fun j h => by omega)
      rw [hk]
      simp only [Option.bind_some]
      cases (List.range l.length).find? (goodJ l s t v) <;> rfl
  · rw [if_neg hv] at c3
    subst c3
    refine ⟨(0, false), ?_, ?_⟩
    · unfold ledger_Learned
      rw [c1]
      simp only [Option.bind_some]
      have : iter (ledger_Learned_l0 (([], 44) : (List api_Belief) × Int) v l) 0 = some (.inl ()) := by
        refine iter_out ?_
        unfold ledger_Learned_l0
        rw [if_neg (by simp)]
      rw [this]
      rfl
    · unfold ref42_Learned
      rw [rvalid_sp, decide_eq_false hv]
      rfl
open Classical in
noncomputable def appV (l : List api_Record) (r : api_Record) : List api_Record × Int := if ValidL l then (if 100 ≤ (l.length : Int) then ([], 3) else if ValidL (l ++ [r]) then (l ++ [r], 0) else ([], 44)) else ([], 44)
theorem append1 (l : List api_Record) (r : api_Record) : ledger_Append l r = some (appV l r) := by
  unfold ledger_Append appV
  rw [lcheck_sp]
  by_cases hv : ValidL l
  · have hl := hv.1
    rw [if_pos hv, if_pos hv]
    simp only [Option.bind_some]
    rw [if_neg (show ¬ ((0 : Int) != 0) = true by decide)]
    by_cases h : 100 ≤ (l.length : Int)
    · rw [if_pos (show decide (100 ≤ (l.length : Int)) = true from decide_eq_true h), if_pos h]
    · rw [if_neg (show ¬ decide (100 ≤ (l.length : Int)) = true by rw [decide_eq_false h]; decide), if_neg h, ck_t (by omega)]
      simp only [Option.bind_some, Int.toNat_natCast, List.take_length]
      rw [ck_t (by simp; omega), lcheck_sp]
      simp only [Option.bind_some]
      by_cases hv2 : ValidL (l ++ [r])
      · rw [if_pos hv2, if_pos hv2, if_neg (show ¬ ((0 : Int) != 0) = true by decide)]
      · rw [if_neg hv2, if_neg hv2, if_pos (show ((44 : Int) != 0) = true by decide)]
  · rw [if_neg hv, if_neg hv]
    rfl
theorem append2 (l : List api_Record) (r : api_Record) : ref42_Append l r = some (appV l r) := by
  unfold ref42_Append appV
  rw [rvalid_sp]
  by_cases hv : ValidL l
  · have hl := hv.1
    rw [decide_eq_true hv, if_pos hv]
    simp only [Option.bind_some]
    rw [if_neg (show ¬ (!true) = true by decide)]
    by_cases h : 100 ≤ (l.length : Int)
    · rw [if_pos (show decide (100 ≤ (l.length : Int)) = true from decide_eq_true h), if_pos h]
    · rw [if_neg (show ¬ decide (100 ≤ (l.length : Int)) = true by rw [decide_eq_false h]; decide), if_neg h, ck_t (by omega)]
      simp only [Option.bind_some]
      rw [ck_t (by simp; omega), rvalid_sp]
      simp only [Option.bind_some]
      by_cases hv2 : ValidL (l ++ [r])
      · rw [decide_eq_true hv2, if_pos hv2, if_neg (show ¬ (!true) = true by decide)]
      · rw [decide_eq_false hv2, if_neg hv2, if_pos (show (!false) = true by decide)]
  · rw [decide_eq_false hv, if_neg hv]
    rfl
theorem append_sp (l : List api_Record) (r : api_Record) : ∃ q, ledger_Append l r = some q ∧ ref42_Append l r = some q ∧ q.1.length ≤ 1000 := by
  refine ⟨_, append1 l r, append2 l r, ?_⟩
  unfold appV
  by_cases hv : ValidL l
  · have := hv.1
    rw [if_pos hv]
    split
    · simp
    · split
      · simp; omega
      · simp
  · rw [if_neg hv]; simp
theorem same_sp {l : List api_Record} (hl : l.length ≤ 1000) : ref42_Same l l = some true := by
  unfold ref42_Same
  rw [if_neg (by simp)]
  have := iter_all (body := ref42_Same_l0 l l) l.length (fun _ => true) (fun i hi => ?_) ?_
  · rw [this, if_pos (fun _ _ => rfl)]; rfl
  · unfold ref42_Same_l0
    rw [if_pos (by simp; omega), idx_lt hi, w64 (by omega) (by omega)]
    simp
  · unfold ref42_Same_l0
    rw [if_neg (by simp)]
theorem beliefs_sp {l : List api_Belief} (hl : l.length ≤ 1000) : ref42_Beliefs l l = some true := by
  unfold ref42_Beliefs
  rw [if_neg (by simp)]
  have := iter_all (body := ref42_Beliefs_l0 l l) l.length (fun _ => true) (fun i hi => ?_) ?_
  · rw [this, if_pos (fun _ _ => rfl)]; rfl
  · unfold ref42_Beliefs_l0
    rw [if_pos (by simp; omega), idx_lt hi, w64 (by omega) (by omega)]
    simp
  · unfold ref42_Beliefs_l0
    rw [if_neg (by simp)]
theorem lineS_len (l : List api_Record) (k s : Int) : (lineS l k s).length ≤ l.length := by
  unfold lineS lineF
  rw [List.length_mergeSort, List.length_map]
  exact Nat.le_trans (List.length_filter_le _ _) (by simp)
theorem exact_l2 {l20 : List (List Int)} (h3 : l20.length = 3) (x : List api_Record) : iter (law42_LedgerExact_l2 l20 x) 0 = some (.inl ()) := by
  have := iter_all (body := law42_LedgerExact_l2 l20 x) 3 (fun _ => true) (fun i hi => ?_) ?_
  · rw [this, if_pos (fun _ _ => rfl)]
  · unfold law42_LedgerExact_l2
    rw [if_pos (by simp; omega), ck_t (by omega), idx_lt (by omega)]
    simp only [Option.bind_some]
    generalize l20[i]'(by omega) = q
    rw [Believe_sp, rBelieve_sp, line_sp, rline_sp]
    obtain ⟨r, r1, r2⟩ := learned_sp (l := x) (arD q 1) (arD q 2) (arD q 3)
    obtain ⟨c, c1, c2, c3⟩ := changes_sp (l := x) (arD q 1) (arD q 2)
    simp only [Option.bind_some]
    rw [r1, r2]
    simp only [Option.bind_some]
    rw [c1, c2]
    simp only [Option.bind_some]
    rw [w64 (by omega) (by omega)]
    have hs : ref42_Same (if ValidL x then (lineS x (arD q 0) (arD q 1), (0 : Int)) else ([], 44)).1 (if ValidL x then (lineS x (arD q 0) (arD q 1), (0 : Int)) else ([], 44)).1 = some true := same_sp (by
      by_cases hv : ValidL x
      · rw [if_pos hv]; have := lineS_len x (arD q 0) (arD q 1); have := hv.1; simp only; omega
      · rw [if_neg hv]; simp)
    have hb : ref42_Beliefs c.1 c.1 = some true := beliefs_sp (by
      rw [c3]
      by_cases hv : ValidL x
      · rw [if_pos hv]; have := (ch_inv hv (arD q 1) (arD q 2) x.length (Nat.le_refl _)).1; have := hv.1; simp only; omega
      · rw [if_neg hv]; simp)
    rw [hs, hb]
    simp
  · unfold law42_LedgerExact_l2
    rw [if_neg (by decide)]
theorem exact_l3 {l26 : List api_Record} (h2 : l26.length = 2) (x : List api_Record) : iter (law42_LedgerExact_l3 l26 x) 0 = some (.inl ()) := by
  have := iter_all (body := law42_LedgerExact_l3 l26 x) 2 (fun _ => true) (fun i hi => ?_) ?_
  · rw [this, if_pos (fun _ _ => rfl)]
  · unfold law42_LedgerExact_l3
    rw [if_pos (by simp; omega), ck_t (by omega), idx_lt (by omega)]
    simp only [Option.bind_some]
    obtain ⟨q, q1, q2, q3⟩ := append_sp x (l26[i]'(by omega))
    rw [q1, q2]
    simp only [Option.bind_some]
    rw [same_sp q3, w64 (by omega) (by omega)]
    simp
  · unfold law42_LedgerExact_l3
    rw [if_neg (by decide)]
theorem exact_l1 {l5 : List (List api_Record)} (h5 : l5.length = 3) {a3 a4 a5 a6 : Int} {a2 : api_Record} : ∀ (m i : Nat) (t : make_Tape), i + m = 3 → TOk t → iter (law42_LedgerExact_l1 l5 a3 a4 a5 a6 a2) ((i : Int), t.L, t.at_) = some (.inl ()) := fun m => by
  induction m with
  | zero =>
    intro i t h _
    refine iter_out ?_
    unfold law42_LedgerExact_l1
    rw [if_neg (by simp; omega)]
  | succ m ih =>
    intro i t h ht
    have hi : i < 3 := by omega
    obtain ⟨v1, m1, e1, _, _, t1⟩ := next_ex ht (n := 30) (by omega)
    obtain ⟨v2, m2, e2, _, _, t2⟩ := next_ex t1 (n := 2) (by omega)
    obtain ⟨v3, m3, e3, _, _, t3⟩ := next_ex t2 (n := 14) (by omega)
    obtain ⟨v4, m4, e4, _, _, t4⟩ := between_ex t3 (a := -2) (b := 4) (by omega) (by omega) (by omega)
    obtain ⟨v5, m5, e5, _, _, t5⟩ := next_ex t4 (n := 30) (by omega)
    obtain ⟨v6, m6, e6, _, _, t6⟩ := between_ex t5 (a := -1) (b := 16) (by omega) (by omega) (by omega)
    obtain ⟨v7, m7, e7, _, _, t7⟩ := between_ex t6 (a := -1) (b := 14) (by omega) (by omega) (by omega)
    obtain ⟨v8, m8, e8, _, _, t8⟩ := between_ex t7 (a := -2) (b := 4) (by omega) (by omega) (by omega)
    obtain ⟨w1, n1, f1, _, _, s1⟩ := next_ex t8 (n := 40) (by omega)
    obtain ⟨w2, n2, f2, _, _, s2⟩ := next_ex s1 (n := 9) (by omega)
    obtain ⟨w3, n3, f3, _, _, s3⟩ := next_ex s2 (n := 17) (by omega)
    obtain ⟨w4, n4, f4, _, _, s4⟩ := next_ex s3 (n := 3) (by omega)
    have hgo : law42_LedgerExact_l1 l5 a3 a4 a5 a6 a2 ((i : Int), t.L, t.at_) = some (.go (((i + 1 : Nat) : Int), n4.L, n4.at_)) := by
      unfold law42_LedgerExact_l1
      simp only
      rw [if_pos (by simp; omega), ck_t (by omega), idx_lt (by omega)]
      simp only [Option.bind_some]
      generalize l5[i]'(by omega) = x
      have hch : ledger_Check x = ref42_Check x := by
        unfold ref42_Check
        rw [lcheck_sp, rvalid_sp]
        by_cases hv : ValidL x <;> simp [hv]
      rw [← hch, lcheck_sp]
      simp only [Option.bind_some]
      rw [if_neg (by simp), show (⟨t.L, t.at_⟩ : make_Tape) = t from rfl, e1]
      simp only [Option.bind_some]
      rw [e2]
      simp only [Option.bind_some]
      rw [e3]
      simp only [Option.bind_some]
      rw [e4]
      simp only [Option.bind_some]
      rw [e5]
      simp only [Option.bind_some]
      rw [e6]
      simp only [Option.bind_some]
      rw [e7]
      simp only [Option.bind_some]
      rw [e8]
      simp only [Option.bind_some]
      rw [exact_l2 rfl]
      simp only [Option.bind_some]
      rw [f1]
      simp only [Option.bind_some]
      rw [f2]
      simp only [Option.bind_some]
      rw [f3]
      simp only [Option.bind_some]
      rw [f4]
      simp only [Option.bind_some]
      rw [exact_l3 rfl, w64 (by omega) (by omega)]
      rfl
    rw [iter_go hgo]
    exact ih (i + 1) n4 (by omega) s4
theorem exact_j0 {y3 : (List api_Record) × make_Tape} {a1 : List api_Record} {a3 a4 a5 a6 : Int} {a2 : api_Record} {t : make_Tape} (ht : TOk t) (l : List api_Record) : law42_LedgerExact_j0 y3 a1 a3 a4 a5 a6 a2 (t.L, t.at_, l) = some true := by
  unfold law42_LedgerExact_j0
  simp only [Option.bind_some]
  rw [show ((0 : Int), t.L, t.at_) = (((0 : Nat) : Int), t.L, t.at_) from rfl, exact_l1 rfl 3 0 t rfl ht]
  simp only [Option.bind_some]
  rw [awake42]
  rfl
theorem LedgerExact_law (a0 : List Int) (a1 : List api_Record) (a2 : api_Record) (a3 a4 a5 a6 : Int) : law42_LedgerExact a0 a1 a2 a3 a4 a5 a6 = some true := by
  unfold law42_LedgerExact
  simp only [Option.bind_some]
  split
  · rw [awake42]; rfl
  · rename_i h
    have ha : ¬ 200 < (a0.length : Int) := fun q => h (by simp [q])
    obtain ⟨l, m1, e1, hv, hl, t1⟩ := make_Ledger_ex (m := ⟨a0, 0⟩) ⟨by simp, by simp, by simp; omega⟩
    rw [e1]
    simp only [Option.bind_some]
    rw [ck_t (by omega)]
    simp only [Option.bind_some]
    by_cases h0 : 0 < (l.length : Int)
    · rw [if_pos (by simpa using h0)]
      obtain ⟨v, m2, e2, v0, v1, t2⟩ := next_ex t1 (n := (l.length : Int)) h0
      obtain ⟨u, m3, e3, u0, u1, t3⟩ := next_ex t2 (n := 4) (by omega)
      rw [e2]
      simp only [Option.bind_some]
      rw [ck_t (by omega)]
      simp only [Option.bind_some]
      rw [e3]
      simp only [Option.bind_some]
      have hidx : idx l v = some (l[v.toNat]'(by omega)) := idx_toNat v0 (by omega)
      rw [hidx]
      split
      · obtain ⟨b, m4, e4, _, _, t4⟩ := between_ex t3 (a := -1) (b := 30) (by omega) (by omega) (by omega)
        rw [e4]
        simp only [Option.bind_some]
        exact exact_j0 t4 _
      split
      · obtain ⟨b, m4, e4, _, _, t4⟩ := between_ex t3 (a := -1) (b := 12) (by omega) (by omega) (by omega)
        rw [e4]
        simp only [Option.bind_some]
        exact exact_j0 t4 _
      split
      · obtain ⟨b, m4, e4, _, _, t4⟩ := between_ex t3 (a := -1) (b := 16) (by omega) (by omega) (by omega)
        rw [e4]
        simp only [Option.bind_some]
        exact exact_j0 t4 _
      · obtain ⟨b, m4, e4, b0, b1, t4⟩ := next_ex t3 (n := 4) (by omega)
        unfold make_Pick
        rw [show ((([1000000, 1000001, (-1000000), (-1000001)] : List Int).length : Nat) : Int) = 4 from rfl, e4]
        simp only [Option.bind_some]
        rw [idx_toNat b0 (by simp; omega)]
        simp only [Option.bind_some]
        exact exact_j0 t4 _
    · rw [if_neg (by simpa using h0)]
      exact exact_j0 t1 _
end Go.Vl
