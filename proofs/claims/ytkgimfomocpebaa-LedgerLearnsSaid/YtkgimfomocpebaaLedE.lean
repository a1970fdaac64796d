/- Walks over functions of the given program in the value logic: what each computes, and plain laws of it. Conditions: none. -/
import Derived.Test.YtkgimfomocpebaaLedD
set_option linter.unusedSimpArgs false
set_option linter.unusedVariables false
namespace Go.Vl
open Go Go.Proofs

/-! plain laws of ledgers -/
def lastK : Int → List Rec → Int
  | k, [] => k
  | _, r :: l => lastK r.k l
theorem lastK_append (k : Int) (l : List Rec) (r : Rec) : lastK k (l ++ [r]) = r.k := by
  induction l generalizing k with
  | nil => rfl
  | cons a l ih => exact ih a.k
theorem chk_append (k : Int) (l : List Rec) (r : Rec) : chk k (l ++ [r]) ↔ chk k l ∧ okRec (lastK k l) r := by
  induction l generalizing k with
  | nil => simp [chk, lastK]
  | cons a l ih => simp [chk, lastK, ih, and_assoc]
theorem lastK_get (k : Int) (l : List Rec) (h : l ≠ []) : ∃ r, l[l.length - 1]? = some r ∧ r.k = lastK k l := by
  induction l generalizing k with
  | nil => exact absurd rfl h
  | cons a l ih =>
    cases l with
    | nil => exact ⟨a, rfl, rfl⟩
    | cons b l =>
      obtain ⟨r, h1, h2⟩ := ih a.k (by simp)
      refine ⟨r, ?_, h2⟩
      rw [← h1]; simp
theorem clock_get (t : Tape) : ∀ i j, j < i → (clockTo t i).1[j]? = some (clockTo t (j + 1)).2.1
  | 0, j, h => by omega
  | i + 1, j, h => by
    have hl := clock_len t i
    have hs : (clockTo t (i + 1)).1 = (clockTo t i).1 ++ [(clockTo t (i + 1)).2.1] := rfl
    rw [hs]
    by_cases hj : j < i
    · rw [List.getElem?_append_left (by omega)]; exact clock_get t i j hj
    · obtain rfl : j = i := by omega
      rw [List.getElem?_append_right (by omega)]; simp [hl]
theorem clock_mono (t : Tape) (i : Nat) : (clockTo t i).2.1 ≤ (clockTo t (i + 1)).2.1 := by
  have h2 := (clockTo t i).2.2.next_lt (n := 3) (by omega)
  simp only [clockTo]; omega
theorem led_valid (t : Tape) : Valid (ledger t) ∧ (ledger t).length < 12 ∧ 0 ≤ lastK 0 (ledger t) ∧ lastK 0 (ledger t) ≤ 27 := by
  have hn := t.next_lt (n := 12) (by omega)
  have hN12 : ledN t < 12 := by unfold ledN; omega
  have hlen : (ledger t).length = ledN t := recTo_len _ _ _
  have key : ∀ i, i ≤ ledN t → chk 0 (recTo (ledTape t) (ledTimes t) i).1 ∧ 0 ≤ lastK 0 (recTo (ledTape t) (ledTimes t) i).1 ∧ lastK 0 (recTo (ledTape t) (ledTimes t) i).1 ≤ (clockTo t.nextT i).2.1 := by
    intro i
    induction i with
    | zero => intro _; exact ⟨trivial, by simp [recTo, lastK], (clock_now t.nextT 0).1⟩
    | succ i ih =>
      intro hi
      obtain ⟨h1, h2, h3⟩ := ih (by omega)
      have hti : (ledTimes t)[i]? = some (clockTo t.nextT (i + 1)).2.1 := clock_get _ _ _ (by omega)
      have hm := clock_mono t.nextT i
      have hb := clock_now t.nextT (i + 1)
      generalize hq : recTo (ledTape t) (ledTimes t) i = c at *
      have hstep : (recTo (ledTape t) (ledTimes t) (i + 1)).1 = c.1 ++ [⟨(clockTo t.nextT (i + 1)).2.1, c.2.nextV 12, c.2.nextT.nextV 2, -2 + c.2.nextT.nextT.nextV 7⟩] := by simp [recTo, hq, hti]
      have a1 := c.2.next_lt (n := 12) (by omega)
      have a2 := c.2.nextT.next_lt (n := 2) (by omega)
      have a3 := c.2.nextT.nextT.next_lt (n := 7) (by omega)
      rw [hstep, chk_append, lastK_append]
      refine ⟨⟨h1, ?_⟩, ?_, ?_⟩
      · unfold okRec; refine ⟨⟨?_, ?_⟩, ⟨?_, ?_⟩, ⟨?_, ?_⟩, ⟨?_, ?_⟩⟩ <;> simp only <;> omega
      · simp only; omega
      · simp only; omega
  obtain ⟨k1, k2, k3⟩ := key (ledN t) (Nat.le_refl _)
  have hb := clock_now t.nextT (ledN t)
  refine ⟨⟨by omega, k1⟩, by omega, k2, ?_⟩
  have : lastK 0 (ledger t) ≤ (clockTo t.nextT (ledN t)).2.1 := k3
  omega
theorem bel_append {l : List Rec} {r : Rec} {k u t : Int} : ∀ i, i ≤ l.length → bel (l ++ [r]) k u t i = bel l k u t i
  | 0, _ => rfl
  | i + 1, h => by
    have ih := bel_append (l := l) (r := r) (k := k) (u := u) (t := t) i (by omega)
    have hg : (l ++ [r])[i]? = l[i]? := List.getElem?_append_left (by omega)
    simp only [bel, ih, hg]
    have hb : ∀ x, better (l ++ [r]) (bel l k u t i) x = better l (bel l k u t i) x := by
      intro x
      cases hq : bel l k u t i with
      | none => rfl
      | some j =>
        obtain ⟨hj, _⟩ := bel_lt hq
        simp only [better]
        rw [List.getElem?_append_left (by omega)]
    simp only [hb]
theorem blf_append {l : List Rec} {r : Rec} {k u t : Int} (h1 : Valid l) (h2 : Valid (l ++ [r])) (h : says k u t r = false) : blf (l ++ [r]) k u t = blf l k u t := by
  have e : bel (l ++ [r]) k u t (l ++ [r]).length = bel l k u t l.length := by
    simp only [List.length_append, List.length_cons, List.length_nil, Nat.zero_add, bel, List.getElem?_append_right (Nat.le_refl _), Nat.sub_self, List.getElem?_cons_zero, h, Bool.false_and, Bool.false_eq_true, if_false]
    exact bel_append _ (Nat.le_refl _)
  unfold blf
  rw [if_pos h1, if_pos h2, e]
  cases hq : bel l k u t l.length with
  | none => rfl
  | some j => obtain ⟨hj, _⟩ := bel_lt hq; simp only; rw [List.getElem?_append_left hj]

def awl : List Rec := [⟨5, 3, 0, 1⟩, ⟨9, 2, 0, 7⟩]
set_option maxHeartbeats 4000000 in
theorem awake_ok : FnOK Try.prog 8 [] [] (.d (.bool true)) [] := by
  have b1 : blf awl 9 0 4 = (1, 0, true) := by decide
  have b2 : blf awl 9 0 2 = (7, 1, true) := by decide
  have b3 : blf awl 5 0 2 = (0, -1, false) := by decide
  have b4 : errOf awl = 0 := by decide
  refine fn_ok (nt := 49) (rs := [.tmp 0]) Try.func8 rfl Try.ntmps8 rfl (by simp) (by decide) rfl fun K => ?_
  refine sr (by simp; rfl) ?_ -- region 0 "law.go:12"
  refine sr (by simp; rfl) ?_ -- region 1 "law.go:13"
  refine sc ?_ -- region 2 "law.go:14"
  refine so 1 (by simp; rfl) ?_
  refine tops_callv (believe_ok awl 9 0 4 (by decide)) (by simp) rfl rfl rfl Try.call12 (by simp) (by simp [awl, recs, Rec.row]) rfl ?_
  refine sl (by simp [blfA, b1]; rfl) ?_
  refine sc ?_ -- region 3 "law.go:15"
  refine so 1 (by simp; rfl) ?_
  refine tops_callv (believe_ok awl 9 0 2 (by decide)) (by simp) rfl rfl rfl Try.call12 (by simp) (by simp [awl, recs, Rec.row]) rfl ?_
  refine sl (by simp [blfA, b2]; rfl) ?_
  refine sc ?_ -- region 4 "law.go:16"
  refine so 1 (by simp; rfl) ?_
  refine tops_callv (believe_ok awl 5 0 2 (by decide)) (by simp) rfl rfl rfl Try.call12 (by simp) (by simp [awl, recs, Rec.row]) rfl ?_
  refine sl (by simp [blfA, b3]; rfl) ?_
  refine sc ?_ -- region 5 "law.go:17"  GUARDED
  refine so 20 (by simp; rfl) ?_
  refine tops_callv (check_ok awl) (by simp) rfl rfl rfl Try.call18 (by simp) (by simp [awl, recs, Rec.row]) rfl ?_
  refine sl (by simp [b4]; rfl) ?_
  exact tr_ret ⟨[], by simp, rfl, by simp⟩
end Go.Vl
