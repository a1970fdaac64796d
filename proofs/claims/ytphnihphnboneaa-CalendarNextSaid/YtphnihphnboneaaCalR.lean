/- Plain laws of calendars: what the tape makes. Conditions: none. -/
import Derived.Test.YtphnihphnboneaaCalQ
set_option linter.unusedSimpArgs false
set_option linter.unusedVariables false
namespace Go.Vl
open Go

/-- a tape that stands in its list -/
def TapeOk (m : make_Tape) : Prop := 0 ≤ m.at_ ∧ m.L.length ≤ 1000000
def tnextV (m : make_Tape) (n : Int) : Int := if (m.L.length : Int) ≤ m.at_ then 0 else ((m.L[m.at_.toNat]?.getD 0) % 65536) % n
def tnextT (m : make_Tape) : make_Tape := if (m.L.length : Int) ≤ m.at_ then m else ⟨m.L, m.at_ + 1⟩
theorem tnextT_ok {m : make_Tape} (h : TapeOk m) : TapeOk (tnextT m) := by
  unfold tnextT; split
  · exact h
  · exact ⟨by have := h.1; simp <;> omega, h.2⟩
theorem tnextV_bd (m : make_Tape) {n : Int} (hn : 0 < n) : 0 ≤ tnextV m n ∧ tnextV m n < n := by
  unfold tnextV; split
  · omega
  · exact ⟨Int.emod_nonneg _ (by omega), Int.emod_lt_of_pos _ hn⟩
theorem next_spT {m : make_Tape} (h : TapeOk m) {n : Int} (hn : 0 < n) : make_Tape_Next m n = some (tnextV m n, tnextT m) := by
  obtain ⟨h1, h2⟩ := h
  unfold make_Tape_Next tnextV tnextT
  by_cases hb : (m.L.length : Int) ≤ m.at_
  · rw [if_pos (by simpa using hb), if_pos hb, if_pos hb]
  · rw [if_neg (by simpa using hb), if_neg hb, if_neg hb, idx_toNat h1 (by omega), List.getElem?_eq_getElem (show m.at_.toNat < m.L.length by omega)]
    simp only [Option.bind_some, ck_t (show n ≠ 0 by omega), Option.getD_some, bAnd16]
    rw [Int.tmod_eq_emod_of_nonneg (Int.emod_nonneg _ (by omega)), w64 (by omega) (by omega)]
theorem between_spT {m : make_Tape} (h : TapeOk m) {a b : Int} (hab : a ≤ b) (ha : -1000000 ≤ a) (hb : b ≤ 1000000) : make_Tape_Between m a b = some (a + tnextV m (b - a + 1), tnextT m) := by
  have := tnextV_bd m (n := b - a + 1) (by omega)
  unfold make_Tape_Between
  rw [w64 (x := b - a) (by omega) (by omega), w64 (x := b - a + 1) (by omega) (by omega), next_spT h (by omega)]
  simp only [Option.bind_some]
  rw [w64 (by omega) (by omega)]
theorem pick_spT {m : make_Tape} (h : TapeOk m) {l : List Int} (hl : 0 < l.length) : ∃ x ∈ l, make_Pick m l = some (x, tnextT m) := by
  have hb := tnextV_bd m (n := (l.length : Int)) (by omega)
  unfold make_Pick
  rw [next_spT h (by omega)]
  simp only [Option.bind_some]
  refine ⟨l[(tnextV m (l.length : Int)).toNat]'(by omega), List.getElem_mem _, ?_⟩
  rw [idx_toNat hb.1 (by omega)]
  rfl
theorem few_spT {m : make_Tape} (h : TapeOk m) : ∃ (l : List Int) (m' : make_Tape), make_Few m 12 4 = some (l, m') ∧ TapeOk m' ∧ l.Pairwise (· < ·) ∧ (∀ x ∈ l, 0 ≤ x ∧ x < 12) ∧ l.length ≤ 12 := by
  unfold make_Few
  have key : ∃ e, iter (make_Few_l0 12 4) (0, m.L, m.at_, []) = some e ∧ (TapeOk ⟨e.1, e.2.1⟩ ∧ e.2.2.Pairwise (· < ·) ∧ (∀ x ∈ e.2.2, 0 ≤ x ∧ x < 12) ∧ (e.2.2.length : Int) ≤ 12) := by
    refine iter_ex (body := make_Few_l0 12 4) (fun s => 0 ≤ s.1 ∧ s.1 ≤ 12 ∧ TapeOk ⟨s.2.1, s.2.2.1⟩ ∧ s.2.2.2.Pairwise (· < ·) ∧ (∀ x ∈ s.2.2.2, 0 ≤ x ∧ x < s.1) ∧ (s.2.2.2.length : Int) ≤ s.1) (fun s => (12 - s.1).toNat) _ ?_ ⟨by simp, by simp, h, .nil, by simp, by simp⟩
    rintro ⟨i, L, p, out⟩ ⟨g1, g2, g3, g4, g5, g6⟩
    simp only at g1 g2 g3 g4 g5 g6
    unfold make_Few_l0
    simp only
    by_cases hi : i < 12
    · left
      rw [if_pos (by simpa using hi), next_spT g3 (by omega)]
      simp only [Option.bind_some]
      rw [w64 (x := i + 1) (by omega) (by omega)]
      split
      · rw [ck_t (by simp <;> omega)]
        refine ⟨_, rfl, ⟨by simp <;> omega, by simp <;> omega, tnextT_ok g3, ?_, ?_, ?_⟩, by simp <;> omega⟩
        · rw [List.pairwise_append]
          exact ⟨g4, List.pairwise_singleton _ _, fun a ha b hb => by simp at hb; subst hb; exact (g5 a ha).2⟩
        · intro x hx
          simp only [List.mem_append, List.mem_singleton] at hx
          rcases hx with hx | rfl
          · have := g5 x hx; simp only; omega
          · simp only; omega
        · simp <;> omega
      · refine ⟨_, rfl, ⟨by simp <;> omega, by simp <;> omega, tnextT_ok g3, g4, fun x hx => ?_, ?_⟩, by simp <;> omega⟩
        · have := g5 x hx; simp only; omega
        · simp only; omega
    · right
      rw [if_neg (by simpa using hi)]
      exact ⟨_, rfl, g3, g4, fun x hx => by have := g5 x hx; show 0 ≤ x ∧ x < 12; omega, by show (out.length : Int) ≤ 12; omega⟩
  obtain ⟨e, he, h1, h2, h3, h4⟩ := key
  rw [he]
  exact ⟨_, _, rfl, h1, h2, h3, by omega⟩

/-- what the tape's calendars are like -/
structure MadeC (c : api_Calendar) : Prop where
  ok : OkC c
  day : 1 ≤ c.Day ∧ c.Day ≤ 12
  week : c.Week ∈ [31, 127, 62, 1]
  hol : ∀ x ∈ c.Holidays, 0 ≤ x ∧ x < 12
  len : c.Holidays.length ≤ 12
theorem calendar_spT {m : make_Tape} (h : TapeOk m) : ∃ (c : api_Calendar) (m' : make_Tape), make_Calendar m = some (c, m') ∧ TapeOk m' ∧ MadeC c := by
  have d := tnextV_bd m (n := 12 - 1 + 1) (by omega)
  unfold make_Calendar
  rw [between_spT h (by omega) (by omega) (by omega)]
  simp only [Option.bind_some]
  have h1 := tnextT_ok h
  obtain ⟨w, hw, e2⟩ := pick_spT h1 (l := [31, 127, 62, 1]) (by simp)
  rw [e2]
  simp only [Option.bind_some]
  have h2 := tnextT_ok h1
  have f := tnextV_bd (tnextT (tnextT m)) (n := 1 + tnextV m (12 - 1 + 1)) (by omega)
  rw [next_spT h2 (by omega)]
  simp only [Option.bind_some]
  have h3 := tnextT_ok h2
  rw [w64 (by omega) (by omega), between_spT h3 (by omega) (by omega) (by omega)]
  simp only [Option.bind_some]
  have h4 := tnextT_ok h3
  obtain ⟨l, m', e5, k1, k2, k3, k4⟩ := few_spT h4
  rw [e5]
  simp only [Option.bind_some]
  generalize tnextV (tnextT (tnextT m)) (1 + tnextV m (12 - 1 + 1)) = fr at *
  have t := tnextV_bd (tnextT (tnextT (tnextT m))) (n := 1 + tnextV m (12 - 1 + 1) - (fr + 1) + 1) (by omega)
  refine ⟨_, _, rfl, k1, ⟨⟨by simp only; omega, by simp only; omega, by simp only; omega, by simp only; omega, ?_, by simp only; omega, (ascB_iff _).2 k2, fun x hx => (k3 x hx).1⟩, by simp only; omega, hw, k3, k4⟩⟩
  simp only [List.mem_cons, List.not_mem_nil, or_false] at hw
  simp only; omega
end Go.Vl
