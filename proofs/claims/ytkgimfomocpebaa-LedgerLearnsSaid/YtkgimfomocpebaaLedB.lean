/- Walks over functions of the given program in the value logic: what each computes, and plain laws of it. Conditions: none. -/
import Derived.Test.YtkgimfomocpebaaLedA
set_option linter.unusedSimpArgs false
set_option linter.unusedVariables false
namespace Go.Vl
open Go Go.Proofs

def says (k u t : Int) (r : Rec) : Bool := decide (r.k ≤ k) && (r.u == u) && decide (r.s ≤ t)
def better (l : List Rec) (o : Option Nat) (r : Rec) : Bool := match o with | none => true | some j => decide ((l[j]?.map Rec.s).getD 0 ≤ r.s)
def bel (l : List Rec) (k u t : Int) : Nat → Option Nat
  | 0 => none
  | i + 1 => match l[i]? with
    | some r => if says k u t r && better l (bel l k u t i) r then some i else bel l k u t i
    | none => bel l k u t i
def outI : Option Nat → Int
  | none => -1
  | some j => j
theorem bel_lt {l : List Rec} {k u t : Int} : ∀ {i j : Nat}, bel l k u t i = some j → j < i ∧ ∃ r, l[j]? = some r ∧ says k u t r = true
  | 0, j, h => by simp [bel] at h
  | i + 1, j, h => by
    simp only [bel] at h
    split at h
    · rename_i r hr
      split at h
      · rename_i hs; cases h; simp only [Bool.and_eq_true] at hs; exact ⟨by omega, r, hr, hs.1⟩
      · obtain ⟨h1, h2⟩ := bel_lt h; exact ⟨by omega, h2⟩
    · obtain ⟨h1, h2⟩ := bel_lt h; exact ⟨by omega, h2⟩

set_option maxHeartbeats 4000000 in
theorem bel_ok (l : List Rec) (k u t : Int) (hlen : l.length ≤ 4294967296) : FnOK Try.prog 21 [] [.d (.slice (recs l)), .d (.int .i64 k), .d (.int .i64 u), .d (.int .i64 t)] (.d (.int .i64 (outI (bel l k u t l.length)))) [] := by
  refine fn_ok (nt := 52) (rs := [.tmp 8]) Try.func21 rfl Try.ntmps21 rfl (by simp) (by decide) rfl fun K => ?_
  refine sr (by simp; rfl) ?_ -- region 0 "ledger.go:36"
  refine sr (by simp; rfl) ?_ -- region 1 "ledger.go:37"
  refine tr_seq ?_
  refine sr (by simp; rfl) ?_ -- region 2 "ledger.go:38"
  refine tr_block (tr_loop (ι := { i : Nat // i ≤ l.length })
    (fun i => { nt := 52, env := [(12, .d (.slice (recs l))), (13, .d (.int .i64 l.length)), (14, .d (.int .i64 i.1)), (9, .d (.int .i64 (outI (bel l k u t i.1)))), (0, .d (.slice (recs l))), (1, .d (.int .i64 k)), (2, .d (.int .i64 u)), (3, .d (.int .i64 t))], box := [], vec := [] })
    (fun i => l.length - i.1) ⟨0, by simp⟩ (by simp [weak_iff, bel, outI]) fun ⟨i, hi⟩ => ?_) -- block 0
  refine sr (by simp; rfl) ?_ -- region 3 "ledger.go:38"
  refine tr_seq ?_
  refine tr_cond (by simp; rfl) (fun h => ?_) (fun h => ?_) -- t15
  · simp at h
    have hr : l[i]? = some l[i] := by simp [h]
    generalize l[i] = r at hr
    have hrow := recs_get hr
    have hstep : bel l k u t (i + 1) = if says k u t r && better l (bel l k u t i) r then some i else bel l k u t i := by simp [bel, hr]
    refine tr_skip ?_
    refine tr_seq ?_
    refine tr_block ?_ -- block 1
    refine sr (by simp [hrow, Rec.row]; rfl) ?_ -- region 4 "ledger.go:38"
    refine sdw { nt := 52, env := [(48, .d (.bool (says k u t r && better l (bel l k u t i) r))), (10, .d (.int .i64 i)), (12, .d (.slice (recs l))), (13, .d (.int .i64 l.length)), (14, .d (.int .i64 i)), (9, .d (.int .i64 (outI (bel l k u t i)))), (0, .d (.slice (recs l))), (1, .d (.int .i64 k)), (2, .d (.int .i64 u)), (3, .d (.int .i64 t))], box := [], vec := [] } fol (by decide +kernel) ?_ ?_ -- region 5
    · unfold says
      cases c1 : decide (r.k ≤ k) with
      | false => exact ⟨_, by simp [c1]; rfl, by simp [weak_iff, c1]⟩
      | true =>
        cases c2 : (r.u == u) with
        | false => exact ⟨_, by simp [c1, c2]; rfl, by simp [weak_iff, c1, c2]⟩
        | true =>
          cases c3 : decide (r.s ≤ t) with
          | false =>
            exact ⟨_, by simp [c1, c2, c3]; rfl, by simp [weak_iff, c1, c2, c3]⟩
          | true =>
            cases ho : bel l k u t i with
            | none => exact ⟨_, by simp [c1, c2, c3, outI]; rfl, by simp [weak_iff, better, outI]⟩
            | some j =>
              obtain ⟨hj, rj, hrj, _⟩ := bel_lt ho
              have hrowj := recs_get hrj
              have hne : ((j : Int) == -1) = false := by simp
              exact ⟨_, by simp [c1, c2, c3, outI, hne, hrowj, Rec.row]; rfl, by simp [weak_iff, better, hrj, outI]⟩
    have e1 : IntKind.i64.wrap ((i : Int) + 1) = ((i + 1 : Nat) : Int) := wrapI (by omega) (by omega)
    refine tr_cond (by simp; rfl) (fun hb => ?_) (fun hb => ?_) -- t48
    · refine lr (by simp; rfl) ?_ -- region 6 "ledger.go:40"
      refine lr (by simp; rfl) ?_ -- region 7 "ledger.go:38"
      exact ⟨⟨i + 1, by omega⟩, by simp; omega, by simp [weak_iff, hstep, hb, e1, outI]⟩
    · refine tr_skip ?_
      refine lr (by simp; rfl) ?_ -- region 7 "ledger.go:38"
      exact ⟨⟨i + 1, by omega⟩, by simp; omega, by simp [weak_iff, hstep, hb, e1]⟩
  · simp at h
    obtain rfl : i = l.length := by omega
    refine tr_exit ?_ -- 0
    refine sr (by simp; rfl) ?_ -- region 8 "ledger.go:43"
    exact tr_ret ⟨[], by simp, rfl, by simp⟩
end Go.Vl
