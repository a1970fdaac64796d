/- Walks over functions of the given program in the value logic: what each computes, and plain laws of it. Conditions: none. -/
import Derived.Test.YtkgimfomocpebaaLedC
set_option linter.unusedSimpArgs false
set_option linter.unusedVariables false
namespace Go.Vl
open Go Go.Proofs

def clockTo (t : Tape) : Nat → List Int × Int × Tape
  | 0 => ([], t.nextV 4, t.nextT)
  | i + 1 => let c := clockTo t i; (c.1 ++ [c.2.1 + c.2.2.nextV 3], c.2.1 + c.2.2.nextV 3, c.2.2.nextT)
theorem clock_len (t : Tape) : ∀ i, (clockTo t i).1.length = i
  | 0 => rfl
  | i + 1 => by simp [clockTo, clock_len t i]
theorem clock_now (t : Tape) : ∀ i, 0 ≤ (clockTo t i).2.1 ∧ (clockTo t i).2.1 ≤ 3 + 2 * (i : Int)
  | 0 => by have := t.next_lt (n := 4) (by omega); simp only [clockTo]; omega
  | i + 1 => by
    have h1 := clock_now t i
    have h2 := (clockTo t i).2.2.next_lt (n := 3) (by omega)
    simp only [clockTo]; omega

set_option maxHeartbeats 4000000 in
theorem clock_ok (t : Tape) (n : Nat) (hn : n ≤ 1000) : FnOK Try.prog 19 [t.cells] [.ptr (InO 0) 0, .d (.int .i64 n)] (.d (.slice (ints (clockTo t n).1))) [(clockTo t n).2.2.cells] := by
  refine fn_ok (nt := 24) (rs := [.tmp 4]) Try.func19 rfl Try.ntmps19 rfl (by simp) (by decide) rfl fun K => ?_
  refine sr (by simp; rfl) ?_ -- region 0 "second.go:24"
  refine sr (by simp; rfl) ?_ -- region 1 "second.go:25"
  refine sc ?_ -- region 2 "second.go:26"
  refine so 1 (by simp; rfl) ?_
  refine tops_call [1000000] (next_ok t 4 (by omega)) (by simp) rfl rfl rfl Try.call11 (by simp) (by simp) (by simp) (by simp [Tape.cells]) (by simp) ?_
  refine sl (by simp; rfl) ?_
  refine tr_seq ?_
  refine sr (by simp; rfl) ?_ -- region 3 "second.go:27"
  refine tr_own 5 22 3 1 (by simp) (by simp) ?_
  refine tr_block (tr_loop (ι := { i : Nat // i ≤ n })
    (fun i => { nt := 24, env := [(7, .d (.int .i64 i.1)), (6, .d (.int .i64 (clockTo t i.1).2.1)), (5, .vec 22), (0, .ptr 1000000 0), (1, .d (.int .i64 n))], box := [(1000000, (clockTo t i.1).2.2.cells)], vec := [(22, ⟨3, 1, ints (clockTo t i.1).1⟩)] })
    (fun i => n - i.1) ⟨0, by simp⟩ (by simp [weak_iff, clockTo, Tape.cells, ints]) fun ⟨i, hi⟩ => ?_) -- block 0
  refine tr_seq ?_
  refine sr (by simp; rfl) ?_ -- region 4 "second.go:27"
  refine tr_cond (by simp; rfl) (fun h => ?_) (fun h => ?_) -- t12
  · simp at h
    have hc := clock_now t i
    have hx := (clockTo t i).2.2.next_lt (n := 3) (by omega)
    have hlen := clock_len t i
    generalize hq : clockTo t i = c at *
    have hstep : clockTo t (i + 1) = (c.1 ++ [c.2.1 + c.2.2.nextV 3], c.2.1 + c.2.2.nextV 3, c.2.2.nextT) := by simp [clockTo, hq]
    refine tr_skip ?_
    refine tr_seq ?_
    refine tr_block ?_ -- block 1
    refine sc ?_ -- region 6 "second.go:28"
    refine so 2 (by simp; rfl) ?_
    refine tops_call [1000000] (next_ok c.2.2 3 (by omega)) (by simp) rfl rfl rfl Try.call11 (by simp) (by simp) (by simp) (by simp [Tape.cells]) (by simp) ?_
    have e1 : IntKind.i64.wrap (c.2.1 + c.2.2.nextV 3) = c.2.1 + c.2.2.nextV 3 := wrapI (by omega) (by omega)
    refine sl (by simp [e1]; rfl) ?_
    have hsz : c.1.length ≤ 268435455 := by omega
    refine lr (by simp [hsz]; rfl) ?_ -- region 7 "second.go:29"
    have e2 : IntKind.i64.wrap ((i : Int) + 1) = ((i + 1 : Nat) : Int) := wrapI (by omega) (by omega)
    refine lr (by simp [e2]; rfl) ?_ -- region 5 "second.go:27"
    exact ⟨⟨i + 1, by omega⟩, by simp; omega, by simp [weak_iff, hstep, Tape.cells, ints]⟩
  · simp at h
    obtain rfl : i = n := by omega
    refine tr_exit ?_ -- 0
    refine sr (by simp; rfl) ?_ -- region 8 "second.go:31"
    exact tr_ret ⟨[22], by simp, rfl, by simp [Tape.cells]⟩

/-- what a ledger's records are, i rounds on -/
def recTo (t : Tape) (times : List Int) : Nat → List Rec × Tape
  | 0 => ([], t)
  | i + 1 => let c := recTo t times i
    (c.1 ++ [⟨(times[i]?).getD 0, c.2.nextV 12, c.2.nextT.nextV 2, -2 + c.2.nextT.nextT.nextV 7⟩], c.2.nextT.nextT.nextT)
theorem recTo_len (t : Tape) (times : List Int) : ∀ i, (recTo t times i).1.length = i
  | 0 => rfl
  | i + 1 => by simp [recTo, recTo_len t times i]
def ledN (t : Tape) : Nat := (t.nextV 12).toNat
def ledTimes (t : Tape) : List Int := (clockTo t.nextT (ledN t)).1
def ledTape (t : Tape) : Tape := (clockTo t.nextT (ledN t)).2.2
def ledger (t : Tape) : List Rec := (recTo (ledTape t) (ledTimes t) (ledN t)).1
def ledgerT (t : Tape) : Tape := (recTo (ledTape t) (ledTimes t) (ledN t)).2

set_option maxHeartbeats 4000000 in
theorem ledger_ok (t : Tape) : FnOK Try.prog 9 [t.cells] [.ptr (InO 0) 0] (.d (.slice (recs (ledger t)))) [(ledgerT t).cells] := by
  have hn := t.next_lt (n := 12) (by omega)
  have hN : t.nextV 12 = (ledN t : Int) := by unfold ledN; omega
  have hN12 : ledN t < 12 := by unfold ledN; omega
  have hTl : (ledTimes t).length = ledN t := clock_len _ _
  refine fn_ok (nt := 28) (rs := [.tmp 2]) Try.func9 rfl Try.ntmps9 rfl (by simp) (by decide) rfl fun K => ?_
  refine sr (by simp; rfl) ?_ -- region 0 "second.go:379"
  refine sr (by simp; rfl) ?_ -- region 1 "second.go:380"
  refine tr_seq ?_
  refine sc ?_ -- region 2 "second.go:381"
  refine so 2 (by simp; rfl) ?_
  refine tops_call [1000000] (next_ok t 12 (by omega)) (by simp) rfl rfl rfl Try.call11 (by simp) (by simp) (by simp) (by simp [Tape.cells]) (by simp) ?_
  refine tops_call [1000000] (clock_ok t.nextT (ledN t) (by omega)) (by simp) rfl rfl rfl Try.call19 (by simp) (by simp) (by simp [hN]) (by simp [Tape.cells]) (by simp) ?_
  refine sl (by simp; rfl) ?_
  refine tr_own 3 25 30 4 (by simp) (by simp) ?_
  refine tr_block (tr_loop (ι := { i : Nat // i ≤ ledN t })
    (fun i => { nt := 28, env := [(9, .d (.slice (ints (ledTimes t)))), (10, .d (.int .i64 (ledN t))), (11, .d (.int .i64 i.1)), (3, .vec 25), (0, .ptr 1000000 0)], box := [(1000000, (recTo (ledTape t) (ledTimes t) i.1).2.cells)], vec := [(25, ⟨30, 4, recs (recTo (ledTape t) (ledTimes t) i.1).1⟩)] })
    (fun i => ledN t - i.1) ⟨0, by simp⟩ (by simp [weak_iff, recTo, Tape.cells, ints, recs, ledTimes, ledTape, clock_len]) fun ⟨i, hi⟩ => ?_) -- block 0
  refine sr (by simp; rfl) ?_ -- region 3 "second.go:381"
  refine tr_seq ?_
  refine tr_cond (by simp; rfl) (fun h => ?_) (fun h => ?_) -- t12
  · simp at h
    have hti : (ledTimes t)[i]? = some (ledTimes t)[i] := List.getElem?_eq_getElem (by omega)
    generalize (ledTimes t)[i] = ti at hti
    have hlen := recTo_len (ledTape t) (ledTimes t) i
    generalize hq : recTo (ledTape t) (ledTimes t) i = c at *
    have hstep : recTo (ledTape t) (ledTimes t) (i + 1) = (c.1 ++ [⟨ti, c.2.nextV 12, c.2.nextT.nextV 2, -2 + c.2.nextT.nextT.nextV 7⟩], c.2.nextT.nextT.nextT) := by simp [recTo, hq, hti]
    have htr := ints_get hti
    refine tr_skip ?_
    refine tr_seq ?_
    refine tr_block ?_ -- block 1
    refine sr (by simp [htr]; rfl) ?_ -- region 4 "second.go:381"
    refine lc ?_ -- region 5 "second.go:382"
    refine so 3 (by simp; rfl) ?_
    refine tops_call [1000000] (next_ok c.2 12 (by omega)) (by simp) rfl rfl rfl Try.call11 (by simp) (by simp) (by simp) (by simp [Tape.cells]) (by simp) ?_
    refine so 1 (by simp; rfl) ?_
    refine tops_call [1000000] (next_ok c.2.nextT 2 (by omega)) (by simp) rfl rfl rfl Try.call11 (by simp) (by simp) (by simp) (by simp [Tape.cells]) (by simp) ?_
    refine so 1 (by simp; rfl) ?_
    refine tops_call [1000000] (between_ok c.2.nextT.nextT (-2) 4 (by omega) (by omega) (by omega)) (by simp) rfl rfl rfl Try.call20 (by simp) (by simp) (by simp) (by simp [Tape.cells]) (by simp) ?_
    have hsz : c.1.length ≤ 268435455 := by omega
    refine sl (by simp [hsz]; rfl) ?_
    have e2 : IntKind.i64.wrap ((i : Int) + 1) = ((i + 1 : Nat) : Int) := wrapI (by omega) (by omega)
    refine lr (by simp [e2]; rfl) ?_ -- region 6 "second.go:381"
    exact ⟨⟨i + 1, by omega⟩, by simp; omega, by simp [weak_iff, hstep, Tape.cells, recs, Rec.row]⟩
  · simp at h
    obtain rfl : i = ledN t := by omega
    refine tr_exit ?_ -- 0
    refine sr (by simp; rfl) ?_ -- region 7 "second.go:384"
    exact tr_ret ⟨[25], by simp [ledger], rfl, by simp [Tape.cells, ledgerT]⟩
end Go.Vl
