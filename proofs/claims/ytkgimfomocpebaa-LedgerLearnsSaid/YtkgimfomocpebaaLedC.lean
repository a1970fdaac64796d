/- Walks over functions of the given program in the value logic: what each computes, and plain laws of it. Conditions: none. -/
import Derived.Test.YtkgimfomocpebaaLedB
set_option linter.unusedSimpArgs false
set_option linter.unusedVariables false
namespace Go.Vl
open Go Go.Proofs

@[simp] theorem recs_take (l : List Rec) : (recs l).take l.length = recs l := List.take_of_length_le (by simp)
def blf (l : List Rec) (k u t : Int) : Int × Int × Bool :=
  if Valid l then match bel l k u t l.length with
    | none => (0, -1, false)
    | some j => ((l[j]?.map Rec.v).getD 0, j, true)
  else (0, -1, false)
def blfA (b : Int × Int × Bool) : AV := .tup [.agg [.d (.int .i64 b.1), .d (.int .i64 b.2.1)], .d (.bool b.2.2)]

set_option maxHeartbeats 4000000 in
theorem believe_ok (l : List Rec) (k u t : Int) (hlen : l.length ≤ 4294967296) : FnOK Try.prog 12 [] [.d (.slice (recs l)), .d (.int .i64 k), .d (.int .i64 u), .d (.int .i64 t)] (blfA (blf l k u t)) [] := by
  refine fn_ok (nt := 30) (rs := [.cell 8 36, .tmp 9]) Try.func12 rfl Try.ntmps12 rfl (by simp) (by decide) rfl fun K => ?_
  refine sr (by simp; rfl) ?_ -- region 0
  refine tr_seq ?_
  refine sc ?_
  refine so 1 (by simp; rfl) ?_
  refine tops_call [] (check_ok l) (by simp) rfl rfl rfl Try.call18 (by simp) (by simp) (by simp) (by simp) (by simp) ?_
  refine sl (by simp; rfl) ?_
  by_cases hv : Valid l
  · have e0 : errOf l = 0 := by simp [errOf, hv]
    refine tr_cond (b := false) (by simp [e0]) (fun h => by cases h) (fun _ => ?_) -- t13
    refine tr_skip ?_
    refine sc ?_
    refine so 4 (by simp; rfl) ?_
    refine tops_call [] (bel_ok l k u t hlen) (by simp) rfl rfl rfl Try.call21 (by simp) (by simp) (by simp) (by simp) (by simp) ?_
    refine sl (by simp; rfl) ?_
    refine tr_seq ?_
    refine sr (by simp; rfl) ?_ -- region 4
    cases hb : bel l k u t l.length with
    | none =>
      refine tr_cond (b := true) (by simp [outI]) (fun _ => ?_) (fun h => by cases h) -- t21
      refine sr (by simp; rfl) ?_
      exact tr_ret ⟨[], by simp [blf, hv, hb, blfA], rfl, by simp⟩
    | some j =>
      obtain ⟨hj, r, hr, _⟩ := bel_lt hb
      have hne : ((j : Int) == -1) = false := by simp
      have hrow := recs_get hr
      refine tr_cond (b := false) (by simp [outI, hne]) (fun h => by cases h) (fun _ => ?_) -- t21
      refine tr_skip ?_
      refine sr (by simp [outI, hrow, Rec.row]; rfl) ?_
      exact tr_ret ⟨[], by simp [blf, hv, hb, blfA, hr], rfl, by simp⟩
  · have e0 : errOf l = 44 := by simp [errOf, hv]
    refine tr_cond (b := true) (by simp [e0]) (fun _ => ?_) (fun h => by cases h) -- t13
    refine sr (by simp; rfl) ?_
    exact tr_ret ⟨[], by simp [blf, hv, blfA], rfl, by simp⟩

def appR (l : List Rec) (r : Rec) : List Rec × Int :=
  if Valid l then if 100 ≤ l.length then ([], 3) else if Valid (l ++ [r]) then (l ++ [r], 0) else ([], 44) else ([], 44)
def appRA (x : List Rec × Int) : AV := .tup [.d (.slice (recs x.1)), .d (.int .i64 x.2)]
def Rec.cells (r : Rec) : List AV := [.d (.int .i64 r.k), .d (.int .i64 r.s), .d (.int .i64 r.u), .d (.int .i64 r.v)]

set_option maxHeartbeats 4000000 in
theorem append_ok (l : List Rec) (r : Rec) : FnOK Try.prog 10 [] [.d (.slice (recs l)), .agg r.cells] (appRA (appR l r)) [] := by
  refine fn_ok (nt := 28) (rs := [.tmp 4, .tmp 5]) Try.func10 rfl Try.ntmps10 rfl (by simp) (by decide) rfl fun K => ?_
  refine sr (by simp [Rec.cells]; rfl) ?_ -- region 0
  refine tr_seq ?_
  refine tr_block ?_
  refine sc ?_
  refine so 1 (by simp; rfl) ?_
  refine tops_call [] (check_ok l) (by simp) rfl rfl rfl Try.call18 (by simp) (by simp) (by simp) (by simp) (by simp) ?_
  refine sl (by simp; rfl) ?_
  by_cases hv : Valid l
  · have e0 : errOf l = 0 := by simp [errOf, hv]
    have hl := hv.1
    refine tr_cond (b := false) (by simp [e0]) (fun h => by cases h) (fun _ => ?_)
    refine sr (by simp; rfl) ?_
    by_cases h100 : 100 ≤ l.length
    · refine tr_cond (b := true) (by simp; omega) (fun _ => ?_) (fun h => by cases h)
      refine sr (by simp; rfl) ?_
      exact tr_ret ⟨[], by simp [appR, hv, h100, appRA, recs], rfl, by simp⟩
    · refine tr_cond (b := false) (by simp; omega) (fun h => by cases h) (fun _ => ?_)
      refine tr_skip ?_
      refine sm 6 fol (by decide +kernel) np_fin (by simp; rfl) ?_
      have hsz : l.length + 1 ≤ 268435456 := by omega
      refine sl (by simp [hsz]; rfl) ?_
      have hrr : recs l ++ [[D.int IntKind.i64 r.k, D.int IntKind.i64 r.s, D.int IntKind.i64 r.u, D.int IntKind.i64 r.v]] = recs (l ++ [r]) := by simp [recs, Rec.row]
      refine tr_seq ?_
      refine sc ?_
      refine so 1 (by simp; rfl) ?_
      refine tops_callv (check_ok (l ++ [r])) (by simp) rfl rfl rfl Try.call18 (by simp) (by simp [hrr]) rfl ?_
      refine sl (by simp; rfl) ?_
      by_cases hv2 : Valid (l ++ [r])
      · have e2 : errOf (l ++ [r]) = 0 := by simp [errOf, hv2]
        refine tr_cond (b := false) (by simp [e2]) (fun h => by cases h) (fun _ => ?_)
        refine tr_skip ?_
        refine sr (by simp; rfl) ?_
        exact tr_ret ⟨[23], by simp [appR, hv, h100, hv2, appRA, ← hrr], rfl, by simp⟩
      · have e2 : errOf (l ++ [r]) = 44 := by simp [errOf, hv2]
        refine tr_cond (b := true) (by simp [e2]) (fun _ => ?_) (fun h => by cases h)
        refine sr (by simp; rfl) ?_
        exact tr_ret ⟨[], by simp [appR, hv, h100, hv2, appRA, recs], rfl, by simp⟩
  · have e0 : errOf l = 44 := by simp [errOf, hv]
    refine tr_cond (b := true) (by simp [e0]) (fun _ => ?_) (fun h => by cases h)
    refine sr (by simp; rfl) ?_
    exact tr_ret ⟨[], by simp [appR, hv, appRA, recs], rfl, by simp⟩
end Go.Vl
