/- Walks over functions of the given program in the value logic: what each computes, and plain laws of it. Conditions: none. -/
import Derived.Test.YtkgimfomocpebaaLedG
set_option linter.unusedSimpArgs false
set_option linter.unusedVariables false
namespace Go.Vl
open Go Go.Proofs

set_option maxHeartbeats 8000000 in
theorem apart_ok (l : List Int) : FnOK Try.prog 4 [] [.d (.slice (ints l))] (.d (.bool true)) [] := by
  refine fn_ok (nt := 135) (rs := [.tmp 2]) Try.func4 rfl Try.ntmps4 rfl (by simp) (by decide) rfl fun K => ?_
  refine sr (by simp; rfl) ?_ -- region 0
  refine tr_seq ?_
  refine sr (by simp; rfl) ?_ -- region 1
  refine tr_cond (by simp; rfl) (fun h => ?_) (fun h => ?_)
  · refine sc ?_ -- region 2
    refine so 0 (by simp; rfl) ?_
    refine tops_call [] awake_ok (by simp) rfl rfl rfl Try.call8 (by simp) (by simp) (by simp) (by simp) (by simp) ?_
    refine sl (by simp; rfl) ?_
    exact tr_ret ⟨[], by simp, rfl, by simp⟩
  · simp at h
    let t0 : Tape := ⟨l, 0, by omega⟩
    obtain ⟨hv, hlen, hk0, hk1⟩ := led_valid t0
    have hok := ledger_ok t0
    generalize ho : ledger t0 = all at *
    generalize ht : ledgerT t0 = t1 at *
    have q1 := t1.next_lt (n := 30) (by omega)
    have q2 := t1.nextT.next_lt (n := 2) (by omega)
    have q3 := t1.nextT.nextT.next_lt (n := 14) (by omega)
    refine tr_skip ?_
    refine sr (by simp; rfl) ?_ -- region 3
    refine sc ?_ -- region 4
    refine so 1 (by simp; rfl) ?_
    refine tops_call [27] hok (by simp) rfl rfl rfl Try.call9 (by simp) (by simp) (by simp) (by simp [Tape.cells, t0]) (by simp) ?_
    refine sl (by simp; rfl) ?_
    refine sc ?_ -- region 5
    refine so 1 (by simp; rfl) ?_
    refine tops_call [27] (next_ok t1 30 (by omega)) (by simp) rfl rfl rfl Try.call11 (by simp) (by simp) (by simp) (by simp [Tape.cells]) (by simp) ?_
    refine so 1 (by simp; rfl) ?_
    refine tops_call [27] (next_ok t1.nextT 2 (by omega)) (by simp) rfl rfl rfl Try.call11 (by simp) (by simp) (by simp) (by simp [Tape.cells]) (by simp) ?_
    refine so 1 (by simp; rfl) ?_
    refine tops_call [27] (next_ok t1.nextT.nextT 14 (by omega)) (by simp) rfl rfl rfl Try.call11 (by simp) (by simp) (by simp) (by simp [Tape.cells]) (by simp) ?_
    generalize hk : t1.nextV 30 = k at *
    generalize hs : t1.nextT.nextV 2 = s at *
    generalize htt : t1.nextT.nextT.nextV 14 = t at *
    let t4 := t1.nextT.nextT.nextT
    refine sl (by simp; rfl) ?_
    refine sr (by simp; rfl) ?_ -- region 6
    refine tr_seq ?_
    refine sr (by simp; rfl) ?_ -- region 7
    refine tr_own 8 49 30 4 (by simp) (by simp) ?_
    refine tr_block (tr_loop (ι := { i : Nat // i ≤ all.length })
      (fun i => { nt := 135, env := [(36, .d (.slice (recs all))), (37, .d (.int .i64 all.length)), (38, .d (.int .i64 i.1)), (8, .vec 49), (4, .d (.slice (recs all))), (3, .ptr 27 0), (5, .d (.int .i64 k)), (6, .d (.int .i64 s)), (7, .d (.int .i64 t))], box := [(27, t4.cells)], vec := [(49, ⟨30, 4, recs ((all.take i.1).filter fun r => r.u == s)⟩)] })
      (fun i => all.length - i.1) ⟨0, by simp⟩ (by simp [weak_iff, Tape.cells, recs, t4]) fun ⟨i, hi⟩ => ?_) -- block 0
    refine sr (by simp; rfl) ?_ -- region 8
    refine tr_seq ?_
    refine tr_cond (by simp; rfl) (fun h2 => ?_) (fun h2 => ?_)
    · simp at h2
      have hr : all[i]? = some all[i] := by simp [h2]
      generalize all[i] = r at hr
      have hrow := recs_get hr
      have hfl : (List.take (i + 1) all).filter (fun r => r.u == s) = (List.take i all).filter (fun r => r.u == s) ++ if r.u == s then [r] else [] := by
        rw [List.take_add_one, hr, List.filter_append]
        cases hcc : r.u == s <;> simp [hcc]
      have hflen : ((List.take i all).filter (fun r => r.u == s)).length ≤ 268435455 := by
        refine Nat.le_trans (List.length_filter_le _ _) ?_
        simp; omega
      have e3 : IntKind.i64.wrap ((i : Int) + 1) = ((i + 1 : Nat) : Int) := wrapI (by omega) (by omega)
      generalize List.filter (fun r => r.u == s) (List.take i all) = fl at *
      refine tr_skip ?_
      refine tr_seq ?_
      refine tr_block ?_ -- block 1
      refine sr (by simp [hrow, Rec.row]; rfl) ?_ -- region 9
      refine sr (by simp; rfl) ?_ -- region 10
      cases hc : r.u == s with
      | true =>
        refine tr_cond (b := true) (by simp [hc]) (fun _ => ?_) (fun h => by cases h)
        refine lr (by simp [hflen]; rfl) ?_ -- region 11
        refine lr (by simp [e3]; rfl) ?_ -- region 12
        exact ⟨⟨i + 1, by omega⟩, by simp; omega, by simp [weak_iff, hfl, hc, Tape.cells, recs, Rec.row]⟩
      | false =>
        refine tr_cond (b := false) (by simp [hc]) (fun h => by cases h) (fun _ => ?_)
        refine tr_skip ?_
        refine lr (by simp [e3]; rfl) ?_ -- region 12
        exact ⟨⟨i + 1, by omega⟩, by simp; omega, by simp [weak_iff, hfl, hc, Tape.cells]⟩
    · simp at h2
      obtain rfl : i = all.length := by omega
      refine tr_exit ?_ -- 0
      obtain ⟨b1, b2⟩ := blf_filter hv k s t
      have hol : (all.filter fun r => r.u == s).length ≤ 4294967296 := Nat.le_trans (List.length_filter_le _ _) (by omega)
      simp only [List.take_length]
      generalize all.filter (fun r => r.u == s) = own at *
      refine sc ?_ -- region 13
      refine so 4 (by simp; rfl) ?_
      refine tops_call [] (believe_ok all k s t (by omega)) (by simp) rfl rfl rfl Try.call12 (by simp) (by simp) (by simp) (by simp) (by simp) ?_
      refine sl (by simp [blfA]; rfl) ?_
      refine sc ?_ -- region 14
      refine so 4 (by simp; rfl) ?_
      refine tops_callv (believe_ok own k s t hol) (by simp) rfl rfl rfl Try.call12 (by simp) (by simp) rfl ?_
      refine sl (by simp [blfA, b1, b2]; rfl) ?_
      refine tr_seq ?_
      refine sr (by simp; rfl) ?_ -- region 15
      refine tr_cond (b := false) (by simp) (fun h => by cases h) (fun _ => ?_)
      refine tr_skip ?_
      refine sr (by simp; rfl) ?_ -- region 17
      refine sjoin { nt := 135, env := [(15, .d (.int .i64 (lastK 0 all))), (4, .d (.slice (recs all))), (6, .d (.int .i64 s)), (3, .ptr 27 0)], box := [(27, t4.cells)], vec := [] } ?_ ?_
      · refine sr (by simp; rfl) ?_ -- region 18
        refine tr_cond (by simp; rfl) (fun h => ?_) (fun h => ?_)
        · simp at h
          have hne : all ≠ [] := by intro e; simp [e] at h
          obtain ⟨r, hr, hrk⟩ := lastK_get 0 all hne
          have hrow := recs_get hr
          have e1 : IntKind.i64.wrap ((all.length : Int) - 1) = ((all.length - 1 : Nat) : Int) := by rw [wrapI (by omega) (by omega)]; omega
          refine lr (by simp [e1, hrow, Rec.row]; rfl) ?_ -- region 19
          show Weak _ _
          simp [weak_iff, hrk, Tape.cells]
        · simp at h
          subst h
          refine tr_skip ?_
          show Weak _ _
          simp [weak_iff, lastK, Tape.cells]
      have n1 := t4.next_lt (n := 2) (by omega)
      have n2 := t4.nextT.next_lt (n := 12) (by omega)
      have n3 := t4.nextT.nextT.next_lt (n := 9) (by omega)
      have e2 : IntKind.i64.wrap (lastK 0 all + t4.nextV 2) = lastK 0 all + t4.nextV 2 := wrapI (by omega) (by omega)
      let rr : Rec := ⟨lastK 0 all + t4.nextV 2, t4.nextT.nextV 12, s, t4.nextT.nextT.nextV 9⟩
      have hv2 : Valid (all ++ [rr]) := by
        refine ⟨by simp; omega, (chk_append _ _ _).2 ⟨hv.2, ?_⟩⟩
        unfold okRec
        refine ⟨⟨?_, ?_⟩, ⟨?_, ?_⟩, ⟨?_, ?_⟩, ⟨?_, ?_⟩⟩ <;> simp only [rr] <;> omega
      have hap : appR all rr = (all ++ [rr], 0) := by
        unfold appR; rw [if_pos hv, if_neg (by omega), if_pos hv2]
      have hlast : blf (all ++ [rr]) (lastK 0 all + t4.nextV 2) s (t4.nextT.nextV 12) = (t4.nextT.nextT.nextV 9, (all.length : Int), true) := blf_last hv2
      refine sc ?_ -- region 20
      refine so 2 (by simp; rfl) ?_
      refine tops_call [27] (next_ok t4 2 (by omega)) (by simp) rfl rfl rfl Try.call11 (by simp) (by simp) (by simp) (by simp [Tape.cells]) (by simp) ?_
      refine so 2 (by simp [e2]; rfl) ?_
      refine tops_call [27] (next_ok t4.nextT 12 (by omega)) (by simp) rfl rfl rfl Try.call11 (by simp) (by simp) (by simp) (by simp [Tape.cells]) (by simp) ?_
      refine so 2 (by simp; rfl) ?_
      refine tops_call [27] (next_ok t4.nextT.nextT 9 (by omega)) (by simp) rfl rfl rfl Try.call11 (by simp) (by simp) (by simp) (by simp [Tape.cells]) (by simp) ?_
      refine sl (by simp; rfl) ?_
      refine sc ?_ -- region 21
      refine so 2 (by simp; rfl) ?_
      refine tops_call [] (append_ok all rr) (by simp) rfl rfl rfl Try.call10 (by simp) (by simp) (by simp [Rec.cells, rr]) (by simp) (by simp) ?_
      refine sl (by simp [appRA, hap]; rfl) ?_
      refine sc ?_ -- region 22
      refine so 6 (by simp; rfl) ?_
      refine tops_call [] (believe_ok (all ++ [rr]) (lastK 0 all + t4.nextV 2) s (t4.nextT.nextV 12) (by simp; omega)) (by simp) rfl rfl rfl Try.call12 (by simp) (by simp) (by simp) (by simp) (by simp) ?_
      refine sl (by simp [blfA, hlast]; rfl) ?_
      refine sc ?_ -- region 23
      refine so 20 (by simp; rfl) ?_
      refine tops_call [] awake_ok (by simp) rfl rfl rfl Try.call8 (by simp) (by simp) (by simp) (by simp) (by simp) ?_
      refine sl (by simp; rfl) ?_
      exact tr_ret ⟨[], by simp, rfl, by simp⟩
end Go.Vl
