/- Walks over functions of the given program in the value logic: what each computes, and plain laws of it. Conditions: none. -/
import Derived.Test.YtkgimfomocpebaaLedE
set_option linter.unusedSimpArgs false
set_option linter.unusedVariables false
namespace Go.Vl
open Go Go.Proofs

set_option maxHeartbeats 4000000 in
theorem past_ok (l : List Int) : FnOK Try.prog 3 [] [.d (.slice (ints l))] (.d (.bool true)) [] := by
  refine fn_ok (nt := 94) (rs := [.tmp 2]) Try.func3 rfl Try.ntmps3 rfl (by simp) (by decide) rfl fun K => ?_
  refine sr (by simp; rfl) ?_ -- region 0 "law.go:70"
  refine tr_seq ?_
  refine sr (by simp; rfl) ?_ -- region 1 "law.go:71"
  refine tr_cond (by simp; rfl) (fun h => ?_) (fun h => ?_) -- t17
  · refine sc ?_ -- region 2 "law.go:72"
    refine so 0 (by simp; rfl) ?_
    refine tops_call [] awake_ok (by simp) rfl rfl rfl Try.call8 (by simp) (by simp) (by simp) (by simp) (by simp) ?_
    refine sl (by simp; rfl) ?_
    exact tr_ret ⟨[], by simp, rfl, by simp⟩
  · simp at h
    let t0 : Tape := ⟨l, 0, by omega⟩
    obtain ⟨hv, hlen, hk0, hk1⟩ := led_valid t0
    have hok := ledger_ok t0
    generalize ho : ledger t0 = own at *
    generalize ht : ledgerT t0 = t1 at *
    refine tr_skip ?_
    refine sr (by simp; rfl) ?_ -- region 3 "law.go:74"
    refine sc ?_ -- region 4 "law.go:75"
    refine so 1 (by simp; rfl) ?_
    refine tops_call [21] hok (by simp) rfl rfl rfl Try.call9 (by simp) (by simp) (by simp) (by simp [Tape.cells, t0]) (by simp) ?_
    refine sl (by simp; rfl) ?_
    refine sr (by simp; rfl) ?_ -- region 5 "law.go:76"
    refine sjoin { nt := 94, env := [(5, .d (.int .i64 (lastK 0 own))), (4, .d (.slice (recs own))), (3, .ptr 21 0)], box := [(21, t1.cells)], vec := [] } ?_ ?_
    · refine sr (by simp; rfl) ?_ -- region 6 "law.go:77"
      refine tr_cond (by simp; rfl) (fun h => ?_) (fun h => ?_) -- t26
      · simp at h
        have hne : own ≠ [] := by intro e; simp [e] at h
        obtain ⟨r, hr, hrk⟩ := lastK_get 0 own hne
        have hrow := recs_get hr
        have e1 : IntKind.i64.wrap ((own.length : Int) - 1) = ((own.length - 1 : Nat) : Int) := by rw [wrapI (by omega) (by omega)]; omega
        refine lr (by simp [e1, hrow, Rec.row]; rfl) ?_ -- region 7 "law.go:78"
        show Weak _ _
        simp [weak_iff, hrk, Tape.cells]
      · simp at h
        subst h
        refine tr_skip ?_
        show Weak _ _
        simp [weak_iff, lastK, Tape.cells]
    have n1 := t1.next_lt (n := 3) (by omega)
    have n2 := t1.nextT.next_lt (n := 12) (by omega)
    have n3 := t1.nextT.nextT.next_lt (n := 2) (by omega)
    have n4 := t1.nextT.nextT.nextT.next_lt (n := 9) (by omega)
    have e1 : IntKind.i64.wrap (lastK 0 own + 1) = lastK 0 own + 1 := wrapI (by omega) (by omega)
    have e2 : IntKind.i64.wrap (lastK 0 own + 1 + t1.nextV 3) = lastK 0 own + 1 + t1.nextV 3 := wrapI (by omega) (by omega)
    let rr : Rec := ⟨lastK 0 own + 1 + t1.nextV 3, t1.nextT.nextV 12, t1.nextT.nextT.nextV 2, t1.nextT.nextT.nextT.nextV 9⟩
    let t5 := t1.nextT.nextT.nextT.nextT
    have hv2 : Valid (own ++ [rr]) := by
      refine ⟨by simp; omega, (chk_append _ _ _).2 ⟨hv.2, ?_⟩⟩
      unfold okRec
      refine ⟨⟨?_, ?_⟩, ⟨?_, ?_⟩, ⟨?_, ?_⟩, ⟨?_, ?_⟩⟩ <;> simp only [rr] <;> omega
    have hap : appR own rr = (own ++ [rr], 0) := by
      unfold appR; rw [if_pos hv, if_neg (by omega), if_pos hv2]
    refine sc ?_ -- region 8 "law.go:80"
    refine so 4 (by simp [e1]; rfl) ?_
    refine tops_call [21] (next_ok t1 3 (by omega)) (by simp) rfl rfl rfl Try.call11 (by simp) (by simp) (by simp) (by simp [Tape.cells]) (by simp) ?_
    refine so 2 (by simp [e2]; rfl) ?_
    refine tops_call [21] (next_ok t1.nextT 12 (by omega)) (by simp) rfl rfl rfl Try.call11 (by simp) (by simp) (by simp) (by simp [Tape.cells]) (by simp) ?_
    refine so 1 (by simp; rfl) ?_
    refine tops_call [21] (next_ok t1.nextT.nextT 2 (by omega)) (by simp) rfl rfl rfl Try.call11 (by simp) (by simp) (by simp) (by simp [Tape.cells]) (by simp) ?_
    refine so 1 (by simp; rfl) ?_
    refine tops_call [21] (next_ok t1.nextT.nextT.nextT 9 (by omega)) (by simp) rfl rfl rfl Try.call11 (by simp) (by simp) (by simp) (by simp [Tape.cells]) (by simp) ?_
    refine so 1 (by simp; rfl) ?_
    refine tops_call [] (append_ok own rr) (by simp) rfl rfl rfl Try.call10 (by simp) (by simp) (by simp [Rec.cells, rr]) (by simp) (by simp) ?_
    refine sl (by simp [appRA, hap]; rfl) ?_
    refine tr_seq ?_
    refine sr (by simp; rfl) ?_ -- region 9 "law.go:81"
    refine tr_cond (b := false) (by simp) (fun h => by cases h) (fun _ => ?_) -- t52
    refine tr_skip ?_
    refine tr_seq ?_
    refine sr (by simp; rfl) ?_ -- region 11 "law.go:84"
    refine tr_block (tr_loop (ι := { x : Int × Tape // 0 ≤ x.1 ∧ x.1 ≤ 40 })
      (fun x => { nt := 94, env := [(5, .d (.int .i64 (lastK 0 own))), (4, .d (.slice (recs own))), (6, .d (.slice (recs (own ++ [rr])))), (3, .ptr 21 0), (8, .d (.int .i64 x.1.1))], box := [(21, x.1.2.cells)], vec := [] })
      (fun x => (50 - x.1.1).toNat) ⟨(0, t5), by simp⟩ (by simp [weak_iff, Tape.cells, t5]) fun ⟨(k, tp), hka, hkb⟩ => ?_) -- block 0
    refine tr_seq ?_
    refine sr (by simp; rfl) ?_ -- region 12 "law.go:84"
    refine tr_cond (by simp; rfl) (fun h => ?_) (fun h => ?_) -- t55
    · simp at h
      refine tr_skip ?_
      refine tr_seq ?_
      refine tr_block ?_ -- block 1
      refine sr (by simp; rfl) ?_ -- region 14 "law.go:85"
      refine tr_block (tr_loop (ι := { i : Nat // i ≤ 2 })
        (fun i => { nt := 94, env := [(9, .d (.int .i64 i.1)), (5, .d (.int .i64 (lastK 0 own))), (4, .d (.slice (recs own))), (6, .d (.slice (recs (own ++ [rr])))), (3, .ptr 21 0), (8, .d (.int .i64 k))], box := [(21, tp.cells)], vec := [] })
        (fun i => 2 - i.1) ⟨0, by simp⟩ (by simp [weak_iff, Tape.cells]) fun ⟨s, hs⟩ => ?_) -- block 2
      refine tr_seq ?_
      refine sr (by simp; rfl) ?_ -- region 15 "law.go:85"
      refine tr_cond (by simp; rfl) (fun h2 => ?_) (fun h2 => ?_) -- t62
      · simp at h2
        refine tr_skip ?_
        refine tr_seq ?_
        refine tr_block ?_ -- block 3
        refine sr (by simp; rfl) ?_ -- region 17 "law.go:86"
        refine tr_block (tr_loop (ι := { i : Nat // i ≤ 14 })
          (fun i => { nt := 94, env := [(10, .d (.int .i64 i.1)), (9, .d (.int .i64 s)), (5, .d (.int .i64 (lastK 0 own))), (4, .d (.slice (recs own))), (6, .d (.slice (recs (own ++ [rr])))), (3, .ptr 21 0), (8, .d (.int .i64 k))], box := [(21, tp.cells)], vec := [] })
          (fun i => 14 - i.1) ⟨0, by simp⟩ (by simp [weak_iff, Tape.cells]) fun ⟨t, htt⟩ => ?_) -- block 4
        refine tr_seq ?_
        refine sr (by simp; rfl) ?_ -- region 18 "law.go:86"
        refine tr_cond (by simp; rfl) (fun h3 => ?_) (fun h3 => ?_) -- t66
        · simp at h3
          have hsays : says k s t rr = false := by
            have : ¬ rr.k ≤ k := by simp only [rr]; omega
            simp [says, this]
          have hb := blf_append hv hv2 hsays
          refine tr_skip ?_
          refine tr_seq ?_
          refine tr_block ?_ -- block 5
          refine sc ?_ -- region 20 "law.go:87"
          refine so 4 (by simp; rfl) ?_
          refine tops_call [] (believe_ok own k s t (by omega)) (by simp) rfl rfl rfl Try.call12 (by simp) (by simp) (by simp) (by simp) (by simp) ?_
          refine sl (by simp [blfA]; rfl) ?_
          refine sc ?_ -- region 21 "law.go:88"
          refine so 4 (by simp; rfl) ?_
          refine tops_call [] (believe_ok (own ++ [rr]) k s t (by simp; omega)) (by simp) rfl rfl rfl Try.call12 (by simp) (by simp) (by simp) (by simp) (by simp) ?_
          refine sl (by simp [blfA, hb]; rfl) ?_
          refine sr (by simp; rfl) ?_ -- region 22 "law.go:89"  GUARDED
          refine tr_cond (b := false) (by simp) (fun h => by cases h) (fun _ => ?_) -- t92
          refine tr_skip ?_
          have e3 : IntKind.i64.wrap ((t : Int) + 1) = ((t + 1 : Nat) : Int) := wrapI (by omega) (by omega)
          refine lr (by simp [e3]; rfl) ?_ -- region 19 "law.go:86"
          exact ⟨⟨t + 1, by omega⟩, by simp; omega, by simp [weak_iff, Tape.cells]⟩
        · simp at h3
          refine tr_exit ?_ -- 4
          have e3 : IntKind.i64.wrap ((s : Int) + 1) = ((s + 1 : Nat) : Int) := wrapI (by omega) (by omega)
          refine lr (by simp [e3]; rfl) ?_ -- region 16 "law.go:85"
          exact ⟨⟨s + 1, by omega⟩, by simp; omega, by simp [weak_iff, Tape.cells]⟩
      · simp at h2
        refine tr_exit ?_ -- 2
        have m1 := tp.next_lt (n := 3) (by omega)
        have e3 : IntKind.i64.wrap (1 + tp.nextV 3) = 1 + tp.nextV 3 := wrapI (by omega) (by omega)
        have e4 : IntKind.i64.wrap (k + (1 + tp.nextV 3)) = k + (1 + tp.nextV 3) := wrapI (by omega) (by omega)
        refine lc ?_ -- region 13 "law.go:84"
        refine so 2 (by simp; rfl) ?_
        refine tops_call [21] (next_ok tp 3 (by omega)) (by simp) rfl rfl rfl Try.call11 (by simp) (by simp) (by simp) (by simp [Tape.cells]) (by simp) ?_
        refine sl (by simp [e3, e4]; rfl) ?_
        exact ⟨⟨(k + (1 + tp.nextV 3), tp.nextT), by simp; omega⟩, by simp; omega, by simp [weak_iff, Tape.cells]⟩
    · simp at h
      refine tr_exit ?_ -- 0
      refine sc ?_ -- region 24 "law.go:95"
      refine so 0 (by simp; rfl) ?_
      refine tops_call [] awake_ok (by simp) rfl rfl rfl Try.call8 (by simp) (by simp) (by simp) (by simp) (by simp) ?_
      refine sl (by simp; rfl) ?_
      exact tr_ret ⟨[], by simp, rfl, by simp⟩
end Go.Vl
