/- Walks over functions of the given program in the value logic: what each computes, and plain laws of it. Conditions: none. -/
import Derived.Test.YtkgimfomocpebaaLedK
set_option linter.unusedSimpArgs false
set_option linter.unusedVariables false
namespace Go.Vl
open Go Go.Proofs

set_option maxHeartbeats 8000000 in
theorem learns_ok (l : List Int) : FnOK Try.prog 5 [] [.d (.slice (ints l))] (.d (.bool true)) [] := by
  refine fn_ok (nt := 135) (rs := [.tmp 2]) Try.func5 rfl Try.ntmps5 rfl (by simp) (by decide) rfl fun K => ?_
  refine sr (by simp; rfl) ?_ -- region 0
  refine tr_seq ?_
  refine sr (by simp; rfl) ?_ -- region 1
  refine tr_cond (by simp; rfl) (fun h => ?_) (fun h => ?_)
  · refine sc ?_ -- region 2
    refine so 0 (by simp; rfl) ?_
    refine tops_call [] awake_ok (by simp) rfl rfl rfl Try.call8 (by simp) (by simp) (by simp) (by simp) (by simp) ?_
    refine sl (by simp; rfl) ?_
    exact tr_ret ⟨[], by simp, rfl, by simp⟩
  · simp at h
    let t0 : Tape := ⟨l, 0, by omega⟩
    obtain ⟨hv, hlen, hk0, hk1⟩ := led_valid t0
    have hok := ledger_ok t0
    generalize ho : ledger t0 = own at *
    generalize ht : ledgerT t0 = t1 at *
    have q2 := t1.next_lt (n := 2) (by omega)
    have q3 := t1.nextT.next_lt (n := 14) (by omega)
    refine tr_skip ?_
    refine sr (by simp; rfl) ?_ -- region 3
    refine sc ?_ -- region 4
    refine so 1 (by simp; rfl) ?_
    refine tops_call [25] hok (by simp) rfl rfl rfl Try.call9 (by simp) (by simp) (by simp) (by simp [Tape.cells, t0]) (by simp) ?_
    refine sl (by simp; rfl) ?_
    refine sc ?_ -- region 5
    refine so 1 (by simp; rfl) ?_
    refine tops_call [25] (next_ok t1 2 (by omega)) (by simp) rfl rfl rfl Try.call11 (by simp) (by simp) (by simp) (by simp [Tape.cells]) (by simp) ?_
    refine so 1 (by simp; rfl) ?_
    refine tops_call [25] (next_ok t1.nextT 14 (by omega)) (by simp) rfl rfl rfl Try.call11 (by simp) (by simp) (by simp) (by simp [Tape.cells]) (by simp) ?_
    generalize hs : t1.nextV 2 = s at *
    generalize htt : t1.nextT.nextV 14 = t at *
    refine sl (by simp; rfl) ?_
    refine tr_seq ?_
    refine sr (by simp; rfl) ?_ -- region 6
    have hlk : own.length ≤ 4294967296 := by omega
    have hCR : chgR own s t = ((chg own s t own.length).1, 0) := by unfold chgR; rw [if_pos hv]
    refine tr_block (tr_loop (ι := { x : Int // -2 ≤ x ∧ x ≤ 5 })
      (fun x => { nt := 135, env := [(7, .d (.int .i64 x.1)), (4, .d (.slice (recs own))), (5, .d (.int .i64 s)), (6, .d (.int .i64 t))], box := [], vec := [] })
      (fun x => (5 - x.1).toNat) ⟨-2, by omega⟩ (by simp [weak_iff]) fun ⟨v, hv1, hv2⟩ => ?_) -- block 0
    refine tr_seq ?_
    refine sr (by simp; rfl) ?_ -- region 7
    refine tr_cond (by simp; rfl) (fun h2 => ?_) (fun h2 => ?_)
    · simp at h2
      refine tr_skip ?_
      refine tr_seq ?_
      refine tr_block ?_ -- block 1
      refine sr (by simp; rfl) ?_ -- region 9
      refine tr_seq ?_
      refine sr (by simp; rfl) ?_ -- region 10
      refine tr_block (tr_loop (ι := { k : Nat // k ≤ 40 })
        (fun k => { nt := 135, env := [(9, .d (.int .i64 k.1)), (8, .d (.int .i64 (firstTo (bv own s t v) k.1))), (7, .d (.int .i64 v)), (4, .d (.slice (recs own))), (5, .d (.int .i64 s)), (6, .d (.int .i64 t))], box := [], vec := [] })
        (fun k => 40 - k.1) ⟨0, by omega⟩ (by simp [weak_iff, firstTo]) fun ⟨k, hk⟩ => ?_) -- block 2
      refine tr_seq ?_
      by_cases hgo : k < 40 ∧ firstTo (bv own s t v) k < 0
      · obtain ⟨g1, g2⟩ := hgo
        have g1' : (k : Int) < 40 := by omega
        have hstep : firstTo (bv own s t v) (k + 1) = if firstTo (bv own s t v) k < 0 && bv own s t v k then (k : Int) else firstTo (bv own s t v) k := rfl
        have hbv : bv own s t v k = ((blf own k s t).2.2 && ((blf own k s t).1 == v)) := rfl
        have hbe := believe_ok own k s t hlk
        have e3 : IntKind.i64.wrap ((k : Int) + 1) = ((k + 1 : Nat) : Int) := wrapI (by omega) (by omega)
        generalize firstTo (bv own s t v) k = f at *
        refine sr (by simp [g1, g1', g2]; rfl) ?_ -- region 11
        refine tr_cond (b := true) (by simp [g2]) (fun _ => ?_) (fun h => by cases h)
        refine tr_skip ?_
        refine tr_seq ?_
        refine tr_block ?_ -- block 3
        refine sc ?_ -- region 13
        refine so 4 (by simp; rfl) ?_
        generalize blf own k s t = b at *
        refine tops_call [] hbe (by simp) rfl rfl rfl Try.call12 (by simp) (by simp) (by simp) (by simp) (by simp) ?_
        refine sl (by simp [blfA]; rfl) ?_
        cases c1 : b.2.2 with
        | false =>
          rw [c1] at hbv
          refine sr (by simp [c1]; rfl) ?_ -- region 14
          refine tr_cond (b := false) (by simp) (fun h => by cases h) (fun _ => ?_)
          refine tr_skip ?_
          refine lr (by simp [e3]; rfl) ?_ -- region 12
          exact ⟨⟨k + 1, by omega⟩, by simp; omega, by simp [weak_iff, hstep, hbv]⟩
        | true =>
          rw [c1] at hbv
          cases c2 : b.1 == v with
          | false =>
            rw [c2] at hbv
            refine sr (by simp [c1, c2]; rfl) ?_ -- region 14
            refine tr_cond (b := false) (by simp [c2]) (fun h => by cases h) (fun _ => ?_)
            refine tr_skip ?_
            refine lr (by simp [e3]; rfl) ?_ -- region 12
            exact ⟨⟨k + 1, by omega⟩, by simp; omega, by simp [weak_iff, hstep, hbv]⟩
          | true =>
            rw [c2] at hbv
            refine sr (by simp [c1, c2]; rfl) ?_ -- region 14
            refine tr_cond (b := true) (by simp [c2]) (fun _ => ?_) (fun h => by cases h)
            refine lr (by simp; rfl) ?_ -- region 15
            refine lr (by simp [e3]; rfl) ?_ -- region 12
            exact ⟨⟨k + 1, by omega⟩, by simp; omega, by simp [weak_iff, hstep, hbv, g2]⟩
      · obtain ⟨hL1, hL2⟩ := first_learn hv hk1 s t v
        have hF : firstTo (bv own s t v) k = (learn own (chg own s t own.length).1 v).getD (-1) := by
          rw [← hL1]
          by_cases h40 : k = 40
          · rw [h40]
          · have := firstTo_stay (P := bv own s t v) (n := k) (by omega) (40 - k)
            rw [show k + (40 - k) = 40 by omega] at this
            exact this.symm
        have hle := learned_ok own s t v hlk
        rw [hCR] at hle
        simp only at hle
        have hcnd : (decide ((k : Int) < 40) && decide (firstTo (bv own s t v) k < 0)) = false := by
          simp; omega
        generalize firstTo (bv own s t v) k = f at *
        have e3 : IntKind.i64.wrap (v + 1) = v + 1 := wrapI (by omega) (by omega)
        generalize hLg : learn own (chg own s t own.length).1 v = L at *
        refine srw { nt := 135, env := [(41, .d (.bool false)), (8, .d (.int .i64 f)), (7, .d (.int .i64 v)), (4, .d (.slice (recs own))), (5, .d (.int .i64 s)), (6, .d (.int .i64 t))], box := [], vec := [] } ?_ ?_ -- region 11
        · by_cases g1 : k < 40
          · have g1' : (k : Int) < 40 := by omega
            have g2 : ¬ f < 0 := by omega
            exact ⟨_, by simp [g1, g1', g2]; rfl, by simp [weak_iff]⟩
          · have g1' : ¬ (k : Int) < 40 := by omega
            exact ⟨_, by simp [g1, g1']; rfl, by simp [weak_iff]⟩
        refine tr_cond (b := false) (by simp) (fun h => by cases h) (fun _ => ?_)
        refine tr_exit ?_ -- 2
        refine sc ?_ -- region 16
        refine so 4 (by simp; rfl) ?_
        refine tops_call [] hle (by simp) rfl rfl rfl Try.call13 (by simp) (by simp) (by simp) (by simp) (by simp) ?_
        refine sl (by simp [learnA]; rfl) ?_
        cases L with
        | none =>
          simp at hF; subst hF
          refine sr (by simp; rfl) ?_ -- region 17
          refine tr_cond (b := false) (by simp) (fun h => by cases h) (fun _ => ?_)
          refine tr_skip ?_
          refine lr (by simp [e3]; rfl) ?_ -- region 8
          exact ⟨⟨v + 1, by omega, by omega⟩, by simp; omega, by simp [weak_iff]⟩
        | some x =>
          simp at hF hL2; subst hF
          refine sr (by simp [hL2]; rfl) ?_ -- region 17
          refine tr_cond (b := false) (by simp) (fun h => by cases h) (fun _ => ?_)
          refine tr_skip ?_
          refine lr (by simp [e3]; rfl) ?_ -- region 8
          exact ⟨⟨v + 1, by omega, by omega⟩, by simp; omega, by simp [weak_iff]⟩
    · refine tr_exit ?_ -- 0
      have hch := changes_ok own s t hlk
      rw [hCR] at hch
      have hne := now_end hv s t 100 (by omega)
      have hI := (chg_inv hv s t own.length (Nat.le_refl _)).apart
      have hcl := chg_len own s t own.length
      have hbe := believe_ok own 100 s t hlk
      generalize (chg own s t own.length).1 = c at *
      refine sc ?_ -- region 19
      refine so 3 (by simp; rfl) ?_
      refine tops_call [] hch (by simp) rfl rfl rfl Try.call14 (by simp) (by simp) (by simp) (by simp) (by simp) ?_
      refine sl (by simp [chgA]; rfl) ?_
      refine sc ?_ -- region 20
      refine so 3 (by simp; rfl) ?_
      refine tops_call [] hbe (by simp) rfl rfl rfl Try.call12 (by simp) (by simp) (by simp) (by simp) (by simp) ?_
      refine sl (by simp [blfA]; rfl) ?_
      refine tr_seq ?_
      refine sdw { nt := 135, env := [(115, .d (.bool false)), (14, .d (.slice (bels c)))], box := [], vec := [] } fol (by decide +kernel) ?_ ?_ -- region 21
      · rcases hne with ⟨hc0, hb⟩ | ⟨x, hpos, hx, hb⟩
        · rw [hb, hc0]
          exact ⟨_, by simp [bels]; rfl, by simp [weak_iff, bels]⟩
        · rw [hb]
          have hrx := bels_get hx
          have e1 : IntKind.i64.wrap ((c.length : Int) - 1) = ((c.length - 1 : Nat) : Int) := by rw [wrapI (by omega) (by omega)]; omega
          exact ⟨_, by simp [hpos, e1, hrx]; rfl, by simp [weak_iff]⟩
      refine tr_cond (b := false) (by simp) (fun h => by cases h) (fun _ => ?_)
      refine tr_skip ?_
      refine tr_seq ?_
      refine sr (by simp; rfl) ?_ -- region 23
      refine tr_block (tr_loop (ι := { i : Nat // 1 ≤ i ∧ i ≤ 1000 })
        (fun i => { nt := 135, env := [(18, .d (.int .i64 i.1)), (14, .d (.slice (bels c)))], box := [], vec := [] })
        (fun i => 1000 - i.1) ⟨1, by omega⟩ (by simp [weak_iff]) fun ⟨i, hi1, hi2⟩ => ?_) -- block 4
      refine tr_seq ?_
      refine sr (by simp; rfl) ?_ -- region 24
      refine tr_cond (by simp; rfl) (fun h3 => ?_) (fun h3 => ?_)
      · simp at h3
        have ha : c[i]? = some c[i] := List.getElem?_eq_getElem (by omega)
        have hp : c[i - 1]? = some c[i - 1] := List.getElem?_eq_getElem (by omega)
        generalize c[i] = a at ha
        generalize c[i - 1] = b at hp
        have hab : ¬ a.2 = b.2 := fun e => hI (i - 1) b a hp (by rw [show i - 1 + 1 = i by omega]; exact ha) e.symm
        have hab' : ¬ (a.2 : Int) = (b.2 : Int) := by omega
        have hra := bels_get ha
        have hrb := bels_get hp
        have e1 : IntKind.i64.wrap ((i : Int) - 1) = ((i - 1 : Nat) : Int) := by rw [wrapI (by omega) (by omega)]; omega
        have e3 : IntKind.i64.wrap ((i : Int) + 1) = ((i + 1 : Nat) : Int) := wrapI (by omega) (by omega)
        refine tr_skip ?_
        refine tr_seq ?_
        refine tr_block ?_ -- block 5
        refine sd fol (by decide +kernel) (by simp [hra, hrb, e1]; rfl) ?_ -- region 26
        refine tr_cond (b := false) (by simp [hab']) (fun h => by cases h) (fun _ => ?_)
        refine tr_skip ?_
        refine lr (by simp [e3]; rfl) ?_ -- region 25
        exact ⟨⟨i + 1, by omega, by omega⟩, by simp; omega, by simp [weak_iff]⟩
      · refine tr_exit ?_ -- 4
        refine sc ?_ -- region 28
        refine so 0 (by simp; rfl) ?_
        refine tops_call [] awake_ok (by simp) rfl rfl rfl Try.call8 (by simp) (by simp) (by simp) (by simp) (by simp) ?_
        refine sl (by simp; rfl) ?_
        exact tr_ret ⟨[], by simp, rfl, by simp⟩
end Go.Vl
