/- Walks over functions of the given program in the value logic: what each computes, and plain laws of it. Conditions: none. -/
import Derived.Test.YtkgimfomocpebaaEntD
set_option linter.unusedSimpArgs false
set_option linter.unusedVariables false
namespace Go.Vl
open Go Go.Proofs

@[simp] theorem ics_back (σ : List Nat) : ∀ c : List Int, AV.backL σ (ics c) = ics c
  | [] => rfl
  | x :: c => by show AV.backL σ (.d (.int .i64 x) :: ics c) = _; simp only [AV.backL, AV.back, ics_back σ c]; rfl
theorem lg_bd (n : Int) : 0 ≤ lg n ∧ lg n ≤ 2031615 := by
  unfold lg
  split
  · omega
  · obtain ⟨hk, hx1, hx2⟩ := lg_start (show 1 ≤ n by omega) (show n ≤ 1073741824 by omega)
    have := (logTo_bounds hx1 hx2 (y := n.toNat.log2) (by omega) (by omega) 16).2
    simp at this
    omega
def measTo (c : List Int) (L : Int) : Nat → Int
  | 0 => 0
  | i + 1 => let n := (c[i]?).getD 0; if 0 < n then measTo c L i + n * (L - lg n) else measTo c L i
def meas (b : List Int) : Int := measTo (cnts b) (lg b.length) 256
theorem cnts_bd (b : List Int) (j : Nat) : 0 ≤ ((cnts b)[j]?).getD 0 ∧ ((cnts b)[j]?).getD 0 ≤ 65536 := by
  unfold cnts
  split
  · rw [zs256_get]; omega
  · have := cnt_bd b b.length j; omega
theorem cnts_len (b : List Int) : (cnts b).length = 256 := by unfold cnts; split; exact zs256_length; exact cnt_len b _
theorem term_bd {n L : Int} (h1 : 0 ≤ n) (h2 : n ≤ 65536) (h3 : 0 ≤ L) (h4 : L ≤ 2031615) : -137438953472 ≤ n * (L - lg n) ∧ n * (L - lg n) ≤ 137438953472 := by
  have hl := lg_bd n
  have a1 : n * (L - lg n) ≤ n * 2031615 := Int.mul_le_mul_of_nonneg_left (by omega) h1
  have a2 : n * (-2031615) ≤ n * (L - lg n) := Int.mul_le_mul_of_nonneg_left (by omega) h1
  omega
theorem meas_bd {c : List Int} {L : Int} (hc : ∀ j : Nat, 0 ≤ (c[j]?).getD 0 ∧ (c[j]?).getD 0 ≤ 65536) (h3 : 0 ≤ L) (h4 : L ≤ 2031615) : ∀ i : Nat, -(137438953472 * (i : Int)) ≤ measTo c L i ∧ measTo c L i ≤ 137438953472 * (i : Int)
  | 0 => by simp [measTo]
  | i + 1 => by
    have ih := meas_bd hc h3 h4 i
    have ht := term_bd (hc i).1 (hc i).2 h3 h4
    simp only [measTo]
    generalize (c[i]?).getD 0 = n at *
    generalize n * (L - lg n) = z at *
    split <;> omega

set_option maxHeartbeats 4000000 in
set_option maxRecDepth 10000 in
theorem measure_ok (b : List Int) (hb : Byt b) : FnOK Try.prog 23 [] [.d (.slice (bys b))] (.d (.int .i64 (meas b))) [] := by
  refine fn_ok (nt := 25) (rs := [.tmp 2]) Try.func23 rfl Try.ntmps23 rfl (by simp) (by decide) rfl fun K => ?_
  have hcb := cnts_bd b
  have hcl := cnts_len b
  have hL := lg_bd b.length
  have hM := meas_bd hcb hL.1 hL.2
  have hco := counts_ok b hb
  have hm : meas b = measTo (cnts b) (lg b.length) 256 := rfl
  have hlo := log_ok b.length
  rw [hm]
  generalize cnts b = c at *
  generalize lg b.length = L at *
  refine sr (by simp; rfl) ?_ -- region 0
  refine sr (by simp; rfl) ?_ -- region 1
  refine tr_seq ?_
  refine sc ?_ -- region 2
  refine so 1 (by simp; rfl) ?_
  refine tops_call [] hco (by simp) rfl rfl rfl Try.call27 (by simp) (by simp) (by simp) (by simp) (by simp) ?_
  refine sl (by simp; rfl) ?_
  refine tr_block (tr_loop (ι := { i : Nat // i ≤ 256 })
    (fun i => { nt := 25, env := [(8, .d (.int .i64 i.1)), (7, .agg (ics c)), (3, .d (.int .i64 (measTo c L i.1))), (0, .d (.slice (bys b)))], box := [], vec := [] })
    (fun i => 256 - i.1) ⟨0, by omega⟩ (by simp [weak_iff, measTo]) fun ⟨i, hi⟩ => ?_) -- block 0
  refine sr (by simp; rfl) ?_ -- region 3
  refine tr_seq ?_
  refine tr_cond (by simp; rfl) (fun h => ?_) (fun h => ?_)
  · simp at h
    have hi2 : i < 256 := by omega
    have hx : c[i]? = some (c[i]'(by omega)) := List.getElem?_eq_getElem (by omega)
    have hcn := hcb i
    have hMi := hM i
    have hstep : measTo c L (i + 1) = let n := (c[i]?).getD 0; if 0 < n then measTo c L i + n * (L - lg n) else measTo c L i := rfl
    generalize c[i]'(by omega) = n at hx
    rw [hx] at hstep hcn
    simp only [Option.getD_some] at hstep hcn
    have hcg : ∀ h : i < (ics c).length, (ics c)[i] = .d (.int .i64 n) := fun h => (List.getElem?_eq_some_iff.1 (ics_get hx)).2
    have ht := term_bd hcn.1 hcn.2 hL.1 hL.2
    have hln := lg_bd n
    have e3 : IntKind.i64.wrap ((i : Int) + 1) = ((i + 1 : Nat) : Int) := wrapI (by omega) (by omega)
    refine tr_skip ?_
    refine tr_seq ?_
    refine tr_block ?_ -- block 1
    refine sr (by simp [h, hi2, hcg, hcl]; rfl) ?_ -- region 4
    refine sr (by simp; rfl) ?_ -- region 5
    by_cases hn : 0 < n
    · refine tr_cond (b := true) (by simp [hn]) (fun _ => ?_) (fun h => by cases h)
      rw [if_pos hn] at hstep
      have hlg := log_ok n
      have f1 : IntKind.i64.wrap (L - lg n) = L - lg n := wrapI (by omega) (by omega)
      generalize lg n = y at *
      generalize hz : n * (L - y) = z at *
      have f2 : IntKind.i64.wrap z = z := wrapI (by omega) (by omega)
      have f3 : IntKind.i64.wrap (measTo c L i + z) = measTo c L i + z := wrapI (by omega) (by omega)
      refine lc ?_ -- region 6
      refine so 4 (by simp; rfl) ?_
      refine tops_call [] hlo (by simp) rfl rfl rfl Try.call15 (by simp) (by simp) (by simp) (by simp) (by simp) ?_
      refine so 1 (by simp; rfl) ?_
      refine tops_call [] hlg (by simp) rfl rfl rfl Try.call15 (by simp) (by simp) (by simp) (by simp) (by simp) ?_
      refine sl (by simp [f1, hz, f2, f3]; rfl) ?_
      refine lr (by simp [e3]; rfl) ?_ -- region 7
      exact ⟨⟨i + 1, by omega⟩, by simp; omega, by simp [weak_iff, hstep]⟩
    · refine tr_cond (b := false) (by simp [hn]) (fun h => by cases h) (fun _ => ?_)
      rw [if_neg hn] at hstep
      refine tr_skip ?_
      refine lr (by simp [e3]; rfl) ?_ -- region 7
      exact ⟨⟨i + 1, by omega⟩, by simp; omega, by simp [weak_iff, hstep]⟩
  · simp at h
    obtain rfl : i = 256 := by omega
    refine tr_exit ?_ -- 0
    refine sr (by simp; rfl) ?_ -- region 8
    exact tr_ret ⟨[], by simp, rfl, by simp⟩

def aabb : List Int := [97, 97, 98, 98]
set_option maxHeartbeats 4000000 in
set_option maxRecDepth 10000 in
theorem awake2_ok : FnOK Try.prog 17 [] [] (.d (.bool true)) [] := by
  have b1 : lg 8 = 196608 := by decide +kernel
  have b2 : meas aabb = 262144 := by decide +kernel
  have hl := log_ok 8
  have hme := measure_ok aabb (by intro x hx; simp [aabb] at hx; omega)
  rw [b1] at hl
  rw [b2] at hme
  refine fn_ok (nt := 9) (rs := [.tmp 0]) Try.func17 rfl Try.ntmps17 rfl (by simp) (by decide) rfl fun K => ?_
  refine sr (by simp; rfl) ?_ -- region 0
  refine sc ?_ -- region 1
  refine so 0 (by simp; rfl) ?_
  refine tops_call [] hl (by simp) rfl rfl rfl Try.call15 (by simp) (by simp) (by simp) (by simp) (by simp) ?_
  refine so 3 (by simp; rfl) ?_
  refine tops_mark (by simp) rfl rfl (by simp) (by simp; rfl) (by simp; rfl) (by simp) (by simp) Try.underlying54 Try.underlying5 ?_
  refine so 0 (by simp; rfl) ?_
  refine tops_call [] hme (by simp) rfl rfl rfl Try.call23 (by simp) (by simp) (by simp [bys, aabb]) (by simp) (by simp) ?_
  refine sl (by simp; rfl) ?_
  exact tr_ret ⟨[], by simp, rfl, by simp⟩
end Go.Vl
