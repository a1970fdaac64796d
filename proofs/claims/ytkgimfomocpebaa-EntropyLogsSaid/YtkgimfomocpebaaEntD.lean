/- Walks over functions of the given program in the value logic: what each computes, and plain laws of it. Conditions: none. -/
import Derived.Test.YtkgimfomocpebaaEntC
import Derived.Test.YtkgimfomocpebaaVlP
set_option linter.unusedSimpArgs false
set_option linter.unusedVariables false
namespace Go.Vl
open Go Go.Proofs

def bys (l : List Int) : List (List D) := l.map fun n => [.int .u8 n]
@[simp] theorem bys_length (l : List Int) : (bys l).length = l.length := by simp [bys]
theorem bys_get {l : List Int} {i : Nat} {x : Int} (h : l[i]? = some x) : (bys l)[i]? = some [.int .u8 x] := by simp [bys, h]
def cntTo (b : List Int) : Nat → List Int
  | 0 => zs256
  | i + 1 => let c := cntTo b i; match b[i]? with
    | some x => c.set x.toNat ((c[x.toNat]?).getD 0 + 1)
    | none => c
theorem cnt_len (b : List Int) : ∀ i, (cntTo b i).length = 256
  | 0 => by simp only [cntTo, zs256_length]
  | i + 1 => by
    simp only [cntTo]
    split
    · rw [List.length_set]; exact cnt_len b i
    · exact cnt_len b i
theorem cnt_bd (b : List Int) : ∀ (i j : Nat), 0 ≤ ((cntTo b i)[j]?).getD 0 ∧ ((cntTo b i)[j]?).getD 0 ≤ i
  | 0, j => by
    simp only [cntTo, zs256_get]; omega
  | i + 1, j => by
    have ih := cnt_bd b i
    have hj := ih j
    simp only [cntTo]
    split
    · rename_i x _
      rw [List.getElem?_set]
      split
      · split
        · rename_i h _; have := ih x.toNat; simp only [Option.getD_some]; omega
        · simp; omega
      · omega
    · omega
def cnts (b : List Int) : List Int := if 65536 < b.length then zs256 else cntTo b b.length
def Byt (b : List Int) : Prop := ∀ x ∈ b, 0 ≤ x ∧ x ≤ 255

set_option maxHeartbeats 4000000 in
set_option maxRecDepth 10000 in
theorem counts_ok (b : List Int) (hb : Byt b) : FnOK Try.prog 27 [] [.d (.slice (bys b))] (.agg (ics (cnts b))) [] := by
  refine fn_ok (nt := 23) (rs := [.cell 2 60]) Try.func27 rfl Try.ntmps27 rfl (by simp) (by decide) rfl fun K => ?_
  refine sr (by simp; rfl) ?_ -- region 0
  refine sr (by simp; rfl) ?_ -- region 1
  refine tr_seq ?_
  refine sr (by simp; rfl) ?_ -- region 2
  by_cases h : 65536 < b.length
  · refine tr_cond (b := true) (by simp; omega) (fun _ => ?_) (fun h => by cases h)
    have ht : (ics zs256).take 256 = ics zs256 := List.take_of_length_le (by simp)
    refine sr (by simp [ht]; rfl) ?_ -- region 3
    exact tr_ret ⟨[], by simp [cnts, h, ht], by simp [AV.wf], by simp⟩
  refine tr_cond (b := false) (by simp; omega) (fun h => by cases h) (fun _ => ?_)
  refine tr_skip ?_
  refine tr_seq ?_
  refine sr (by simp; rfl) ?_ -- region 4
  refine tr_block (tr_loop (ι := { i : Nat // i ≤ b.length })
    (fun i => { nt := 23, env := [(10, .d (.slice (bys b))), (11, .d (.int .i64 b.length)), (12, .d (.int .i64 i.1)), (3, .ptr 3 0), (2, .ptr 2 0)], box := [(3, ics (cntTo b i.1)), (2, ics zs256)], vec := [] })
    (fun i => b.length - i.1) ⟨0, by omega⟩ (by simp [weak_iff, cntTo]) fun ⟨i, hi⟩ => ?_) -- block 0
  refine sr (by simp; rfl) ?_ -- region 5
  refine tr_seq ?_
  refine tr_cond (by simp; rfl) (fun h => ?_) (fun h => ?_)
  · simp at h
    have hr : b[i]? = some b[i] := by simp [h]
    have hbx := hb b[i] (List.getElem_mem h)
    generalize b[i] = x at hr hbx
    have hrow := bys_get hr
    have hl := cnt_len b i
    have hbd := cnt_bd b i x.toNat
    have hstep : cntTo b (i + 1) = (cntTo b i).set x.toNat ((cntTo b i)[x.toNat]?.getD 0 + 1) := by simp only [cntTo, hr]
    generalize cntTo b i = c at *
    have hx : c[x.toNat]? = some (c[x.toNat]'(by omega)) := List.getElem?_eq_getElem (by omega)
    generalize c[x.toNat]'(by omega) = y at hx
    rw [hx] at hstep hbd
    simp only [Option.getD_some] at hstep hbd
    have hcg := ics_get hx
    have e1 : IntKind.i64.wrap (y + 1) = y + 1 := wrapI (by omega) (by omega)
    have e3 : IntKind.i64.wrap ((i : Int) + 1) = ((i + 1 : Nat) : Int) := wrapI (by omega) (by omega)
    obtain ⟨m, rfl⟩ : ∃ m : Nat, x = m := ⟨x.toNat, by omega⟩
    simp only [Int.toNat_natCast] at *
    refine tr_skip ?_
    refine tr_seq ?_
    refine tr_block ?_ -- block 1
    refine sr (by simp [hrow]; rfl) ?_ -- region 6
    have hm : (m : Int) < 256 := by omega
    have hm' : m < 256 := by omega
    have hm2 : m ≤ 255 := by omega
    have hcg2 : ∀ h : m < (ics c).length, (ics c)[m] = .d (.int .i64 y) := fun h => (List.getElem?_eq_some_iff.1 hcg).2
    have htd : List.take m (ics c) ++ .d (.int .i64 (y + 1)) :: List.drop (m + 1) (ics c) = ics (c.set m (y + 1)) := by
      rw [← ics_set, List.set_eq_take_append_cons_drop, if_pos (by simp [hl]; omega)]
    refine lr (by simp [hm, hm', hm2, hcg2, hl, e1, htd]; rfl) ?_ -- region 7
    refine lr (by simp [e3]; rfl) ?_ -- region 8
    exact ⟨⟨i + 1, by omega⟩, by simp; omega, by simp [weak_iff, hstep, ics_set]⟩
  · simp at h
    obtain rfl : i = b.length := by omega
    have hl := cnt_len b b.length
    refine tr_exit ?_ -- 0
    have ht : (ics (cntTo b b.length)).take 256 = ics (cntTo b b.length) := List.take_of_length_le (by simp [hl])
    refine sr (by simp [hl, ht]; rfl) ?_ -- region 9
    have e : cnts b = cntTo b b.length := by unfold cnts; rw [if_neg (by omega)]
    exact tr_ret ⟨[], by simp [e, hl, ht], by simp [AV.wf], by simp⟩
end Go.Vl
