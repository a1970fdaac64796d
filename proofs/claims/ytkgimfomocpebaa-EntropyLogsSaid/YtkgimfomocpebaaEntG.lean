/- Walks over functions of the given program in the value logic: what each computes, and plain laws of it. Conditions: none. -/
import Derived.Test.YtkgimfomocpebaaEntF
import Derived.Test.YtkgimfomocpebaaVlV
import Derived.Test.YtkgimfomocpebaaLedA
set_option linter.unusedSimpArgs false
set_option linter.unusedVariables false
namespace Go.Vl
open Go Go.Proofs

set_option maxHeartbeats 4000000 in
theorem logs_ok (n : Int) : FnOK Try.prog 6 [] [.d (.int .i64 n)] (.d (.bool true)) [] := by
  refine fn_ok (nt := 38) (rs := [.tmp 2]) Try.func6 rfl Try.ntmps6 rfl (by simp) (by decide) rfl fun K => ?_
  have a5 : bAnd .i64 n 31 = n % 32 := bAndM5 n
  have c5 : 0 ≤ n % 32 ∧ n % 32 < 32 := by omega
  obtain ⟨k, hk⟩ : ∃ k : Nat, n % 32 = k := ⟨(n % 32).toNat, by omega⟩
  rw [hk] at a5 c5
  have f3 : IntKind.u64.wrap (k : Int) = (k : Int) := by simp [IntKind.wrap, IntKind.signed, IntKind.bits]; omega
  refine sr (by simp; rfl) ?_ -- region 0
  refine srw { nt := 38, env := [(3, .vec 19)], box := [], vec := [(19, ⟨3, 1, ints [n, bAnd .i64 n 255, bAnd .i64 n 65535, bAnd .i64 n 1073741823, IntKind.i64.wrap (2 ^ (min k IntKind.i64.bits)), IntKind.i64.wrap (1073741824 + bAnd .i64 n 1)]⟩)] } ⟨_, by simp [a5, f3]; rfl, by simp [weak_iff, ints]⟩ ?_ -- region 1
  have hL : ([n, bAnd .i64 n 255, bAnd .i64 n 65535, bAnd .i64 n 1073741823, IntKind.i64.wrap (2 ^ (min k IntKind.i64.bits)), IntKind.i64.wrap (1073741824 + bAnd .i64 n 1)] : List Int).length = 6 := rfl
  generalize ([n, bAnd .i64 n 255, bAnd .i64 n 65535, bAnd .i64 n 1073741823, IntKind.i64.wrap (2 ^ (min k IntKind.i64.bits)), IntKind.i64.wrap (1073741824 + bAnd .i64 n 1)] : List Int) = L at hL
  refine tr_frz 19 ?_
  refine tr_seq ?_
  refine sr (by simp; rfl) ?_ -- region 2
  refine tr_block (tr_loop (ι := { i : Nat // i ≤ 6 })
    (fun i => { nt := 38, env := [(4, .d (.int .i64 i.1)), (3, .d (.slice (ints L)))], box := [], vec := [] })
    (fun i => 6 - i.1) ⟨0, by omega⟩ (by simp [weak_iff]) fun ⟨i, hi⟩ => ?_) -- block 0
  refine tr_seq ?_
  refine sr (by simp; rfl) ?_ -- region 3
  refine tr_cond (by simp; rfl) (fun h => ?_) (fun h => ?_)
  · simp [hL] at h
    have hx : L[i]? = some (L[i]'(by omega)) := List.getElem?_eq_getElem (by omega)
    generalize L[i]'(by omega) = x at hx
    have hg := ints_get hx
    have e3 : IntKind.i64.wrap ((i : Int) + 1) = ((i + 1 : Nat) : Int) := wrapI (by omega) (by omega)
    refine tr_skip ?_
    refine tr_seq ?_
    refine tr_block ?_ -- block 1
    refine kd [[], [], [0, 1], [0, 1, 2], [0, 1, 2, 3], [], [], [5, 6], [5, 6, 7], [0, 1, 2, 3, 4, 5, 6, 7, 8], [0, 1, 2, 3, 4, 5, 6, 7, 8, 9]] [] [] 11 fol (by decide +kernel) ?_
    refine dr_go 0 4 rfl (by simp [hg]; rfl) ?_
    refine dr_call 4 [] (log_ok x) rfl rfl rfl rfl rfl Try.call15 (by simp) ?_
    refine dr_go 5 4 rfl (by simp [hg]; rfl) ?_
    refine dr_call 9 [] (reflog_ok x) rfl rfl rfl rfl rfl Try.call16 (by simp) ?_
    refine dr_go 10 1 rfl (by simp; rfl) ?_
    refine dr_end rfl (tops_nil ?_)
    refine tr_cond (b := false) (by simp) (fun h => by cases h) (fun _ => ?_)
    refine tr_skip ?_
    refine lr (by simp [e3]; rfl) ?_ -- region 4
    exact ⟨⟨i + 1, by omega⟩, by simp; omega, by simp [weak_iff]⟩
  · refine tr_exit ?_ -- 0
    refine sc ?_ -- region 7
    refine so 0 (by simp; rfl) ?_
    refine tops_call [] awake2_ok (by simp) rfl rfl rfl Try.call17 (by simp) (by simp) (by simp) (by simp) (by simp) ?_
    refine sl (by simp; rfl) ?_
    exact tr_ret ⟨[], by simp, rfl, by simp⟩
end Go.Vl
