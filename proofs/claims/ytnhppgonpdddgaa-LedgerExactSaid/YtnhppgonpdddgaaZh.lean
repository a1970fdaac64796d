/- Library functions of these laws: the number of bits, records put in order. Conditions: none. -/
import Derived.Test.YtnhppgonpdddgaaZb
import Derived.Test.YtnhppgonpdddgaaVmZs
import Derived.Test.YtnhppgonpdddgaaZsg
import Derived.Test.YtnhppgonpdddgaaZs
set_option linter.unusedSimpArgs false
set_option linter.unusedVariables false
namespace Go.Vl
open Go Go.Proofs Go.Shelf Go.RowKit Go.Lib Go.Sort

theorem plain_api_Record (x : api_Record) : ∀ d ∈ api_Record_row x, plainD d = true := fun d hd => by
  simp only [api_Record_row, List.mem_cons, List.not_mem_nil, or_false] at hd
  rcases hd with rfl | rfl | rfl | rfl <;> rfl
def cfSince (x y : api_Record) : Int := IntKind.i64.wrap (x.Since - y.Since)
set_option maxHeartbeats 1000000 in
theorem closure36 (x y : api_Record) : CmpAt Try.prog 36 api_Record_row cfSince x y := by
  intro W
  show Calls Try.prog 36 #[.agg #[.int .i64 x.Known, .int .i64 x.Since, .int .i64 x.Subject, .int .i64 x.Value], .agg #[.int .i64 y.Known, .int .i64 y.Since, .int .i64 y.Subject, .int .i64 y.Value]] W _
  unfold cfSince
  go_enter Try.func36, Try.ntmps36
  go_wp2
  go_ret
  have e : wrap64 (x.Since - y.Since) = IntKind.i64.wrap (x.Since - y.Since) := by rw [IntKind.wrap_i64, wrap64]
  exact ⟨congrArg (fun n => Ending.returned (Value.int .i64 n)) e, 0, _, by rw [alloc_eq_grow, alloc_eq_grow, grow_grow]; rfl⟩
open Classical in
noncomputable def slices_SortFunc_api_Record_vec0_at_ledger_Line_1 (a0 : List api_Record) : Option (List api_Record) :=
  (ck (a0.length ≤ 268435456 ∧ (∀ x ∈ a0, 0 ≤ x.Since ∧ x.Since ≤ 4611686018427387904) ∧ ∀ x ∈ a0, ∀ y ∈ a0, x.Since = y.Since → x = y)).bind fun _ => some (a0.mergeSort fun x y => decide (x.Since ≤ y.Since))
theorem cf_key {x y : api_Record} (hx : 0 ≤ x.Since ∧ x.Since ≤ 4611686018427387904) (hy : 0 ≤ y.Since ∧ y.Since ≤ 4611686018427387904) : cfSince x y < 0 ↔ x.Since < y.Since := by
  unfold cfSince
  rw [IntKind.wrap_i64]
  omega
open Classical in
theorem slices_SortFunc_api_Record_vec0_at_ledger_Line_1_ok {a0 r : List api_Record} (h0 : slices_SortFunc_api_Record_vec0_at_ledger_Line_1 a0 = some r) : FnOKh Try.prog 35 [] [⟨42, 4, rowsF api_Record_row a0⟩] [.vec (InV 0), .fn 36 []] (.tup []) [] [⟨42, 4, rowsF api_Record_row r⟩] := by
  unfold slices_SortFunc_api_Record_vec0_at_ledger_Line_1 at h0
  obtain ⟨_, h1, h0⟩ := bnd h0
  cases h0
  obtain ⟨h2, h3, h4⟩ := ck_some h1
  have hk : ∀ x ∈ a0, ∀ y ∈ a0, (cfSince x y < 0 ↔ x.Since < y.Since) := fun x hx y hy => cf_key (h3 x hx) (h3 y hy)
  rw [← sort_key hk]
  exact sortF_row Try.sort35 Try.isAgg42 Try.sizeOf42 plain_api_Record (fun _ => rfl) cfSince a0 (swo_key (fun x : {x // x ∈ a0} => x.1.Since) fun x y => hk x.1 x.2 y.1 y.2) (fun x hx y hy g1 g2 => h4 x hx y hy (by have := hk x hx y hy; have := hk y hy x hx; omega)) (enters_of Try.func36 (by kernel_rfl) rfl) (fun x _ y _ => closure36 x y) h2
end Go.Vl
