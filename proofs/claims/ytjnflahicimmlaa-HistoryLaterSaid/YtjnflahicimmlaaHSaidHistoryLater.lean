/- The call leakresponselaw15.HistoryLater returns true for all arguments, and these read afterwards as they did. Conditions: none. -/
import Derived.Test.YtjnflahicimmlaaRows
import Derived.Test.YtjnflahicimmlaaHBw
import Derived.Test.YtjnflahicimmlaaHpH
import Derived.Test.YtjnflahicimmlaaVmW
import Derived.Test.YtjnflahicimmlaaVmZh
set_option linter.unusedSimpArgs false
set_option linter.unusedVariables false
namespace Go.Vl
open Go Go.Proofs
end Go.Vl
namespace Go.Proofs.Ytjnflahicimmlaa.historyLater
open Go.ChangeShapes Go.WideShapes Go.ChangeAt Go.RowKit
set_option linter.unusedVariables false

theorem own : ownKnob Try.prog.godebug = none := by kernel_rfl
theorem laidOut : laidOutB Try.prog = true := by kernel_rfl

set_option maxRecDepth 100000 in
theorem lifted (os : Os) (started : os.Started) (H : Type) (enc : TypeId × Value → H) :
    ReturnsInHanded {} Try.checked os 3 .any (Rows.historyLaterSpec.pre6 enc Try.prog Try.f3 Rows.historyLaterRow.domain false) (Rows.historyLaterSpec.post enc Try.prog Try.f3 false true false false) := by
  refine returnsInHanded_of_change (C := Try.checked) own started (by kernel_rfl) Try.func3
    (ChangeSpec.witness6 (enc := enc) (C := Try.checked) false ⟨#[], #[.slice none 0 0, .int .i64 0], []⟩ 8 (by kernel_rfl) (by kernel_rfl) (by kernel_rfl) (by kernel_rfl)) ?_
  intro W base args ds gs before hval0 hW hcnd _
  have hgl : Vl.GlobAt Try.prog W (· < W.heap.size) := Vl.globAt_none (by kernel_rfl)
  have hval : ∀ (j : Nat) t v, Try.f3.params[j]? = some t → args[j]? = some v → Value.okWide Try.prog W .any base t v := hval0
  have hW' := hW
  obtain ⟨p, q, hA0, hV, rfl, hfz, hnd⟩ := hW
  have hA : DataW.TrodAll enc Try.prog W 0 (fun _ => true) true Try.f3.params.toList args.toList ds p := hA0
  rw [Try.params3] at hA hval
  obtain ⟨v0, vs0, d0, ds0, p0, q0, hargs, rfl, rfl, h0, r0⟩ := trodAll_cons hA
  obtain ⟨v1, vs1, d1, ds1, p1, q1, rfl, rfl, rfl, h1, r1⟩ := trodAll_cons r0
  obtain ⟨rfl, rfl, rfl⟩ := trodAll_nil r1
  obtain rfl : args = #[v0, v1] := by cases args; simp_all
  obtain ⟨rfl, rfl⟩ := trodVars_none hV
  obtain ⟨z0, s0, A0, B0⟩ := Vl.in_any (P := Try.prog) (pl := Vl.ioPl [] []) 2 (by simp [Vl.plainB, Vl.plainB.go, Try.underlying3, Try.underlying22, show Try.prog.cellsOf 3 = 1 from by kernel_rfl, show Try.prog.cellsOf 22 = 1 from by kernel_rfl]) (hval 0 22 v0 rfl rfl) h0
  obtain ⟨a0, rfl⟩ := Vl.shp_slice Try.underlying22 (f := (Vl.iRow .i64)) (fun _ _ h => Vl.shp_int Try.underlying3 h) s0
  obtain ⟨x0, e0, R0⟩ := B0 (fun fs h => by rw [Try.underlying22] at h; cases h)
  simp only [Vl.iRow, Vl.bRow, Vl.sRow, Vl.slRow, List.cons.injEq, and_true] at e0; subst e0
  obtain ⟨z1, s1, A1, B1⟩ := Vl.in_any (P := Try.prog) (pl := Vl.ioPl [] []) 1 (by simp [Vl.plainB, Vl.plainB.go, Try.underlying3, show Try.prog.cellsOf 3 = 1 from by kernel_rfl]) (hval 1 3 v1 rfl rfl) h1
  obtain ⟨a1, rfl⟩ := Vl.shp_int Try.underlying3 s1
  obtain ⟨x1, e1, R1⟩ := B1 (fun fs h => by rw [Try.underlying3] at h; cases h)
  simp only [Vl.iRow, Vl.bRow, Vl.sRow, Vl.slRow, List.cons.injEq, and_true] at e1; subst e1
  refine ((Vl.law15_HistoryLater_ok (Vl.HistoryLater_law a0 a1)).run W #[v0, v1] rfl (fun i x v hx hv => ?_) hgl).mono fun e W' ⟨v, he, hr, hb⟩ => ?_
  · match i, hx, hv with
    | 0, hx, hv => simp at hx hv; subst hx hv; exact R0
    | 1, hx, hv => simp at hx hv; subst hx hv; exact R1
  · obtain rfl := hr.bool_inv
    exact ⟨_, he, Vl.post_true laidOut (by kernel_rfl) rfl Try.underlying4 rfl hW' rfl rfl rfl hb⟩

theorem closed : joinedFacts Try.pinned.checked.prog 3 Try.f3 Rows.historyLaterSpec Rows.historyLaterRow = true := by kernel_rfl
theorem inst : Try.f3.isInstance Try.pinned.checked.prog Rows.historyLaterRow.origin Rows.historyLaterRow.targs := of_decide_eq_true (by kernel_rfl)
theorem wraps : Try.f3.isWrapper Try.pinned.checked.prog Rows.historyLaterRow.wrapper Rows.historyLaterRow.mainSum := by
  unfold Func.isWrapper; first | (rw [if_pos (by decide +kernel)]; kernel_rfl) | (rw [if_neg (by decide +kernel)]; exact ⟨rfl, rfl⟩)
theorem named : Try.pinned.checked.prog.funcNamed Rows.historyLaterRow.func = some 3 := by kernel_rfl
theorem over : Rows.historyLaterRow.holds Try.pinned (OpenSpec.ofChange Rows.historyLaterSpec) :=
  OpenClaim.holds_of_wide 3 Try.f3 rfl rfl rfl rfl rfl rfl rfl ⟨rfl, rfl, rfl, rfl, rfl⟩ rfl rfl rfl rfl rfl named Try.func3 closed inst wraps
    (fun os started H enc _ => lifted os started H enc)

theorem proved : Rows.HistoryLaterSaid :=
  over
#print axioms proved
end Go.Proofs.Ytjnflahicimmlaa.historyLater
