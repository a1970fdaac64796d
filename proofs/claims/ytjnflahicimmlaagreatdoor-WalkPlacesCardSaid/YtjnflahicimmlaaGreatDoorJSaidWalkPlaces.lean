/- The call leakresponselaw16.WalkPlaces returns true for all arguments, and these read afterwards as they did. Conditions: none. -/
import Derived.Test.YtjnflahicimmlaaGreatDoorTie
import Derived.Test.YtjnflahicimmlaaGreatDoorCards
import Derived.Lib.LaidTab
import Derived.Handed
import Derived.ProofKit
import Derived.Test.YtjnflahicimmlaaGreatDoorRows
import Derived.Test.YtjnflahicimmlaaGreatDoorJBq
import Derived.Test.YtjnflahicimmlaaGreatDoorJwT
import Derived.Test.YtjnflahicimmlaaGreatDoorVmW
import Derived.Test.YtjnflahicimmlaaGreatDoorVmZh
set_option linter.unusedSimpArgs false
set_option linter.unusedVariables false
namespace Go.Vl
open Go Go.Proofs
end Go.Vl
namespace Go.Proofs.YtjnflahicimmlaaGreatDoor.walkPlaces
open Go.ChangeShapes Go.WideShapes Go.ChangeAt Go.RowKit
set_option linter.unusedVariables false
theorem own : ownKnob Tryz.prog.godebug = none := by kernel_rfl
theorem laidOut : laidOutB Tryz.prog = true := by kernel_rfl
theorem gName : Tryz.prog.globalNamed "internal/strconv.uint64pow10" = some 0 := by kernel_rfl
theorem gType : (Tryz.prog.globals[0]?).map (·.type) = some 182 := by kernel_rfl
theorem gOf : Vl.globOf Tryz.prog 0 = [1, 10, 100, 1000, 10000, 100000, 1000000, 10000000, 100000000, 1000000000, 10000000000, 100000000000, 1000000000000, 10000000000000, 100000000000000, 1000000000000000, 10000000000000000, 100000000000000000, 1000000000000000000, 10000000000000000000] := by kernel_rfl
theorem gK : Vl.globK Tryz.prog 0 = .u64 := by kernel_rfl
theorem tab_at {P : Program} {W : World} {nm : String} {k : IntKind} {zs : List Int} {g : Nat} (h : Lib.TabIs P W nm k zs) (hg : P.globalNamed nm = some g) (i : Nat) (x : Int) (hx : zs[i]? = some x) : W.cell? ⟨g, i, none⟩ = some (.int k x) := by
 rw [World.var?_cell hg h i]; simp [hx]
theorem tab_end {P : Program} {W : World} {nm : String} {k : IntKind} {zs : List Int} {g : Nat} (h : Lib.TabIs P W nm k zs) (hg : P.globalNamed nm = some g) : W.cell? ⟨g, zs.length, none⟩ = none := by
 rw [World.var?_cell hg h]; simp
theorem laid_tail {P : Program} {x : String × DataW Unit} {r : List (String × DataW Unit)} {w : World} (h : laidMet P (x :: r) w) : laidMet P r w := by
 obtain ⟨ps, hv, hnd, hrows⟩ := h
 obtain ⟨n, d⟩ := x
 obtain ⟨g, t, cs, fuel, p, q, _, _, _, _, hq, rfl⟩ := hv
 exact ⟨q, hq, List.Nodup.sublist (List.sublist_append_right _ _) hnd, fun b off hm => hrows b off (List.mem_append_right _ hm)⟩
noncomputable def tabWorld (os : Os) : World :=
 let w0 := World.holding Tryz.prog os ⟨#[], #[], []⟩
 { w0 with heap := (((w0.heap.modify 1 fun
     | .cells _ t frozen => .cells #[.int .u8 0, .int .u8 1, .int .u8 28, .int .u8 2, .int .u8 29, .int .u8 14, .int .u8 24, .int .u8 3, .int .u8 30, .int .u8 22, .int .u8 20, .int .u8 15, .int .u8 25, .int .u8 17, .int .u8 4, .int .u8 8, .int .u8 31, .int .u8 27, .int .u8 13, .int .u8 23, .int .u8 21, .int .u8 19, .int .u8 16, .int .u8 7, .int .u8 26, .int .u8 12, .int .u8 18, .int .u8 6, .int .u8 11, .int .u8 5, .int .u8 10, .int .u8 9] t frozen
     | o => o).modify 2 fun
     | .cells _ t frozen => .cells #[.int .u8 0, .int .u8 1, .int .u8 56, .int .u8 2, .int .u8 57, .int .u8 49, .int .u8 28, .int .u8 3, .int .u8 61, .int .u8 58, .int .u8 42, .int .u8 50, .int .u8 38, .int .u8 29, .int .u8 17, .int .u8 4, .int .u8 62, .int .u8 47, .int .u8 59, .int .u8 36, .int .u8 45, .int .u8 43, .int .u8 51, .int .u8 22, .int .u8 53, .int .u8 39, .int .u8 33, .int .u8 30, .int .u8 24, .int .u8 18, .int .u8 12, .int .u8 5, .int .u8 63, .int .u8 55, .int .u8 48, .int .u8 27, .int .u8 60, .int .u8 41, .int .u8 37, .int .u8 16, .int .u8 46, .int .u8 35, .int .u8 44, .int .u8 21, .int .u8 52, .int .u8 32, .int .u8 23, .int .u8 11, .int .u8 54, .int .u8 26, .int .u8 40, .int .u8 15, .int .u8 34, .int .u8 20, .int .u8 31, .int .u8 10, .int .u8 25, .int .u8 14, .int .u8 19, .int .u8 9, .int .u8 13, .int .u8 8, .int .u8 7, .int .u8 6] t frozen
     | o => o).modify 0 fun
     | .cells _ t frozen => .cells #[.int .u64 1, .int .u64 10, .int .u64 100, .int .u64 1000, .int .u64 10000, .int .u64 100000, .int .u64 1000000, .int .u64 10000000, .int .u64 100000000, .int .u64 1000000000, .int .u64 10000000000, .int .u64 100000000000, .int .u64 1000000000000, .int .u64 10000000000000, .int .u64 100000000000000, .int .u64 1000000000000000, .int .u64 10000000000000000, .int .u64 100000000000000000, .int .u64 1000000000000000000, .int .u64 10000000000000000000] t frozen
     | o => o) }
set_option maxRecDepth 100000 in
theorem laid_met (os : Os) (args : Array Value) : laidMet Tryz.prog Rows.walkPlacesRow.laid ((tabWorld os).forCall (fun _ _ => 0) ⟨#[], args, []⟩).memory :=
 laidMet_of_run (ps := [.cell 1 0, .cell 1 1, .cell 1 2, .cell 1 3, .cell 1 4, .cell 1 5, .cell 1 6, .cell 1 7, .cell 1 8, .cell 1 9, .cell 1 10, .cell 1 11, .cell 1 12, .cell 1 13, .cell 1 14, .cell 1 15, .cell 1 16, .cell 1 17, .cell 1 18, .cell 1 19, .cell 1 20, .cell 1 21, .cell 1 22, .cell 1 23, .cell 1 24, .cell 1 25, .cell 1 26, .cell 1 27, .cell 1 28, .cell 1 29, .cell 1 30, .cell 1 31, .cell 2 0, .cell 2 1, .cell 2 2, .cell 2 3, .cell 2 4, .cell 2 5, .cell 2 6, .cell 2 7, .cell 2 8, .cell 2 9, .cell 2 10, .cell 2 11, .cell 2 12, .cell 2 13, .cell 2 14, .cell 2 15, .cell 2 16, .cell 2 17, .cell 2 18, .cell 2 19, .cell 2 20, .cell 2 21, .cell 2 22, .cell 2 23, .cell 2 24, .cell 2 25, .cell 2 26, .cell 2 27, .cell 2 28, .cell 2 29, .cell 2 30, .cell 2 31, .cell 2 32, .cell 2 33, .cell 2 34, .cell 2 35, .cell 2 36, .cell 2 37, .cell 2 38, .cell 2 39, .cell 2 40, .cell 2 41, .cell 2 42, .cell 2 43, .cell 2 44, .cell 2 45, .cell 2 46, .cell 2 47, .cell 2 48, .cell 2 49, .cell 2 50, .cell 2 51, .cell 2 52, .cell 2 53, .cell 2 54, .cell 2 55, .cell 2 56, .cell 2 57, .cell 2 58, .cell 2 59, .cell 2 60, .cell 2 61, .cell 2 62, .cell 2 63, .cell 0 0, .cell 0 1, .cell 0 2, .cell 0 3, .cell 0 4, .cell 0 5, .cell 0 6, .cell 0 7, .cell 0 8, .cell 0 9, .cell 0 10, .cell 0 11, .cell 0 12, .cell 0 13, .cell 0 14, .cell 0 15, .cell 0 16, .cell 0 17, .cell 0 18, .cell 0 19]) 8 (by kernel_rfl) (by kernel_rfl) (by kernel_rfl)
set_option maxRecDepth 100000 in
theorem glob {W : World} (h : laidMet Tryz.prog Rows.walkPlacesRow.laid W) : Vl.GlobAt Tryz.prog W (· < W.heap.size) := by
 have hT : Lib.TabIs Tryz.prog W "internal/strconv.uint64pow10" .u64 [1, 10, 100, 1000, 10000, 100000, 1000000, 10000000, 100000000, 1000000000, 10000000000, 100000000000, 1000000000000, 10000000000000, 100000000000000, 1000000000000000, 10000000000000000, 100000000000000000, 1000000000000000000, 10000000000000000000] := Lib.tabIs_of_head gName gType Tryz.underlying182 Tryz.underlying161 (by kernel_rfl) (by kernel_rfl) (laid_tail (laid_tail h))
 exact Vl.globAt_one (g := 0) (by kernel_rfl) gOf (fun i x hx => by rw [gK]; exact tab_at hT gName i x hx) fun _ => tab_end hT gName
set_option maxRecDepth 100000 in
theorem lifted (os : Os) (started : os.Started) (H : Type) (enc : TypeId × Value → H) :
   ReturnsInHanded {} Tryz.checked os 4 .any (fun w args => (Rows.walkPlacesSpec.pre enc Tryz.prog Tryz.f4 Rows.walkPlacesRow.domain false w args ∧ laidMet Tryz.prog Rows.walkPlacesRow.laid w) ∧ sizedMet enc Tryz.prog Tryz.f4 (OpenSpec.ofChange Rows.walkPlacesSpec) false w args) (Rows.walkPlacesSpec.post enc Tryz.prog Tryz.f4 false true false false) := by
 refine returnsInHanded_of_change_and (C := Tryz.checked) (X := fun w _ => laidMet Tryz.prog Rows.walkPlacesRow.laid w) (fun _ _ _ hh h => h.of_heap hh) own started (by kernel_rfl) Tryz.func4
   (ChangeSpec.witness_at (enc := enc) (C := Tryz.checked) (os := os) (X := fun w _ => laidMet Tryz.prog Rows.walkPlacesRow.laid w) false (tabWorld os) #[.slice none 0 0, .int .i64 0] 8 rfl (by kernel_rfl) (by kernel_rfl) (by kernel_rfl) (by kernel_rfl) (by kernel_rfl) (laid_met os _)) ?_
 intro W base args ds gs before hval0 hW hcnd _ hL _
 have hgl : Vl.GlobAt Tryz.prog W (· < W.heap.size) := glob hL
 have hval : ∀ (j : Nat) t v, Tryz.f4.params[j]? = some t → args[j]? = some v → Value.okWide Tryz.prog W .any base t v := hval0
 have hW' := hW
 obtain ⟨p, q, hA0, hV, rfl, hfz, hnd⟩ := hW
 have hA : DataW.TrodAll enc Tryz.prog W 0 (fun _ => true) true Tryz.f4.params.toList args.toList ds p := hA0
 rw [Tryz.params4] at hA hval
 obtain ⟨v0, vs0, d0, ds0, p0, q0, hargs, rfl, rfl, h0, r0⟩ := trodAll_cons hA
 obtain ⟨v1, vs1, d1, ds1, p1, q1, rfl, rfl, rfl, h1, r1⟩ := trodAll_cons r0
 obtain ⟨rfl, rfl, rfl⟩ := trodAll_nil r1
 obtain rfl : args = #[v0, v1] := by cases args; simp_all
 obtain ⟨rfl, rfl⟩ := trodVars_none hV
 obtain ⟨z0, s0, A0, B0⟩ := Vl.in_any (P := Tryz.prog) (pl := Vl.ioPl [] []) 2 (by simp [Vl.plainB, Vl.plainB.go, Tryz.underlying3, Tryz.underlying22, show Tryz.prog.cellsOf 3 = 1 from by kernel_rfl, show Tryz.prog.cellsOf 22 = 1 from by kernel_rfl]) (hval 0 22 v0 rfl rfl) h0
 obtain ⟨a0, rfl⟩ := Vl.shp_slice Tryz.underlying22 (f := (Vl.iRow .i64)) (fun _ _ h => Vl.shp_int Tryz.underlying3 h) s0
 obtain ⟨x0, e0, R0⟩ := B0 (fun fs h => by rw [Tryz.underlying22] at h; cases h)
 simp only [Vl.iRow, Vl.bRow, Vl.sRow, Vl.slRow, List.cons.injEq, and_true] at e0; subst e0
 obtain ⟨z1, s1, A1, B1⟩ := Vl.in_any (P := Tryz.prog) (pl := Vl.ioPl [] []) 1 (by simp [Vl.plainB, Vl.plainB.go, Tryz.underlying3, show Tryz.prog.cellsOf 3 = 1 from by kernel_rfl]) (hval 1 3 v1 rfl rfl) h1
 obtain ⟨a1, rfl⟩ := Vl.shp_int Tryz.underlying3 s1
 obtain ⟨x1, e1, R1⟩ := B1 (fun fs h => by rw [Tryz.underlying3] at h; cases h)
 simp only [Vl.iRow, Vl.bRow, Vl.sRow, Vl.slRow, List.cons.injEq, and_true] at e1; subst e1
 refine ((Vl.law16_WalkPlaces_ok (Vl.WalkPlaces_law a0 a1)).run W #[v0, v1] rfl (fun i x v hx hv => ?_) hgl).mono fun e W' ⟨v, he, hr, hb⟩ => ?_
 · match i, hx, hv with
   | 0, hx, hv => simp at hx hv; subst hx hv; exact R0
   | 1, hx, hv => simp at hx hv; subst hx hv; exact R1
 · obtain rfl := hr.bool_inv
   exact ⟨_, he, Vl.post_true laidOut (by kernel_rfl) rfl Tryz.underlying4 rfl hW' rfl rfl rfl hb⟩
theorem closed : joinedFacts Tryz.pinned.checked.prog 4 Tryz.f4 Rows.walkPlacesSpec Rows.walkPlacesRow = true := by kernel_rfl
theorem inst : Tryz.f4.isInstance Tryz.pinned.checked.prog Rows.walkPlacesRow.origin Rows.walkPlacesRow.targs := of_decide_eq_true (by kernel_rfl)
theorem wraps : Tryz.f4.isWrapper Tryz.pinned.checked.prog Rows.walkPlacesRow.wrapper Rows.walkPlacesRow.mainSum := by
 unfold Func.isWrapper; first | (rw [if_pos (by decide +kernel)]; kernel_rfl) | (rw [if_neg (by decide +kernel)]; exact ⟨rfl, rfl⟩)
theorem named : Tryz.pinned.checked.prog.funcNamed Rows.walkPlacesRow.func = some 4 := by kernel_rfl
theorem over : Rows.walkPlacesRow.holds Tryz.pinned (OpenSpec.ofChange Rows.walkPlacesSpec) :=
 OpenClaim.holds_of_wide 4 Tryz.f4 rfl rfl rfl rfl rfl rfl rfl ⟨rfl, rfl, rfl, rfl, rfl⟩ rfl rfl rfl rfl rfl named Tryz.func4 closed inst wraps
   (fun os started H enc _ => lifted os started H enc)
theorem wants : ∀ (j : Nat) (t : TypeId), Tryz.f4.params[j]? = some t → Tryz.pinned.checked.prog.wantsStandIn t = false := fun j t ht => by
 have h : (Tryz.f4.params.all fun t => !Tryz.pinned.checked.prog.wantsStandIn t) = true := by kernel_rfl
 have := (Array.all_eq_true.1 h) j (Array.getElem?_eq_some_iff.1 ht).1
 rw [(Array.getElem?_eq_some_iff.1 ht).2] at this
 simpa using this
theorem proved : Rows.WalkPlacesCardSaid :=
 Claim7.holds_tied_plain_at .later [] [.data, .data, .data] true Rows.walkPlacesCard.stood.harness Rows.walkPlacesCard.stood.looks over (fun _ h => by cases h) (by kernel_rfl) (fun _ h => by cases h) walkPlaces_row_tie rfl ⟨rfl, rfl⟩ (by kernel_rfl) rfl
   (fun f fn hf hfn => by
     obtain rfl : f = 4 := (Option.some.inj (named.symm.trans hf)).symm
     obtain rfl : fn = Tryz.f4 := (Option.some.inj (Tryz.func4.symm.trans hfn)).symm
     exact ⟨by kernel_rfl, wants⟩)
   (by kernel_rfl)
#print axioms proved
end Go.Proofs.YtjnflahicimmlaaGreatDoor.walkPlaces
