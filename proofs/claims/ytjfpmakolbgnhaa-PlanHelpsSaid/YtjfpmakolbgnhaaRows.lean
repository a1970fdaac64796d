/-
  No cell of these rows narrows 'for every input' (looked for: loops, veiled, ifaces, maps, wideKeys, modest, calm, conditions, laid).
  DERIVED. THE GIVEN ROWS OF THIS SEAT. 5 by the template 'for every input the law returns true; each argument reads behind the call as it read before'; 0 by the template 'total and deterministic' (their statements: YtjfpmakolbgnhaaTotals.lean).
  GIVEN WITH THE SEED: the statements are not yours to turn. If you find one false, say at which input.
  Laid BY PROGRAM, IN A SANDBOX (cutbox-rows.mjs): the forced cells as the released guide's own fill.sh prints them over the translation 2f7ce5167327bb07… (all of the seat's roots in one cut). By AI agents, Wed Nov 11 2026. No macro, syntax, notation, axiom, sorry.
-/
import Derived.Test.YtjfpmakolbgnhaaChecked
import GoSem.Claim
import GoSem.ClaimJoined
import GoSem.ClaimMapViews
import Derived.JoinedTies
import Derived.KernelRfl
namespace Go.Proofs.Ytjfpmakolbgnhaa
/- THE CELL 'sum', in the pinned program and in every row, IS THE sha256 OF THE DUMP (.gsa) THAT YtjfpmakolbgnhaaProg.lean LOADS. Nothing in Lean hashes anything: it is a label: what it is worth is what the hold of that sum in a sandbox is worth. -/
noncomputable def Try.pinned : Pinned := { name := "ytjfpmakolbgnhaa", sum := "2f7ce5167327bb07371aa71ce50be88cfc6430747ecac9c514eb0385edf6b3de", checked := Try.checked }
namespace Rows
def none {H : Type} : Left H := { results := [], args := [] }

/-- 'leakresponselaw34.SearchLess': WHATEVER THE INPUT: true; the input reads as it did. -/
def searchLessSpec : ChangeSpec := { name := "searchLess", fn := fun _ => fun
  | [d] => { results := [.lit (.bool true)], args := [d] }
  | _ => none }
def searchLessRow : OpenClaim := { program := "ytjfpmakolbgnhaa", sum := "2f7ce5167327bb07371aa71ce50be88cfc6430747ecac9c514eb0385edf6b3de", func := "leakresponse/leakresponselaw34.SearchLess", spec := "searchLess", unfollowed := true, recurses := true, plainKeys := false, apart := false }
def SearchLessSaid : Prop := searchLessRow.holds Try.pinned (OpenSpec.ofChange searchLessSpec)

/-- ITS FALSE NEIGHBOUR: 'it returns false'. Refute it at one input. -/
def searchLessWrong : ChangeSpec := { name := "searchLess", fn := fun _ => fun
  | [d] => { results := [.lit (.bool false)], args := [d] }
  | _ => none }
def SearchLessWrongFalsely : Prop := searchLessRow.holds Try.pinned (OpenSpec.ofChange searchLessWrong)

/-- 'leakresponselaw34.SearchSteps': WHATEVER THE INPUT: true; the input reads as it did. -/
def searchStepsSpec : ChangeSpec := { name := "searchSteps", fn := fun _ => fun
  | [d] => { results := [.lit (.bool true)], args := [d] }
  | _ => none }
def searchStepsRow : OpenClaim := { program := "ytjfpmakolbgnhaa", sum := "2f7ce5167327bb07371aa71ce50be88cfc6430747ecac9c514eb0385edf6b3de", func := "leakresponse/leakresponselaw34.SearchSteps", spec := "searchSteps", unfollowed := true, recurses := true, plainKeys := false, apart := false }
def SearchStepsSaid : Prop := searchStepsRow.holds Try.pinned (OpenSpec.ofChange searchStepsSpec)

/-- ITS FALSE NEIGHBOUR: 'it returns false'. Refute it at one input. -/
def searchStepsWrong : ChangeSpec := { name := "searchSteps", fn := fun _ => fun
  | [d] => { results := [.lit (.bool false)], args := [d] }
  | _ => none }
def SearchStepsWrongFalsely : Prop := searchStepsRow.holds Try.pinned (OpenSpec.ofChange searchStepsWrong)

/-- 'leakresponselaw34.SearchEnds': WHATEVER THE INPUT: true; the input reads as it did. -/
def searchEndsSpec : ChangeSpec := { name := "searchEnds", fn := fun _ => fun
  | [d] => { results := [.lit (.bool true)], args := [d] }
  | _ => none }
def searchEndsRow : OpenClaim := { program := "ytjfpmakolbgnhaa", sum := "2f7ce5167327bb07371aa71ce50be88cfc6430747ecac9c514eb0385edf6b3de", func := "leakresponse/leakresponselaw34.SearchEnds", spec := "searchEnds", unfollowed := true, recurses := true, plainKeys := false, apart := false }
def SearchEndsSaid : Prop := searchEndsRow.holds Try.pinned (OpenSpec.ofChange searchEndsSpec)

/-- ITS FALSE NEIGHBOUR: 'it returns false'. Refute it at one input. -/
def searchEndsWrong : ChangeSpec := { name := "searchEnds", fn := fun _ => fun
  | [d] => { results := [.lit (.bool false)], args := [d] }
  | _ => none }
def SearchEndsWrongFalsely : Prop := searchEndsRow.holds Try.pinned (OpenSpec.ofChange searchEndsWrong)

/-- 'leakresponselaw34.SearchExact': WHATEVER THE INPUT: true; the input reads as it did. -/
def searchExactSpec : ChangeSpec := { name := "searchExact", fn := fun _ => fun
  | [d1, d2, d3] => { results := [.lit (.bool true)], args := [d1, d2, d3] }
  | _ => none }
def searchExactRow : OpenClaim := { program := "ytjfpmakolbgnhaa", sum := "2f7ce5167327bb07371aa71ce50be88cfc6430747ecac9c514eb0385edf6b3de", func := "leakresponse/leakresponselaw34.SearchExact", spec := "searchExact", unfollowed := true, recurses := true, plainKeys := false, apart := false }
def SearchExactSaid : Prop := searchExactRow.holds Try.pinned (OpenSpec.ofChange searchExactSpec)

/-- ITS FALSE NEIGHBOUR: 'it returns false'. Refute it at one input. -/
def searchExactWrong : ChangeSpec := { name := "searchExact", fn := fun _ => fun
  | [d1, d2, d3] => { results := [.lit (.bool false)], args := [d1, d2, d3] }
  | _ => none }
def SearchExactWrongFalsely : Prop := searchExactRow.holds Try.pinned (OpenSpec.ofChange searchExactWrong)

/-- 'leakresponselaw35.PlanHelps': WHATEVER THE INPUT: true; the input reads as it did. -/
def planHelpsSpec : ChangeSpec := { name := "planHelps", fn := fun _ => fun
  | [d] => { results := [.lit (.bool true)], args := [d] }
  | _ => none }
def planHelpsRow : OpenClaim := { program := "ytjfpmakolbgnhaa", sum := "2f7ce5167327bb07371aa71ce50be88cfc6430747ecac9c514eb0385edf6b3de", func := "leakresponse/leakresponselaw35.PlanHelps", spec := "planHelps", unfollowed := true, recurses := true, plainKeys := false, apart := false }
def PlanHelpsSaid : Prop := planHelpsRow.holds Try.pinned (OpenSpec.ofChange planHelpsSpec)

/-- ITS FALSE NEIGHBOUR: 'it returns false'. Refute it at one input. -/
def planHelpsWrong : ChangeSpec := { name := "planHelps", fn := fun _ => fun
  | [d] => { results := [.lit (.bool false)], args := [d] }
  | _ => none }
def PlanHelpsWrongFalsely : Prop := planHelpsRow.holds Try.pinned (OpenSpec.ofChange planHelpsWrong)

/- THE SECOND FORM. 'bulk': how many values and letters a reading holds, each counted each time it is reached (what is shared counts as often as it is met; a slice's spare places count too). A statement '..UptoSaid' is the law's where the arguments, and the package variables that the reading takes, are together of bulk at most 1048576: NARROWER than '..Said'. Prove '..Said' where nothing that the law and all that it calls make is longer than what came in: it says more and counts as full. Else prove '..UptoSaid'. A law counts once. -/
mutual
def uptoBulk {H : Type} : DataW H → Nat
  | .lit (.string bytes) => bytes.length + 1
  | .lit _ => 1
  | .nil => 1
  | .ptr d => uptoBulk d + 1
  | .slice elems spare => uptoBulkAll elems + uptoBulkAll spare + 1
  | .agg parts => uptoBulkAll parts + 1
  | .iface _ d => uptoBulk d + 1
  | .map entries => uptoBulkEntries entries + 1
  | .held _ => 1
def uptoBulkAll {H : Type} : List (DataW H) → Nat
  | [] => 0
  | d :: r => uptoBulk d + uptoBulkAll r
def uptoBulkEntries {H : Type} : List (Lit × DataW H) → Nat
  | [] => 0
  | x :: r => uptoBulkEntry x + uptoBulkEntries r
def uptoBulkEntry {H : Type} : Lit × DataW H → Nat
  | (.string bytes, d) => bytes.length + uptoBulk d + 1
  | (_, d) => uptoBulk d + 1
 end
def uptoSmall : (H : Type) → List (DataW H) → Bool := fun _ ds => decide (uptoBulkAll ds ≤ 1048576)
def OpenSpec.upto (s : _root_.Go.ChangeSpec) : _root_.Go.OpenSpec := { _root_.Go.OpenSpec.ofChange s with cond := some uptoSmall }

/-- 'leakresponselaw34.SearchLess', WHERE WHAT IT READS IS OF BULK AT MOST 1048576: true; the input reads as it did. -/
def searchLessUptoRow : OpenClaim := { program := "ytjfpmakolbgnhaa", sum := "2f7ce5167327bb07371aa71ce50be88cfc6430747ecac9c514eb0385edf6b3de", func := "leakresponse/leakresponselaw34.SearchLess", spec := "searchLess", unfollowed := true, recurses := true, plainKeys := false, apart := false, narrowed := true }
def SearchLessUptoSaid : Prop := searchLessUptoRow.holds Try.pinned (OpenSpec.upto searchLessSpec)

/-- 'leakresponselaw34.SearchSteps', WHERE WHAT IT READS IS OF BULK AT MOST 1048576: true; the input reads as it did. -/
def searchStepsUptoRow : OpenClaim := { program := "ytjfpmakolbgnhaa", sum := "2f7ce5167327bb07371aa71ce50be88cfc6430747ecac9c514eb0385edf6b3de", func := "leakresponse/leakresponselaw34.SearchSteps", spec := "searchSteps", unfollowed := true, recurses := true, plainKeys := false, apart := false, narrowed := true }
def SearchStepsUptoSaid : Prop := searchStepsUptoRow.holds Try.pinned (OpenSpec.upto searchStepsSpec)

/-- 'leakresponselaw34.SearchEnds', WHERE WHAT IT READS IS OF BULK AT MOST 1048576: true; the input reads as it did. -/
def searchEndsUptoRow : OpenClaim := { program := "ytjfpmakolbgnhaa", sum := "2f7ce5167327bb07371aa71ce50be88cfc6430747ecac9c514eb0385edf6b3de", func := "leakresponse/leakresponselaw34.SearchEnds", spec := "searchEnds", unfollowed := true, recurses := true, plainKeys := false, apart := false, narrowed := true }
def SearchEndsUptoSaid : Prop := searchEndsUptoRow.holds Try.pinned (OpenSpec.upto searchEndsSpec)

/-- 'leakresponselaw34.SearchExact', WHERE WHAT IT READS IS OF BULK AT MOST 1048576: true; the input reads as it did. -/
def searchExactUptoRow : OpenClaim := { program := "ytjfpmakolbgnhaa", sum := "2f7ce5167327bb07371aa71ce50be88cfc6430747ecac9c514eb0385edf6b3de", func := "leakresponse/leakresponselaw34.SearchExact", spec := "searchExact", unfollowed := true, recurses := true, plainKeys := false, apart := false, narrowed := true }
def SearchExactUptoSaid : Prop := searchExactUptoRow.holds Try.pinned (OpenSpec.upto searchExactSpec)

/-- 'leakresponselaw35.PlanHelps', WHERE WHAT IT READS IS OF BULK AT MOST 1048576: true; the input reads as it did. -/
def planHelpsUptoRow : OpenClaim := { program := "ytjfpmakolbgnhaa", sum := "2f7ce5167327bb07371aa71ce50be88cfc6430747ecac9c514eb0385edf6b3de", func := "leakresponse/leakresponselaw35.PlanHelps", spec := "planHelps", unfollowed := true, recurses := true, plainKeys := false, apart := false, narrowed := true }
def PlanHelpsUptoSaid : Prop := planHelpsUptoRow.holds Try.pinned (OpenSpec.upto planHelpsSpec)

end Rows
end Go.Proofs.Ytjfpmakolbgnhaa
