/-
  No cell of these rows narrows 'for every input' (looked for: loops, veiled, ifaces, maps, wideKeys, modest, calm, conditions, laid).
  DERIVED. THE GIVEN ROWS OF THIS SEAT. 13 by the template 'for every input the law returns true; each argument reads behind the call as it read before'; 0 by the template 'total and deterministic' (their statements: YtclmnpkhopioiabTotals.lean).
  GIVEN WITH THE SEED: the statements are not yours to turn. If you find one false, say at which input.
  Laid BY PROGRAM, IN A SANDBOX (cutbox-rows.mjs): the forced cells as the released guide's own fill.sh prints them over the translation 063dda486aea86c9… (all of the seat's roots in one cut). By AI agents, Wed Nov 11 2026. No macro, syntax, notation, axiom, sorry.
-/
import Derived.Test.YtclmnpkhopioiabChecked
import GoSem.Claim
import GoSem.ClaimJoined
import GoSem.ClaimMapViews
import Derived.JoinedTies
import Derived.KernelRfl
namespace Go.Proofs.Ytclmnpkhopioiab
/- THE CELL 'sum', in the pinned program and in every row, IS THE sha256 OF THE DUMP (.gsa) THAT YtclmnpkhopioiabProg.lean LOADS. Nothing in Lean hashes anything: it is a label: what it is worth is what the hold of that sum in a sandbox is worth. -/
noncomputable def Try.pinned : Pinned := { name := "ytclmnpkhopioiab", sum := "063dda486aea86c9a44ddd12d726813f554578448151bb780961dbf7ff96f020", checked := Try.checked }
namespace Rows
def none {H : Type} : Left H := { results := [], args := [] }

/-- 'leakresponselaw34.SearchLess': WHATEVER THE INPUT: true; the input reads as it did. -/
def searchLessSpec : ChangeSpec := { name := "searchLess", fn := fun _ => fun
  | [d] => { results := [.lit (.bool true)], args := [d] }
  | _ => none }
def searchLessRow : OpenClaim := { program := "ytclmnpkhopioiab", sum := "063dda486aea86c9a44ddd12d726813f554578448151bb780961dbf7ff96f020", func := "leakresponse/leakresponselaw34.SearchLess", spec := "searchLess", unfollowed := true, recurses := true, plainKeys := false, apart := false }
def SearchLessSaid : Prop := searchLessRow.holds Try.pinned (OpenSpec.ofChange searchLessSpec)

/-- ITS FALSE NEIGHBOUR: 'it returns false'. Refute it at one input. -/
def searchLessWrong : ChangeSpec := { name := "searchLess", fn := fun _ => fun
  | [d] => { results := [.lit (.bool false)], args := [d] }
  | _ => none }
def SearchLessWrongFalsely : Prop := searchLessRow.holds Try.pinned (OpenSpec.ofChange searchLessWrong)

/-- 'leakresponselaw34.SearchSteps': WHATEVER THE INPUT: true; the input reads as it did. -/
def searchStepsSpec : ChangeSpec := { name := "searchSteps", fn := fun _ => fun
  | [d] => { results := [.lit (.bool true)], args := [d] }
  | _ => none }
def searchStepsRow : OpenClaim := { program := "ytclmnpkhopioiab", sum := "063dda486aea86c9a44ddd12d726813f554578448151bb780961dbf7ff96f020", func := "leakresponse/leakresponselaw34.SearchSteps", spec := "searchSteps", unfollowed := true, recurses := true, plainKeys := false, apart := false }
def SearchStepsSaid : Prop := searchStepsRow.holds Try.pinned (OpenSpec.ofChange searchStepsSpec)

/-- ITS FALSE NEIGHBOUR: 'it returns false'. Refute it at one input. -/
def searchStepsWrong : ChangeSpec := { name := "searchSteps", fn := fun _ => fun
  | [d] => { results := [.lit (.bool false)], args := [d] }
  | _ => none }
def SearchStepsWrongFalsely : Prop := searchStepsRow.holds Try.pinned (OpenSpec.ofChange searchStepsWrong)

/-- 'leakresponselaw34.SearchEnds': WHATEVER THE INPUT: true; the input reads as it did. -/
def searchEndsSpec : ChangeSpec := { name := "searchEnds", fn := fun _ => fun
  | [d] => { results := [.lit (.bool true)], args := [d] }
  | _ => none }
def searchEndsRow : OpenClaim := { program := "ytclmnpkhopioiab", sum := "063dda486aea86c9a44ddd12d726813f554578448151bb780961dbf7ff96f020", func := "leakresponse/leakresponselaw34.SearchEnds", spec := "searchEnds", unfollowed := true, recurses := true, plainKeys := false, apart := false }
def SearchEndsSaid : Prop := searchEndsRow.holds Try.pinned (OpenSpec.ofChange searchEndsSpec)

/-- ITS FALSE NEIGHBOUR: 'it returns false'. Refute it at one input. -/
def searchEndsWrong : ChangeSpec := { name := "searchEnds", fn := fun _ => fun
  | [d] => { results := [.lit (.bool false)], args := [d] }
  | _ => none }
def SearchEndsWrongFalsely : Prop := searchEndsRow.holds Try.pinned (OpenSpec.ofChange searchEndsWrong)

/-- 'leakresponselaw34.SearchExact': WHATEVER THE INPUT: true; the input reads as it did. -/
def searchExactSpec : ChangeSpec := { name := "searchExact", fn := fun _ => fun
  | [d1, d2, d3] => { results := [.lit (.bool true)], args := [d1, d2, d3] }
  | _ => none }
def searchExactRow : OpenClaim := { program := "ytclmnpkhopioiab", sum := "063dda486aea86c9a44ddd12d726813f554578448151bb780961dbf7ff96f020", func := "leakresponse/leakresponselaw34.SearchExact", spec := "searchExact", unfollowed := true, recurses := true, plainKeys := false, apart := false }
def SearchExactSaid : Prop := searchExactRow.holds Try.pinned (OpenSpec.ofChange searchExactSpec)

/-- ITS FALSE NEIGHBOUR: 'it returns false'. Refute it at one input. -/
def searchExactWrong : ChangeSpec := { name := "searchExact", fn := fun _ => fun
  | [d1, d2, d3] => { results := [.lit (.bool false)], args := [d1, d2, d3] }
  | _ => none }
def SearchExactWrongFalsely : Prop := searchExactRow.holds Try.pinned (OpenSpec.ofChange searchExactWrong)

/-- 'leakresponselaw39.FallbackExact': WHATEVER THE INPUT: true; the input reads as it did. -/
def fallbackExactSpec : ChangeSpec := { name := "fallbackExact", fn := fun _ => fun
  | [d1, d2, d3, d4] => { results := [.lit (.bool true)], args := [d1, d2, d3, d4] }
  | _ => none }
def fallbackExactRow : OpenClaim := { program := "ytclmnpkhopioiab", sum := "063dda486aea86c9a44ddd12d726813f554578448151bb780961dbf7ff96f020", func := "leakresponse/leakresponselaw39.FallbackExact", spec := "fallbackExact", unfollowed := true, recurses := true, plainKeys := false, apart := false }
def FallbackExactSaid : Prop := fallbackExactRow.holds Try.pinned (OpenSpec.ofChange fallbackExactSpec)

/-- ITS FALSE NEIGHBOUR: 'it returns false'. Refute it at one input. -/
def fallbackExactWrong : ChangeSpec := { name := "fallbackExact", fn := fun _ => fun
  | [d1, d2, d3, d4] => { results := [.lit (.bool false)], args := [d1, d2, d3, d4] }
  | _ => none }
def FallbackExactWrongFalsely : Prop := fallbackExactRow.holds Try.pinned (OpenSpec.ofChange fallbackExactWrong)

/-- 'leakresponselaw39.FallbackGoes': WHATEVER THE INPUT: true; the input reads as it did. -/
def fallbackGoesSpec : ChangeSpec := { name := "fallbackGoes", fn := fun _ => fun
  | [d] => { results := [.lit (.bool true)], args := [d] }
  | _ => none }
def fallbackGoesRow : OpenClaim := { program := "ytclmnpkhopioiab", sum := "063dda486aea86c9a44ddd12d726813f554578448151bb780961dbf7ff96f020", func := "leakresponse/leakresponselaw39.FallbackGoes", spec := "fallbackGoes", unfollowed := true, recurses := true, plainKeys := false, apart := false }
def FallbackGoesSaid : Prop := fallbackGoesRow.holds Try.pinned (OpenSpec.ofChange fallbackGoesSpec)

/-- ITS FALSE NEIGHBOUR: 'it returns false'. Refute it at one input. -/
def fallbackGoesWrong : ChangeSpec := { name := "fallbackGoes", fn := fun _ => fun
  | [d] => { results := [.lit (.bool false)], args := [d] }
  | _ => none }
def FallbackGoesWrongFalsely : Prop := fallbackGoesRow.holds Try.pinned (OpenSpec.ofChange fallbackGoesWrong)

/-- 'leakresponselaw39.FallbackNever': WHATEVER THE INPUT: true; the input reads as it did. -/
def fallbackNeverSpec : ChangeSpec := { name := "fallbackNever", fn := fun _ => fun
  | [d] => { results := [.lit (.bool true)], args := [d] }
  | _ => none }
def fallbackNeverRow : OpenClaim := { program := "ytclmnpkhopioiab", sum := "063dda486aea86c9a44ddd12d726813f554578448151bb780961dbf7ff96f020", func := "leakresponse/leakresponselaw39.FallbackNever", spec := "fallbackNever", unfollowed := true, recurses := true, plainKeys := false, apart := false }
def FallbackNeverSaid : Prop := fallbackNeverRow.holds Try.pinned (OpenSpec.ofChange fallbackNeverSpec)

/-- ITS FALSE NEIGHBOUR: 'it returns false'. Refute it at one input. -/
def fallbackNeverWrong : ChangeSpec := { name := "fallbackNever", fn := fun _ => fun
  | [d] => { results := [.lit (.bool false)], args := [d] }
  | _ => none }
def FallbackNeverWrongFalsely : Prop := fallbackNeverRow.holds Try.pinned (OpenSpec.ofChange fallbackNeverWrong)

/-- 'leakresponselaw39.FallbackEnds': WHATEVER THE INPUT: true; the input reads as it did. -/
def fallbackEndsSpec : ChangeSpec := { name := "fallbackEnds", fn := fun _ => fun
  | [d] => { results := [.lit (.bool true)], args := [d] }
  | _ => none }
def fallbackEndsRow : OpenClaim := { program := "ytclmnpkhopioiab", sum := "063dda486aea86c9a44ddd12d726813f554578448151bb780961dbf7ff96f020", func := "leakresponse/leakresponselaw39.FallbackEnds", spec := "fallbackEnds", unfollowed := true, recurses := true, plainKeys := false, apart := false }
def FallbackEndsSaid : Prop := fallbackEndsRow.holds Try.pinned (OpenSpec.ofChange fallbackEndsSpec)

/-- ITS FALSE NEIGHBOUR: 'it returns false'. Refute it at one input. -/
def fallbackEndsWrong : ChangeSpec := { name := "fallbackEnds", fn := fun _ => fun
  | [d] => { results := [.lit (.bool false)], args := [d] }
  | _ => none }
def FallbackEndsWrongFalsely : Prop := fallbackEndsRow.holds Try.pinned (OpenSpec.ofChange fallbackEndsWrong)

/-- 'leakresponselaw35.PlanWhenever': WHATEVER THE INPUT: true; the input reads as it did. -/
def planWheneverSpec : ChangeSpec := { name := "planWhenever", fn := fun _ => fun
  | [d] => { results := [.lit (.bool true)], args := [d] }
  | _ => none }
def planWheneverRow : OpenClaim := { program := "ytclmnpkhopioiab", sum := "063dda486aea86c9a44ddd12d726813f554578448151bb780961dbf7ff96f020", func := "leakresponse/leakresponselaw35.PlanWhenever", spec := "planWhenever", unfollowed := true, recurses := true, plainKeys := false, apart := false }
def PlanWheneverSaid : Prop := planWheneverRow.holds Try.pinned (OpenSpec.ofChange planWheneverSpec)

/-- ITS FALSE NEIGHBOUR: 'it returns false'. Refute it at one input. -/
def planWheneverWrong : ChangeSpec := { name := "planWhenever", fn := fun _ => fun
  | [d] => { results := [.lit (.bool false)], args := [d] }
  | _ => none }
def PlanWheneverWrongFalsely : Prop := planWheneverRow.holds Try.pinned (OpenSpec.ofChange planWheneverWrong)

/-- 'leakresponselaw35.PlanHelps': WHATEVER THE INPUT: true; the input reads as it did. -/
def planHelpsSpec : ChangeSpec := { name := "planHelps", fn := fun _ => fun
  | [d] => { results := [.lit (.bool true)], args := [d] }
  | _ => none }
def planHelpsRow : OpenClaim := { program := "ytclmnpkhopioiab", sum := "063dda486aea86c9a44ddd12d726813f554578448151bb780961dbf7ff96f020", func := "leakresponse/leakresponselaw35.PlanHelps", spec := "planHelps", unfollowed := true, recurses := true, plainKeys := false, apart := false }
def PlanHelpsSaid : Prop := planHelpsRow.holds Try.pinned (OpenSpec.ofChange planHelpsSpec)

/-- ITS FALSE NEIGHBOUR: 'it returns false'. Refute it at one input. -/
def planHelpsWrong : ChangeSpec := { name := "planHelps", fn := fun _ => fun
  | [d] => { results := [.lit (.bool false)], args := [d] }
  | _ => none }
def PlanHelpsWrongFalsely : Prop := planHelpsRow.holds Try.pinned (OpenSpec.ofChange planHelpsWrong)

/-- 'leakresponselaw35.PlanPools': WHATEVER THE INPUT: true; the input reads as it did. -/
def planPoolsSpec : ChangeSpec := { name := "planPools", fn := fun _ => fun
  | [d] => { results := [.lit (.bool true)], args := [d] }
  | _ => none }
def planPoolsRow : OpenClaim := { program := "ytclmnpkhopioiab", sum := "063dda486aea86c9a44ddd12d726813f554578448151bb780961dbf7ff96f020", func := "leakresponse/leakresponselaw35.PlanPools", spec := "planPools", unfollowed := true, recurses := true, plainKeys := false, apart := false }
def PlanPoolsSaid : Prop := planPoolsRow.holds Try.pinned (OpenSpec.ofChange planPoolsSpec)

/-- ITS FALSE NEIGHBOUR: 'it returns false'. Refute it at one input. -/
def planPoolsWrong : ChangeSpec := { name := "planPools", fn := fun _ => fun
  | [d] => { results := [.lit (.bool false)], args := [d] }
  | _ => none }
def PlanPoolsWrongFalsely : Prop := planPoolsRow.holds Try.pinned (OpenSpec.ofChange planPoolsWrong)

/-- 'leakresponselaw35.PlanExact': WHATEVER THE INPUT: true; the input reads as it did. -/
def planExactSpec : ChangeSpec := { name := "planExact", fn := fun _ => fun
  | [d1, d2, d3, d4, d5] => { results := [.lit (.bool true)], args := [d1, d2, d3, d4, d5] }
  | _ => none }
def planExactRow : OpenClaim := { program := "ytclmnpkhopioiab", sum := "063dda486aea86c9a44ddd12d726813f554578448151bb780961dbf7ff96f020", func := "leakresponse/leakresponselaw35.PlanExact", spec := "planExact", unfollowed := true, recurses := true, plainKeys := false, apart := false }
def PlanExactSaid : Prop := planExactRow.holds Try.pinned (OpenSpec.ofChange planExactSpec)

/-- ITS FALSE NEIGHBOUR: 'it returns false'. Refute it at one input. -/
def planExactWrong : ChangeSpec := { name := "planExact", fn := fun _ => fun
  | [d1, d2, d3, d4, d5] => { results := [.lit (.bool false)], args := [d1, d2, d3, d4, d5] }
  | _ => none }
def PlanExactWrongFalsely : Prop := planExactRow.holds Try.pinned (OpenSpec.ofChange planExactWrong)

/-- 'leakresponselaw35.PlanServes': WHATEVER THE INPUT: true; the input reads as it did. -/
def planServesSpec : ChangeSpec := { name := "planServes", fn := fun _ => fun
  | [d] => { results := [.lit (.bool true)], args := [d] }
  | _ => none }
def planServesRow : OpenClaim := { program := "ytclmnpkhopioiab", sum := "063dda486aea86c9a44ddd12d726813f554578448151bb780961dbf7ff96f020", func := "leakresponse/leakresponselaw35.PlanServes", spec := "planServes", unfollowed := true, recurses := true, plainKeys := false, apart := false }
def PlanServesSaid : Prop := planServesRow.holds Try.pinned (OpenSpec.ofChange planServesSpec)

/-- ITS FALSE NEIGHBOUR: 'it returns false'. Refute it at one input. -/
def planServesWrong : ChangeSpec := { name := "planServes", fn := fun _ => fun
  | [d] => { results := [.lit (.bool false)], args := [d] }
  | _ => none }
def PlanServesWrongFalsely : Prop := planServesRow.holds Try.pinned (OpenSpec.ofChange planServesWrong)

/- THE SECOND FORM. 'bulk': how many values and letters a reading holds, each counted each time it is reached (what is shared counts as often as it is met; a slice's spare places count too). A statement '..UptoSaid' is the law's where the arguments, and the package variables that the reading takes, are together of bulk at most 1048576: NARROWER than '..Said'. Prove '..Said' where nothing that the law and all that it calls make is longer than what came in: it says more and counts as full. Else prove '..UptoSaid'. A law counts once. -/
mutual
def uptoBulk {H : Type} : DataW H → Nat
  | .lit (.string bytes) => bytes.length + 1
  | .lit _ => 1
  | .nil => 1
  | .ptr d => uptoBulk d + 1
  | .slice elems spare => uptoBulkAll elems + uptoBulkAll spare + 1
  | .agg parts => uptoBulkAll parts + 1
  | .iface _ d => uptoBulk d + 1
  | .map entries => uptoBulkEntries entries + 1
  | .held _ => 1
def uptoBulkAll {H : Type} : List (DataW H) → Nat
  | [] => 0
  | d :: r => uptoBulk d + uptoBulkAll r
def uptoBulkEntries {H : Type} : List (Lit × DataW H) → Nat
  | [] => 0
  | x :: r => uptoBulkEntry x + uptoBulkEntries r
def uptoBulkEntry {H : Type} : Lit × DataW H → Nat
  | (.string bytes, d) => bytes.length + uptoBulk d + 1
  | (_, d) => uptoBulk d + 1
 end
def uptoSmall : (H : Type) → List (DataW H) → Bool := fun _ ds => decide (uptoBulkAll ds ≤ 1048576)
def OpenSpec.upto (s : _root_.Go.ChangeSpec) : _root_.Go.OpenSpec := { _root_.Go.OpenSpec.ofChange s with cond := some uptoSmall }

/-- 'leakresponselaw34.SearchLess', WHERE WHAT IT READS IS OF BULK AT MOST 1048576: true; the input reads as it did. -/
def searchLessUptoRow : OpenClaim := { program := "ytclmnpkhopioiab", sum := "063dda486aea86c9a44ddd12d726813f554578448151bb780961dbf7ff96f020", func := "leakresponse/leakresponselaw34.SearchLess", spec := "searchLess", unfollowed := true, recurses := true, plainKeys := false, apart := false, narrowed := true }
def SearchLessUptoSaid : Prop := searchLessUptoRow.holds Try.pinned (OpenSpec.upto searchLessSpec)

/-- 'leakresponselaw34.SearchSteps', WHERE WHAT IT READS IS OF BULK AT MOST 1048576: true; the input reads as it did. -/
def searchStepsUptoRow : OpenClaim := { program := "ytclmnpkhopioiab", sum := "063dda486aea86c9a44ddd12d726813f554578448151bb780961dbf7ff96f020", func := "leakresponse/leakresponselaw34.SearchSteps", spec := "searchSteps", unfollowed := true, recurses := true, plainKeys := false, apart := false, narrowed := true }
def SearchStepsUptoSaid : Prop := searchStepsUptoRow.holds Try.pinned (OpenSpec.upto searchStepsSpec)

/-- 'leakresponselaw34.SearchEnds', WHERE WHAT IT READS IS OF BULK AT MOST 1048576: true; the input reads as it did. -/
def searchEndsUptoRow : OpenClaim := { program := "ytclmnpkhopioiab", sum := "063dda486aea86c9a44ddd12d726813f554578448151bb780961dbf7ff96f020", func := "leakresponse/leakresponselaw34.SearchEnds", spec := "searchEnds", unfollowed := true, recurses := true, plainKeys := false, apart := false, narrowed := true }
def SearchEndsUptoSaid : Prop := searchEndsUptoRow.holds Try.pinned (OpenSpec.upto searchEndsSpec)

/-- 'leakresponselaw34.SearchExact', WHERE WHAT IT READS IS OF BULK AT MOST 1048576: true; the input reads as it did. -/
def searchExactUptoRow : OpenClaim := { program := "ytclmnpkhopioiab", sum := "063dda486aea86c9a44ddd12d726813f554578448151bb780961dbf7ff96f020", func := "leakresponse/leakresponselaw34.SearchExact", spec := "searchExact", unfollowed := true, recurses := true, plainKeys := false, apart := false, narrowed := true }
def SearchExactUptoSaid : Prop := searchExactUptoRow.holds Try.pinned (OpenSpec.upto searchExactSpec)

/-- 'leakresponselaw39.FallbackExact', WHERE WHAT IT READS IS OF BULK AT MOST 1048576: true; the input reads as it did. -/
def fallbackExactUptoRow : OpenClaim := { program := "ytclmnpkhopioiab", sum := "063dda486aea86c9a44ddd12d726813f554578448151bb780961dbf7ff96f020", func := "leakresponse/leakresponselaw39.FallbackExact", spec := "fallbackExact", unfollowed := true, recurses := true, plainKeys := false, apart := false, narrowed := true }
def FallbackExactUptoSaid : Prop := fallbackExactUptoRow.holds Try.pinned (OpenSpec.upto fallbackExactSpec)

/-- 'leakresponselaw39.FallbackGoes', WHERE WHAT IT READS IS OF BULK AT MOST 1048576: true; the input reads as it did. -/
def fallbackGoesUptoRow : OpenClaim := { program := "ytclmnpkhopioiab", sum := "063dda486aea86c9a44ddd12d726813f554578448151bb780961dbf7ff96f020", func := "leakresponse/leakresponselaw39.FallbackGoes", spec := "fallbackGoes", unfollowed := true, recurses := true, plainKeys := false, apart := false, narrowed := true }
def FallbackGoesUptoSaid : Prop := fallbackGoesUptoRow.holds Try.pinned (OpenSpec.upto fallbackGoesSpec)

/-- 'leakresponselaw39.FallbackNever', WHERE WHAT IT READS IS OF BULK AT MOST 1048576: true; the input reads as it did. -/
def fallbackNeverUptoRow : OpenClaim := { program := "ytclmnpkhopioiab", sum := "063dda486aea86c9a44ddd12d726813f554578448151bb780961dbf7ff96f020", func := "leakresponse/leakresponselaw39.FallbackNever", spec := "fallbackNever", unfollowed := true, recurses := true, plainKeys := false, apart := false, narrowed := true }
def FallbackNeverUptoSaid : Prop := fallbackNeverUptoRow.holds Try.pinned (OpenSpec.upto fallbackNeverSpec)

/-- 'leakresponselaw39.FallbackEnds', WHERE WHAT IT READS IS OF BULK AT MOST 1048576: true; the input reads as it did. -/
def fallbackEndsUptoRow : OpenClaim := { program := "ytclmnpkhopioiab", sum := "063dda486aea86c9a44ddd12d726813f554578448151bb780961dbf7ff96f020", func := "leakresponse/leakresponselaw39.FallbackEnds", spec := "fallbackEnds", unfollowed := true, recurses := true, plainKeys := false, apart := false, narrowed := true }
def FallbackEndsUptoSaid : Prop := fallbackEndsUptoRow.holds Try.pinned (OpenSpec.upto fallbackEndsSpec)

/-- 'leakresponselaw35.PlanWhenever', WHERE WHAT IT READS IS OF BULK AT MOST 1048576: true; the input reads as it did. -/
def planWheneverUptoRow : OpenClaim := { program := "ytclmnpkhopioiab", sum := "063dda486aea86c9a44ddd12d726813f554578448151bb780961dbf7ff96f020", func := "leakresponse/leakresponselaw35.PlanWhenever", spec := "planWhenever", unfollowed := true, recurses := true, plainKeys := false, apart := false, narrowed := true }
def PlanWheneverUptoSaid : Prop := planWheneverUptoRow.holds Try.pinned (OpenSpec.upto planWheneverSpec)

/-- 'leakresponselaw35.PlanHelps', WHERE WHAT IT READS IS OF BULK AT MOST 1048576: true; the input reads as it did. -/
def planHelpsUptoRow : OpenClaim := { program := "ytclmnpkhopioiab", sum := "063dda486aea86c9a44ddd12d726813f554578448151bb780961dbf7ff96f020", func := "leakresponse/leakresponselaw35.PlanHelps", spec := "planHelps", unfollowed := true, recurses := true, plainKeys := false, apart := false, narrowed := true }
def PlanHelpsUptoSaid : Prop := planHelpsUptoRow.holds Try.pinned (OpenSpec.upto planHelpsSpec)

/-- 'leakresponselaw35.PlanPools', WHERE WHAT IT READS IS OF BULK AT MOST 1048576: true; the input reads as it did. -/
def planPoolsUptoRow : OpenClaim := { program := "ytclmnpkhopioiab", sum := "063dda486aea86c9a44ddd12d726813f554578448151bb780961dbf7ff96f020", func := "leakresponse/leakresponselaw35.PlanPools", spec := "planPools", unfollowed := true, recurses := true, plainKeys := false, apart := false, narrowed := true }
def PlanPoolsUptoSaid : Prop := planPoolsUptoRow.holds Try.pinned (OpenSpec.upto planPoolsSpec)

/-- 'leakresponselaw35.PlanExact', WHERE WHAT IT READS IS OF BULK AT MOST 1048576: true; the input reads as it did. -/
def planExactUptoRow : OpenClaim := { program := "ytclmnpkhopioiab", sum := "063dda486aea86c9a44ddd12d726813f554578448151bb780961dbf7ff96f020", func := "leakresponse/leakresponselaw35.PlanExact", spec := "planExact", unfollowed := true, recurses := true, plainKeys := false, apart := false, narrowed := true }
def PlanExactUptoSaid : Prop := planExactUptoRow.holds Try.pinned (OpenSpec.upto planExactSpec)

/-- 'leakresponselaw35.PlanServes', WHERE WHAT IT READS IS OF BULK AT MOST 1048576: true; the input reads as it did. -/
def planServesUptoRow : OpenClaim := { program := "ytclmnpkhopioiab", sum := "063dda486aea86c9a44ddd12d726813f554578448151bb780961dbf7ff96f020", func := "leakresponse/leakresponselaw35.PlanServes", spec := "planServes", unfollowed := true, recurses := true, plainKeys := false, apart := false, narrowed := true }
def PlanServesUptoSaid : Prop := planServesUptoRow.holds Try.pinned (OpenSpec.upto planServesSpec)

end Rows
end Go.Proofs.Ytclmnpkhopioiab
