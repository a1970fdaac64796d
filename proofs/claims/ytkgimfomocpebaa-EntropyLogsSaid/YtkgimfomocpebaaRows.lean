/-
  No cell of these rows narrows 'for every input' (looked for: loops, veiled, ifaces, maps, wideKeys, modest, calm, conditions, laid).
  DERIVED. THE GIVEN ROWS OF THIS SEAT. 5 by the template 'for every input the law returns true; each argument reads behind the call as it read before'; 0 by the template 'total and deterministic' (their statements: YtkgimfomocpebaaTotals.lean).
  GIVEN WITH THE SEED: the statements are not yours to turn. If you find one false, say at which input.
  Laid BY PROGRAM, IN A SANDBOX (cutbox-rows.mjs): the forced cells as the released guide's own fill.sh prints them over the translation 4510eff5673c090b… (all of the seat's roots in one cut). By AI agents, Wed Nov 11 2026. No macro, syntax, notation, axiom, sorry.
-/
import Derived.Test.YtkgimfomocpebaaChecked
import GoSem.Claim
import GoSem.ClaimJoined
import GoSem.ClaimMapViews
import Derived.JoinedTies
import Derived.KernelRfl
namespace Go.Proofs.Ytkgimfomocpebaa
/- THE CELL 'sum', in the pinned program and in every row, IS THE sha256 OF THE DUMP (.gsa) THAT YtkgimfomocpebaaProg.lean LOADS. Nothing in Lean hashes anything: it is a label: what it is worth is what the hold of that sum in a sandbox is worth. -/
noncomputable def Try.pinned : Pinned := { name := "ytkgimfomocpebaa", sum := "4510eff5673c090b5636f4430e07d7a2491178df97cec1a9c5ea8e5b55d91c3b", checked := Try.checked }
namespace Rows
def none {H : Type} : Left H := { results := [], args := [] }

/-- 'leakresponselaw42.LedgerPast': WHATEVER THE INPUT: true; the input reads as it did. -/
def ledgerPastSpec : ChangeSpec := { name := "ledgerPast", fn := fun _ => fun
  | [d] => { results := [.lit (.bool true)], args := [d] }
  | _ => none }
def ledgerPastRow : OpenClaim := { program := "ytkgimfomocpebaa", sum := "4510eff5673c090b5636f4430e07d7a2491178df97cec1a9c5ea8e5b55d91c3b", func := "leakresponse/leakresponselaw42.LedgerPast", spec := "ledgerPast", apart := false }
def LedgerPastSaid : Prop := ledgerPastRow.holds Try.pinned (OpenSpec.ofChange ledgerPastSpec)

/-- ITS FALSE NEIGHBOUR: 'it returns false'. Refute it at one input. -/
def ledgerPastWrong : ChangeSpec := { name := "ledgerPast", fn := fun _ => fun
  | [d] => { results := [.lit (.bool false)], args := [d] }
  | _ => none }
def LedgerPastWrongFalsely : Prop := ledgerPastRow.holds Try.pinned (OpenSpec.ofChange ledgerPastWrong)

/-- 'leakresponselaw42.LedgerApart': WHATEVER THE INPUT: true; the input reads as it did. -/
def ledgerApartSpec : ChangeSpec := { name := "ledgerApart", fn := fun _ => fun
  | [d] => { results := [.lit (.bool true)], args := [d] }
  | _ => none }
def ledgerApartRow : OpenClaim := { program := "ytkgimfomocpebaa", sum := "4510eff5673c090b5636f4430e07d7a2491178df97cec1a9c5ea8e5b55d91c3b", func := "leakresponse/leakresponselaw42.LedgerApart", spec := "ledgerApart", apart := false }
def LedgerApartSaid : Prop := ledgerApartRow.holds Try.pinned (OpenSpec.ofChange ledgerApartSpec)

/-- ITS FALSE NEIGHBOUR: 'it returns false'. Refute it at one input. -/
def ledgerApartWrong : ChangeSpec := { name := "ledgerApart", fn := fun _ => fun
  | [d] => { results := [.lit (.bool false)], args := [d] }
  | _ => none }
def LedgerApartWrongFalsely : Prop := ledgerApartRow.holds Try.pinned (OpenSpec.ofChange ledgerApartWrong)

/-- 'leakresponselaw42.LedgerLearns': WHATEVER THE INPUT: true; the input reads as it did. -/
def ledgerLearnsSpec : ChangeSpec := { name := "ledgerLearns", fn := fun _ => fun
  | [d] => { results := [.lit (.bool true)], args := [d] }
  | _ => none }
def ledgerLearnsRow : OpenClaim := { program := "ytkgimfomocpebaa", sum := "4510eff5673c090b5636f4430e07d7a2491178df97cec1a9c5ea8e5b55d91c3b", func := "leakresponse/leakresponselaw42.LedgerLearns", spec := "ledgerLearns", apart := false }
def LedgerLearnsSaid : Prop := ledgerLearnsRow.holds Try.pinned (OpenSpec.ofChange ledgerLearnsSpec)

/-- ITS FALSE NEIGHBOUR: 'it returns false'. Refute it at one input. -/
def ledgerLearnsWrong : ChangeSpec := { name := "ledgerLearns", fn := fun _ => fun
  | [d] => { results := [.lit (.bool false)], args := [d] }
  | _ => none }
def LedgerLearnsWrongFalsely : Prop := ledgerLearnsRow.holds Try.pinned (OpenSpec.ofChange ledgerLearnsWrong)

/-- 'leakresponselaw02.EntropyLogs': WHATEVER THE INPUT: true; the input reads as it did. -/
def entropyLogsSpec : ChangeSpec := { name := "entropyLogs", fn := fun _ => fun
  | [d] => { results := [.lit (.bool true)], args := [d] }
  | _ => none }
def entropyLogsRow : OpenClaim := { program := "ytkgimfomocpebaa", sum := "4510eff5673c090b5636f4430e07d7a2491178df97cec1a9c5ea8e5b55d91c3b", func := "leakresponse/leakresponselaw02.EntropyLogs", spec := "entropyLogs", apart := false }
def EntropyLogsSaid : Prop := entropyLogsRow.holds Try.pinned (OpenSpec.ofChange entropyLogsSpec)

/-- ITS FALSE NEIGHBOUR: 'it returns false'. Refute it at one input. -/
def entropyLogsWrong : ChangeSpec := { name := "entropyLogs", fn := fun _ => fun
  | [d] => { results := [.lit (.bool false)], args := [d] }
  | _ => none }
def EntropyLogsWrongFalsely : Prop := entropyLogsRow.holds Try.pinned (OpenSpec.ofChange entropyLogsWrong)

/-- 'leakresponselaw02.EntropyGrows': WHATEVER THE INPUT: true; the input reads as it did. -/
def entropyGrowsSpec : ChangeSpec := { name := "entropyGrows", fn := fun _ => fun
  | [d1, d2] => { results := [.lit (.bool true)], args := [d1, d2] }
  | _ => none }
def entropyGrowsRow : OpenClaim := { program := "ytkgimfomocpebaa", sum := "4510eff5673c090b5636f4430e07d7a2491178df97cec1a9c5ea8e5b55d91c3b", func := "leakresponse/leakresponselaw02.EntropyGrows", spec := "entropyGrows", apart := false }
def EntropyGrowsSaid : Prop := entropyGrowsRow.holds Try.pinned (OpenSpec.ofChange entropyGrowsSpec)

/-- ITS FALSE NEIGHBOUR: 'it returns false'. Refute it at one input. -/
def entropyGrowsWrong : ChangeSpec := { name := "entropyGrows", fn := fun _ => fun
  | [d1, d2] => { results := [.lit (.bool false)], args := [d1, d2] }
  | _ => none }
def EntropyGrowsWrongFalsely : Prop := entropyGrowsRow.holds Try.pinned (OpenSpec.ofChange entropyGrowsWrong)

/- THE SECOND FORM. 'bulk': how many values and letters a reading holds, each counted each time it is reached (what is shared counts as often as it is met; a slice's spare places count too). A statement '..UptoSaid' is the law's where the arguments, and the package variables that the reading takes, are together of bulk at most 1048576: NARROWER than '..Said'. Prove '..Said' where nothing that the law and all that it calls make is longer than what came in: it says more and counts as full. Else prove '..UptoSaid'. A law counts once. -/
mutual
def uptoBulk {H : Type} : DataW H → Nat
  | .lit (.string bytes) => bytes.length + 1
  | .lit _ => 1
  | .nil => 1
  | .ptr d => uptoBulk d + 1
  | .slice elems spare => uptoBulkAll elems + uptoBulkAll spare + 1
  | .agg parts => uptoBulkAll parts + 1
  | .iface _ d => uptoBulk d + 1
  | .map entries => uptoBulkEntries entries + 1
  | .held _ => 1
def uptoBulkAll {H : Type} : List (DataW H) → Nat
  | [] => 0
  | d :: r => uptoBulk d + uptoBulkAll r
def uptoBulkEntries {H : Type} : List (Lit × DataW H) → Nat
  | [] => 0
  | x :: r => uptoBulkEntry x + uptoBulkEntries r
def uptoBulkEntry {H : Type} : Lit × DataW H → Nat
  | (.string bytes, d) => bytes.length + uptoBulk d + 1
  | (_, d) => uptoBulk d + 1
 end
def uptoSmall : (H : Type) → List (DataW H) → Bool := fun _ ds => decide (uptoBulkAll ds ≤ 1048576)
def OpenSpec.upto (s : _root_.Go.ChangeSpec) : _root_.Go.OpenSpec := { _root_.Go.OpenSpec.ofChange s with cond := some uptoSmall }

/-- 'leakresponselaw42.LedgerPast', WHERE WHAT IT READS IS OF BULK AT MOST 1048576: true; the input reads as it did. -/
def ledgerPastUptoRow : OpenClaim := { program := "ytkgimfomocpebaa", sum := "4510eff5673c090b5636f4430e07d7a2491178df97cec1a9c5ea8e5b55d91c3b", func := "leakresponse/leakresponselaw42.LedgerPast", spec := "ledgerPast", apart := false, narrowed := true }
def LedgerPastUptoSaid : Prop := ledgerPastUptoRow.holds Try.pinned (OpenSpec.upto ledgerPastSpec)

/-- 'leakresponselaw42.LedgerApart', WHERE WHAT IT READS IS OF BULK AT MOST 1048576: true; the input reads as it did. -/
def ledgerApartUptoRow : OpenClaim := { program := "ytkgimfomocpebaa", sum := "4510eff5673c090b5636f4430e07d7a2491178df97cec1a9c5ea8e5b55d91c3b", func := "leakresponse/leakresponselaw42.LedgerApart", spec := "ledgerApart", apart := false, narrowed := true }
def LedgerApartUptoSaid : Prop := ledgerApartUptoRow.holds Try.pinned (OpenSpec.upto ledgerApartSpec)

/-- 'leakresponselaw42.LedgerLearns', WHERE WHAT IT READS IS OF BULK AT MOST 1048576: true; the input reads as it did. -/
def ledgerLearnsUptoRow : OpenClaim := { program := "ytkgimfomocpebaa", sum := "4510eff5673c090b5636f4430e07d7a2491178df97cec1a9c5ea8e5b55d91c3b", func := "leakresponse/leakresponselaw42.LedgerLearns", spec := "ledgerLearns", apart := false, narrowed := true }
def LedgerLearnsUptoSaid : Prop := ledgerLearnsUptoRow.holds Try.pinned (OpenSpec.upto ledgerLearnsSpec)

/-- 'leakresponselaw02.EntropyLogs', WHERE WHAT IT READS IS OF BULK AT MOST 1048576: true; the input reads as it did. -/
def entropyLogsUptoRow : OpenClaim := { program := "ytkgimfomocpebaa", sum := "4510eff5673c090b5636f4430e07d7a2491178df97cec1a9c5ea8e5b55d91c3b", func := "leakresponse/leakresponselaw02.EntropyLogs", spec := "entropyLogs", apart := false, narrowed := true }
def EntropyLogsUptoSaid : Prop := entropyLogsUptoRow.holds Try.pinned (OpenSpec.upto entropyLogsSpec)

/-- 'leakresponselaw02.EntropyGrows', WHERE WHAT IT READS IS OF BULK AT MOST 1048576: true; the input reads as it did. -/
def entropyGrowsUptoRow : OpenClaim := { program := "ytkgimfomocpebaa", sum := "4510eff5673c090b5636f4430e07d7a2491178df97cec1a9c5ea8e5b55d91c3b", func := "leakresponse/leakresponselaw02.EntropyGrows", spec := "entropyGrows", apart := false, narrowed := true }
def EntropyGrowsUptoSaid : Prop := entropyGrowsUptoRow.holds Try.pinned (OpenSpec.upto entropyGrowsSpec)

end Rows
end Go.Proofs.Ytkgimfomocpebaa
