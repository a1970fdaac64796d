/-
  No cell of these rows narrows 'for every input' (looked for: loops, veiled, ifaces, maps, wideKeys, modest, calm, conditions, laid).
  DERIVED. THE GIVEN ROWS OF THIS SEAT. 5 by the template 'for every input the law returns true; each argument reads behind the call as it read before'; 0 by the template 'total and deterministic' (their statements: YtjnflahicimmlaaTotals.lean).
  GIVEN WITH THE SEED: the statements are not yours to turn. If you find one false, say at which input.
  Laid BY PROGRAM, IN A SANDBOX (cutbox-rows.mjs): the forced cells as the released guide's own fill.sh prints them over the translation 3b47a972fd77693f… (all of the seat's roots in one cut). By AI agents, Wed Nov 11 2026. No macro, syntax, notation, axiom, sorry.
-/
import Derived.Test.YtjnflahicimmlaaChecked
import GoSem.Claim
import GoSem.ClaimJoined
import GoSem.ClaimMapViews
import Derived.JoinedTies
import Derived.KernelRfl
namespace Go.Proofs.Ytjnflahicimmlaa
/- THE CELL 'sum', in the pinned program and in every row, IS THE sha256 OF THE DUMP (.gsa) THAT YtjnflahicimmlaaProg.lean LOADS. Nothing in Lean hashes anything: it is a label: what it is worth is what the hold of that sum in a sandbox is worth. -/
noncomputable def Try.pinned : Pinned := { name := "ytjnflahicimmlaa", sum := "3b47a972fd77693f0b5c286d62fc0df5d550f8bb82264d08d50753e49e66049a", checked := Try.checked }
namespace Rows
def none {H : Type} : Left H := { results := [], args := [] }

/-- 'leakresponselaw15.HistoryLater': WHATEVER THE INPUT: true; the input reads as it did. -/
def historyLaterSpec : ChangeSpec := { name := "historyLater", fn := fun _ => fun
  | [d1, d2] => { results := [.lit (.bool true)], args := [d1, d2] }
  | _ => none }
def historyLaterRow : OpenClaim := { program := "ytjnflahicimmlaa", sum := "3b47a972fd77693f0b5c286d62fc0df5d550f8bb82264d08d50753e49e66049a", func := "leakresponse/leakresponselaw15.HistoryLater", spec := "historyLater", inPlace := ["maps.clone"], unfollowed := true, recurses := true, apart := false }
def HistoryLaterSaid : Prop := historyLaterRow.holds Try.pinned (OpenSpec.ofChange historyLaterSpec)

/-- ITS FALSE NEIGHBOUR: 'it returns false'. Refute it at one input. -/
def historyLaterWrong : ChangeSpec := { name := "historyLater", fn := fun _ => fun
  | [d1, d2] => { results := [.lit (.bool false)], args := [d1, d2] }
  | _ => none }
def HistoryLaterWrongFalsely : Prop := historyLaterRow.holds Try.pinned (OpenSpec.ofChange historyLaterWrong)

/-- 'leakresponselaw15.HistoryCycles': WHATEVER THE INPUT: true; the input reads as it did. -/
def historyCyclesSpec : ChangeSpec := { name := "historyCycles", fn := fun _ => fun
  | [d] => { results := [.lit (.bool true)], args := [d] }
  | _ => none }
def historyCyclesRow : OpenClaim := { program := "ytjnflahicimmlaa", sum := "3b47a972fd77693f0b5c286d62fc0df5d550f8bb82264d08d50753e49e66049a", func := "leakresponse/leakresponselaw15.HistoryCycles", spec := "historyCycles", inPlace := ["maps.clone"], unfollowed := true, recurses := true, apart := false }
def HistoryCyclesSaid : Prop := historyCyclesRow.holds Try.pinned (OpenSpec.ofChange historyCyclesSpec)

/-- ITS FALSE NEIGHBOUR: 'it returns false'. Refute it at one input. -/
def historyCyclesWrong : ChangeSpec := { name := "historyCycles", fn := fun _ => fun
  | [d] => { results := [.lit (.bool false)], args := [d] }
  | _ => none }
def HistoryCyclesWrongFalsely : Prop := historyCyclesRow.holds Try.pinned (OpenSpec.ofChange historyCyclesWrong)

/-- 'leakresponselaw15.HistoryGrows': WHATEVER THE INPUT: true; the input reads as it did. -/
def historyGrowsSpec : ChangeSpec := { name := "historyGrows", fn := fun _ => fun
  | [d1, d2] => { results := [.lit (.bool true)], args := [d1, d2] }
  | _ => none }
def historyGrowsRow : OpenClaim := { program := "ytjnflahicimmlaa", sum := "3b47a972fd77693f0b5c286d62fc0df5d550f8bb82264d08d50753e49e66049a", func := "leakresponse/leakresponselaw15.HistoryGrows", spec := "historyGrows", inPlace := ["maps.clone"], unfollowed := true, recurses := true, apart := false }
def HistoryGrowsSaid : Prop := historyGrowsRow.holds Try.pinned (OpenSpec.ofChange historyGrowsSpec)

/-- ITS FALSE NEIGHBOUR: 'it returns false'. Refute it at one input. -/
def historyGrowsWrong : ChangeSpec := { name := "historyGrows", fn := fun _ => fun
  | [d1, d2] => { results := [.lit (.bool false)], args := [d1, d2] }
  | _ => none }
def HistoryGrowsWrongFalsely : Prop := historyGrowsRow.holds Try.pinned (OpenSpec.ofChange historyGrowsWrong)

/-- 'leakresponselaw15.HistoryClosed': WHATEVER THE INPUT: true; the input reads as it did. -/
def historyClosedSpec : ChangeSpec := { name := "historyClosed", fn := fun _ => fun
  | [d1, d2] => { results := [.lit (.bool true)], args := [d1, d2] }
  | _ => none }
def historyClosedRow : OpenClaim := { program := "ytjnflahicimmlaa", sum := "3b47a972fd77693f0b5c286d62fc0df5d550f8bb82264d08d50753e49e66049a", func := "leakresponse/leakresponselaw15.HistoryClosed", spec := "historyClosed", inPlace := ["maps.clone"], unfollowed := true, recurses := true, apart := false }
def HistoryClosedSaid : Prop := historyClosedRow.holds Try.pinned (OpenSpec.ofChange historyClosedSpec)

/-- ITS FALSE NEIGHBOUR: 'it returns false'. Refute it at one input. -/
def historyClosedWrong : ChangeSpec := { name := "historyClosed", fn := fun _ => fun
  | [d1, d2] => { results := [.lit (.bool false)], args := [d1, d2] }
  | _ => none }
def HistoryClosedWrongFalsely : Prop := historyClosedRow.holds Try.pinned (OpenSpec.ofChange historyClosedWrong)

/-- 'leakresponselaw15.HistoryPrefix': WHATEVER THE INPUT: true; the input reads as it did. -/
def historyPrefixSpec : ChangeSpec := { name := "historyPrefix", fn := fun _ => fun
  | [d1, d2] => { results := [.lit (.bool true)], args := [d1, d2] }
  | _ => none }
def historyPrefixRow : OpenClaim := { program := "ytjnflahicimmlaa", sum := "3b47a972fd77693f0b5c286d62fc0df5d550f8bb82264d08d50753e49e66049a", func := "leakresponse/leakresponselaw15.HistoryPrefix", spec := "historyPrefix", inPlace := ["maps.clone"], unfollowed := true, recurses := true, apart := false }
def HistoryPrefixSaid : Prop := historyPrefixRow.holds Try.pinned (OpenSpec.ofChange historyPrefixSpec)

/-- ITS FALSE NEIGHBOUR: 'it returns false'. Refute it at one input. -/
def historyPrefixWrong : ChangeSpec := { name := "historyPrefix", fn := fun _ => fun
  | [d1, d2] => { results := [.lit (.bool false)], args := [d1, d2] }
  | _ => none }
def HistoryPrefixWrongFalsely : Prop := historyPrefixRow.holds Try.pinned (OpenSpec.ofChange historyPrefixWrong)

/- THE SECOND FORM. 'bulk': how many values and letters a reading holds, each counted each time it is reached (what is shared counts as often as it is met; a slice's spare places count too). A statement '..UptoSaid' is the law's where the arguments, and the package variables that the reading takes, are together of bulk at most 1048576: NARROWER than '..Said'. Prove '..Said' where nothing that the law and all that it calls make is longer than what came in: it says more and counts as full. Else prove '..UptoSaid'. A law counts once. -/
mutual
def uptoBulk {H : Type} : DataW H → Nat
  | .lit (.string bytes) => bytes.length + 1
  | .lit _ => 1
  | .nil => 1
  | .ptr d => uptoBulk d + 1
  | .slice elems spare => uptoBulkAll elems + uptoBulkAll spare + 1
  | .agg parts => uptoBulkAll parts + 1
  | .iface _ d => uptoBulk d + 1
  | .map entries => uptoBulkEntries entries + 1
  | .held _ => 1
def uptoBulkAll {H : Type} : List (DataW H) → Nat
  | [] => 0
  | d :: r => uptoBulk d + uptoBulkAll r
def uptoBulkEntries {H : Type} : List (Lit × DataW H) → Nat
  | [] => 0
  | x :: r => uptoBulkEntry x + uptoBulkEntries r
def uptoBulkEntry {H : Type} : Lit × DataW H → Nat
  | (.string bytes, d) => bytes.length + uptoBulk d + 1
  | (_, d) => uptoBulk d + 1
 end
def uptoSmall : (H : Type) → List (DataW H) → Bool := fun _ ds => decide (uptoBulkAll ds ≤ 1048576)
def OpenSpec.upto (s : _root_.Go.ChangeSpec) : _root_.Go.OpenSpec := { _root_.Go.OpenSpec.ofChange s with cond := some uptoSmall }

/-- 'leakresponselaw15.HistoryLater', WHERE WHAT IT READS IS OF BULK AT MOST 1048576: true; the input reads as it did. -/
def historyLaterUptoRow : OpenClaim := { program := "ytjnflahicimmlaa", sum := "3b47a972fd77693f0b5c286d62fc0df5d550f8bb82264d08d50753e49e66049a", func := "leakresponse/leakresponselaw15.HistoryLater", spec := "historyLater", inPlace := ["maps.clone"], unfollowed := true, recurses := true, apart := false, narrowed := true }
def HistoryLaterUptoSaid : Prop := historyLaterUptoRow.holds Try.pinned (OpenSpec.upto historyLaterSpec)

/-- 'leakresponselaw15.HistoryCycles', WHERE WHAT IT READS IS OF BULK AT MOST 1048576: true; the input reads as it did. -/
def historyCyclesUptoRow : OpenClaim := { program := "ytjnflahicimmlaa", sum := "3b47a972fd77693f0b5c286d62fc0df5d550f8bb82264d08d50753e49e66049a", func := "leakresponse/leakresponselaw15.HistoryCycles", spec := "historyCycles", inPlace := ["maps.clone"], unfollowed := true, recurses := true, apart := false, narrowed := true }
def HistoryCyclesUptoSaid : Prop := historyCyclesUptoRow.holds Try.pinned (OpenSpec.upto historyCyclesSpec)

/-- 'leakresponselaw15.HistoryGrows', WHERE WHAT IT READS IS OF BULK AT MOST 1048576: true; the input reads as it did. -/
def historyGrowsUptoRow : OpenClaim := { program := "ytjnflahicimmlaa", sum := "3b47a972fd77693f0b5c286d62fc0df5d550f8bb82264d08d50753e49e66049a", func := "leakresponse/leakresponselaw15.HistoryGrows", spec := "historyGrows", inPlace := ["maps.clone"], unfollowed := true, recurses := true, apart := false, narrowed := true }
def HistoryGrowsUptoSaid : Prop := historyGrowsUptoRow.holds Try.pinned (OpenSpec.upto historyGrowsSpec)

/-- 'leakresponselaw15.HistoryClosed', WHERE WHAT IT READS IS OF BULK AT MOST 1048576: true; the input reads as it did. -/
def historyClosedUptoRow : OpenClaim := { program := "ytjnflahicimmlaa", sum := "3b47a972fd77693f0b5c286d62fc0df5d550f8bb82264d08d50753e49e66049a", func := "leakresponse/leakresponselaw15.HistoryClosed", spec := "historyClosed", inPlace := ["maps.clone"], unfollowed := true, recurses := true, apart := false, narrowed := true }
def HistoryClosedUptoSaid : Prop := historyClosedUptoRow.holds Try.pinned (OpenSpec.upto historyClosedSpec)

/-- 'leakresponselaw15.HistoryPrefix', WHERE WHAT IT READS IS OF BULK AT MOST 1048576: true; the input reads as it did. -/
def historyPrefixUptoRow : OpenClaim := { program := "ytjnflahicimmlaa", sum := "3b47a972fd77693f0b5c286d62fc0df5d550f8bb82264d08d50753e49e66049a", func := "leakresponse/leakresponselaw15.HistoryPrefix", spec := "historyPrefix", inPlace := ["maps.clone"], unfollowed := true, recurses := true, apart := false, narrowed := true }
def HistoryPrefixUptoSaid : Prop := historyPrefixUptoRow.holds Try.pinned (OpenSpec.upto historyPrefixSpec)

end Rows
end Go.Proofs.Ytjnflahicimmlaa
