/-
  No cell of these rows narrows 'for every input' (looked for: loops, veiled, ifaces, maps, wideKeys, modest, calm, conditions, laid).
  DERIVED. THE GIVEN ROWS OF THIS SEAT. 14 by the template 'for every input the law returns true; each argument reads behind the call as it read before'; 0 by the template 'total and deterministic' (their statements: YtclmnpkhopioiaaTotals.lean).
  GIVEN WITH THE SEED: the statements are not yours to turn. If you find one false, say at which input.
  Laid BY PROGRAM, IN A SANDBOX (cutbox-rows.mjs): the forced cells as the released guide's own fill.sh prints them over the translation 02329c5a4d46872e… (all of the seat's roots in one cut). By AI agents, Wed Nov 11 2026. No macro, syntax, notation, axiom, sorry.
-/
import Derived.Test.YtclmnpkhopioiaaChecked
import GoSem.Claim
import GoSem.ClaimJoined
import GoSem.ClaimMapViews
import Derived.JoinedTies
import Derived.KernelRfl
namespace Go.Proofs.Ytclmnpkhopioiaa
/- THE CELL 'sum', in the pinned program and in every row, IS THE sha256 OF THE DUMP (.gsa) THAT YtclmnpkhopioiaaProg.lean LOADS. Nothing in Lean hashes anything: it is a label: what it is worth is what the hold of that sum in a sandbox is worth. -/
noncomputable def Try.pinned : Pinned := { name := "ytclmnpkhopioiaa", sum := "02329c5a4d46872e737bed5d0efca5925dd9e8538b5bd05bc24f563b64e23ddc", checked := Try.checked }
namespace Rows
def none {H : Type} : Left H := { results := [], args := [] }

/-- 'leakresponselaw32.FleetBits': WHATEVER THE INPUT: true; the input reads as it did. -/
def fleetBitsSpec : ChangeSpec := { name := "fleetBits", fn := fun _ => fun
  | [d] => { results := [.lit (.bool true)], args := [d] }
  | _ => none }
def fleetBitsRow : OpenClaim := { program := "ytclmnpkhopioiaa", sum := "02329c5a4d46872e737bed5d0efca5925dd9e8538b5bd05bc24f563b64e23ddc", func := "leakresponse/leakresponselaw32.FleetBits", spec := "fleetBits", unfollowed := true, recurses := true, apart := false }
def FleetBitsSaid : Prop := fleetBitsRow.holds Try.pinned (OpenSpec.ofChange fleetBitsSpec)

/-- ITS FALSE NEIGHBOUR: 'it returns false'. Refute it at one input. -/
def fleetBitsWrong : ChangeSpec := { name := "fleetBits", fn := fun _ => fun
  | [d] => { results := [.lit (.bool false)], args := [d] }
  | _ => none }
def FleetBitsWrongFalsely : Prop := fleetBitsRow.holds Try.pinned (OpenSpec.ofChange fleetBitsWrong)

/-- 'leakresponselaw32.FleetExact': WHATEVER THE INPUT: true; the input reads as it did. -/
def fleetExactSpec : ChangeSpec := { name := "fleetExact", fn := fun _ => fun
  | [d1, d2, d3, d4, d5] => { results := [.lit (.bool true)], args := [d1, d2, d3, d4, d5] }
  | _ => none }
def fleetExactRow : OpenClaim := { program := "ytclmnpkhopioiaa", sum := "02329c5a4d46872e737bed5d0efca5925dd9e8538b5bd05bc24f563b64e23ddc", func := "leakresponse/leakresponselaw32.FleetExact", spec := "fleetExact", unfollowed := true, recurses := true, apart := false }
def FleetExactSaid : Prop := fleetExactRow.holds Try.pinned (OpenSpec.ofChange fleetExactSpec)

/-- ITS FALSE NEIGHBOUR: 'it returns false'. Refute it at one input. -/
def fleetExactWrong : ChangeSpec := { name := "fleetExact", fn := fun _ => fun
  | [d1, d2, d3, d4, d5] => { results := [.lit (.bool false)], args := [d1, d2, d3, d4, d5] }
  | _ => none }
def FleetExactWrongFalsely : Prop := fleetExactRow.holds Try.pinned (OpenSpec.ofChange fleetExactWrong)

/-- 'leakresponselaw32.FleetServes': WHATEVER THE INPUT: true; the input reads as it did. -/
def fleetServesSpec : ChangeSpec := { name := "fleetServes", fn := fun _ => fun
  | [d] => { results := [.lit (.bool true)], args := [d] }
  | _ => none }
def fleetServesRow : OpenClaim := { program := "ytclmnpkhopioiaa", sum := "02329c5a4d46872e737bed5d0efca5925dd9e8538b5bd05bc24f563b64e23ddc", func := "leakresponse/leakresponselaw32.FleetServes", spec := "fleetServes", unfollowed := true, recurses := true, apart := false }
def FleetServesSaid : Prop := fleetServesRow.holds Try.pinned (OpenSpec.ofChange fleetServesSpec)

/-- ITS FALSE NEIGHBOUR: 'it returns false'. Refute it at one input. -/
def fleetServesWrong : ChangeSpec := { name := "fleetServes", fn := fun _ => fun
  | [d] => { results := [.lit (.bool false)], args := [d] }
  | _ => none }
def FleetServesWrongFalsely : Prop := fleetServesRow.holds Try.pinned (OpenSpec.ofChange fleetServesWrong)

/-- 'leakresponselaw32.FleetPools': WHATEVER THE INPUT: true; the input reads as it did. -/
def fleetPoolsSpec : ChangeSpec := { name := "fleetPools", fn := fun _ => fun
  | [d] => { results := [.lit (.bool true)], args := [d] }
  | _ => none }
def fleetPoolsRow : OpenClaim := { program := "ytclmnpkhopioiaa", sum := "02329c5a4d46872e737bed5d0efca5925dd9e8538b5bd05bc24f563b64e23ddc", func := "leakresponse/leakresponselaw32.FleetPools", spec := "fleetPools", unfollowed := true, recurses := true, apart := false }
def FleetPoolsSaid : Prop := fleetPoolsRow.holds Try.pinned (OpenSpec.ofChange fleetPoolsSpec)

/-- ITS FALSE NEIGHBOUR: 'it returns false'. Refute it at one input. -/
def fleetPoolsWrong : ChangeSpec := { name := "fleetPools", fn := fun _ => fun
  | [d] => { results := [.lit (.bool false)], args := [d] }
  | _ => none }
def FleetPoolsWrongFalsely : Prop := fleetPoolsRow.holds Try.pinned (OpenSpec.ofChange fleetPoolsWrong)

/-- 'leakresponselaw33.StepsRight': WHATEVER THE INPUT: true; the input reads as it did. -/
def stepsRightSpec : ChangeSpec := { name := "stepsRight", fn := fun _ => fun
  | [d] => { results := [.lit (.bool true)], args := [d] }
  | _ => none }
def stepsRightRow : OpenClaim := { program := "ytclmnpkhopioiaa", sum := "02329c5a4d46872e737bed5d0efca5925dd9e8538b5bd05bc24f563b64e23ddc", func := "leakresponse/leakresponselaw33.StepsRight", spec := "stepsRight", unfollowed := true, recurses := true, apart := false }
def StepsRightSaid : Prop := stepsRightRow.holds Try.pinned (OpenSpec.ofChange stepsRightSpec)

/-- ITS FALSE NEIGHBOUR: 'it returns false'. Refute it at one input. -/
def stepsRightWrong : ChangeSpec := { name := "stepsRight", fn := fun _ => fun
  | [d] => { results := [.lit (.bool false)], args := [d] }
  | _ => none }
def StepsRightWrongFalsely : Prop := stepsRightRow.holds Try.pinned (OpenSpec.ofChange stepsRightWrong)

/-- 'leakresponselaw33.StepsApart': WHATEVER THE INPUT: true; the input reads as it did. -/
def stepsApartSpec : ChangeSpec := { name := "stepsApart", fn := fun _ => fun
  | [d] => { results := [.lit (.bool true)], args := [d] }
  | _ => none }
def stepsApartRow : OpenClaim := { program := "ytclmnpkhopioiaa", sum := "02329c5a4d46872e737bed5d0efca5925dd9e8538b5bd05bc24f563b64e23ddc", func := "leakresponse/leakresponselaw33.StepsApart", spec := "stepsApart", unfollowed := true, recurses := true, apart := false }
def StepsApartSaid : Prop := stepsApartRow.holds Try.pinned (OpenSpec.ofChange stepsApartSpec)

/-- ITS FALSE NEIGHBOUR: 'it returns false'. Refute it at one input. -/
def stepsApartWrong : ChangeSpec := { name := "stepsApart", fn := fun _ => fun
  | [d] => { results := [.lit (.bool false)], args := [d] }
  | _ => none }
def StepsApartWrongFalsely : Prop := stepsApartRow.holds Try.pinned (OpenSpec.ofChange stepsApartWrong)

/-- 'leakresponselaw33.StepsChoices': WHATEVER THE INPUT: true; the input reads as it did. -/
def stepsChoicesSpec : ChangeSpec := { name := "stepsChoices", fn := fun _ => fun
  | [d] => { results := [.lit (.bool true)], args := [d] }
  | _ => none }
def stepsChoicesRow : OpenClaim := { program := "ytclmnpkhopioiaa", sum := "02329c5a4d46872e737bed5d0efca5925dd9e8538b5bd05bc24f563b64e23ddc", func := "leakresponse/leakresponselaw33.StepsChoices", spec := "stepsChoices", unfollowed := true, recurses := true, apart := false }
def StepsChoicesSaid : Prop := stepsChoicesRow.holds Try.pinned (OpenSpec.ofChange stepsChoicesSpec)

/-- ITS FALSE NEIGHBOUR: 'it returns false'. Refute it at one input. -/
def stepsChoicesWrong : ChangeSpec := { name := "stepsChoices", fn := fun _ => fun
  | [d] => { results := [.lit (.bool false)], args := [d] }
  | _ => none }
def StepsChoicesWrongFalsely : Prop := stepsChoicesRow.holds Try.pinned (OpenSpec.ofChange stepsChoicesWrong)

/-- 'leakresponselaw33.StepsServe': WHATEVER THE INPUT: true; the input reads as it did. -/
def stepsServeSpec : ChangeSpec := { name := "stepsServe", fn := fun _ => fun
  | [d] => { results := [.lit (.bool true)], args := [d] }
  | _ => none }
def stepsServeRow : OpenClaim := { program := "ytclmnpkhopioiaa", sum := "02329c5a4d46872e737bed5d0efca5925dd9e8538b5bd05bc24f563b64e23ddc", func := "leakresponse/leakresponselaw33.StepsServe", spec := "stepsServe", unfollowed := true, recurses := true, apart := false }
def StepsServeSaid : Prop := stepsServeRow.holds Try.pinned (OpenSpec.ofChange stepsServeSpec)

/-- ITS FALSE NEIGHBOUR: 'it returns false'. Refute it at one input. -/
def stepsServeWrong : ChangeSpec := { name := "stepsServe", fn := fun _ => fun
  | [d] => { results := [.lit (.bool false)], args := [d] }
  | _ => none }
def StepsServeWrongFalsely : Prop := stepsServeRow.holds Try.pinned (OpenSpec.ofChange stepsServeWrong)

/-- 'leakresponselaw33.StepsExact': WHATEVER THE INPUT: true; the input reads as it did. -/
def stepsExactSpec : ChangeSpec := { name := "stepsExact", fn := fun _ => fun
  | [d1, d2, d3, d4, d5] => { results := [.lit (.bool true)], args := [d1, d2, d3, d4, d5] }
  | _ => none }
def stepsExactRow : OpenClaim := { program := "ytclmnpkhopioiaa", sum := "02329c5a4d46872e737bed5d0efca5925dd9e8538b5bd05bc24f563b64e23ddc", func := "leakresponse/leakresponselaw33.StepsExact", spec := "stepsExact", unfollowed := true, recurses := true, apart := false }
def StepsExactSaid : Prop := stepsExactRow.holds Try.pinned (OpenSpec.ofChange stepsExactSpec)

/-- ITS FALSE NEIGHBOUR: 'it returns false'. Refute it at one input. -/
def stepsExactWrong : ChangeSpec := { name := "stepsExact", fn := fun _ => fun
  | [d1, d2, d3, d4, d5] => { results := [.lit (.bool false)], args := [d1, d2, d3, d4, d5] }
  | _ => none }
def StepsExactWrongFalsely : Prop := stepsExactRow.holds Try.pinned (OpenSpec.ofChange stepsExactWrong)

/-- 'leakresponselaw37.RunnerTries': WHATEVER THE INPUT: true; the input reads as it did. -/
def runnerTriesSpec : ChangeSpec := { name := "runnerTries", fn := fun _ => fun
  | [d] => { results := [.lit (.bool true)], args := [d] }
  | _ => none }
def runnerTriesRow : OpenClaim := { program := "ytclmnpkhopioiaa", sum := "02329c5a4d46872e737bed5d0efca5925dd9e8538b5bd05bc24f563b64e23ddc", func := "leakresponse/leakresponselaw37.RunnerTries", spec := "runnerTries", unfollowed := true, recurses := true, apart := false }
def RunnerTriesSaid : Prop := runnerTriesRow.holds Try.pinned (OpenSpec.ofChange runnerTriesSpec)

/-- ITS FALSE NEIGHBOUR: 'it returns false'. Refute it at one input. -/
def runnerTriesWrong : ChangeSpec := { name := "runnerTries", fn := fun _ => fun
  | [d] => { results := [.lit (.bool false)], args := [d] }
  | _ => none }
def RunnerTriesWrongFalsely : Prop := runnerTriesRow.holds Try.pinned (OpenSpec.ofChange runnerTriesWrong)

/-- 'leakresponselaw37.RunnerEnds': WHATEVER THE INPUT: true; the input reads as it did. -/
def runnerEndsSpec : ChangeSpec := { name := "runnerEnds", fn := fun _ => fun
  | [d] => { results := [.lit (.bool true)], args := [d] }
  | _ => none }
def runnerEndsRow : OpenClaim := { program := "ytclmnpkhopioiaa", sum := "02329c5a4d46872e737bed5d0efca5925dd9e8538b5bd05bc24f563b64e23ddc", func := "leakresponse/leakresponselaw37.RunnerEnds", spec := "runnerEnds", unfollowed := true, recurses := true, apart := false }
def RunnerEndsSaid : Prop := runnerEndsRow.holds Try.pinned (OpenSpec.ofChange runnerEndsSpec)

/-- ITS FALSE NEIGHBOUR: 'it returns false'. Refute it at one input. -/
def runnerEndsWrong : ChangeSpec := { name := "runnerEnds", fn := fun _ => fun
  | [d] => { results := [.lit (.bool false)], args := [d] }
  | _ => none }
def RunnerEndsWrongFalsely : Prop := runnerEndsRow.holds Try.pinned (OpenSpec.ofChange runnerEndsWrong)

/-- 'leakresponselaw37.RunnerMute': WHATEVER THE INPUT: true; the input reads as it did. -/
def runnerMuteSpec : ChangeSpec := { name := "runnerMute", fn := fun _ => fun
  | [d] => { results := [.lit (.bool true)], args := [d] }
  | _ => none }
def runnerMuteRow : OpenClaim := { program := "ytclmnpkhopioiaa", sum := "02329c5a4d46872e737bed5d0efca5925dd9e8538b5bd05bc24f563b64e23ddc", func := "leakresponse/leakresponselaw37.RunnerMute", spec := "runnerMute", unfollowed := true, recurses := true, apart := false }
def RunnerMuteSaid : Prop := runnerMuteRow.holds Try.pinned (OpenSpec.ofChange runnerMuteSpec)

/-- ITS FALSE NEIGHBOUR: 'it returns false'. Refute it at one input. -/
def runnerMuteWrong : ChangeSpec := { name := "runnerMute", fn := fun _ => fun
  | [d] => { results := [.lit (.bool false)], args := [d] }
  | _ => none }
def RunnerMuteWrongFalsely : Prop := runnerMuteRow.holds Try.pinned (OpenSpec.ofChange runnerMuteWrong)

/-- 'leakresponselaw37.RunnerLeft': WHATEVER THE INPUT: true; the input reads as it did. -/
def runnerLeftSpec : ChangeSpec := { name := "runnerLeft", fn := fun _ => fun
  | [d] => { results := [.lit (.bool true)], args := [d] }
  | _ => none }
def runnerLeftRow : OpenClaim := { program := "ytclmnpkhopioiaa", sum := "02329c5a4d46872e737bed5d0efca5925dd9e8538b5bd05bc24f563b64e23ddc", func := "leakresponse/leakresponselaw37.RunnerLeft", spec := "runnerLeft", unfollowed := true, recurses := true, apart := false }
def RunnerLeftSaid : Prop := runnerLeftRow.holds Try.pinned (OpenSpec.ofChange runnerLeftSpec)

/-- ITS FALSE NEIGHBOUR: 'it returns false'. Refute it at one input. -/
def runnerLeftWrong : ChangeSpec := { name := "runnerLeft", fn := fun _ => fun
  | [d] => { results := [.lit (.bool false)], args := [d] }
  | _ => none }
def RunnerLeftWrongFalsely : Prop := runnerLeftRow.holds Try.pinned (OpenSpec.ofChange runnerLeftWrong)

/-- 'leakresponselaw37.RunnerExact': WHATEVER THE INPUT: true; the input reads as it did. -/
def runnerExactSpec : ChangeSpec := { name := "runnerExact", fn := fun _ => fun
  | [d1, d2, d3, d4, d5, d6] => { results := [.lit (.bool true)], args := [d1, d2, d3, d4, d5, d6] }
  | _ => none }
def runnerExactRow : OpenClaim := { program := "ytclmnpkhopioiaa", sum := "02329c5a4d46872e737bed5d0efca5925dd9e8538b5bd05bc24f563b64e23ddc", func := "leakresponse/leakresponselaw37.RunnerExact", spec := "runnerExact", unfollowed := true, recurses := true, apart := false }
def RunnerExactSaid : Prop := runnerExactRow.holds Try.pinned (OpenSpec.ofChange runnerExactSpec)

/-- ITS FALSE NEIGHBOUR: 'it returns false'. Refute it at one input. -/
def runnerExactWrong : ChangeSpec := { name := "runnerExact", fn := fun _ => fun
  | [d1, d2, d3, d4, d5, d6] => { results := [.lit (.bool false)], args := [d1, d2, d3, d4, d5, d6] }
  | _ => none }
def RunnerExactWrongFalsely : Prop := runnerExactRow.holds Try.pinned (OpenSpec.ofChange runnerExactWrong)

/- THE SECOND FORM. 'bulk': how many values and letters a reading holds, each counted each time it is reached (what is shared counts as often as it is met; a slice's spare places count too). A statement '..UptoSaid' is the law's where the arguments, and the package variables that the reading takes, are together of bulk at most 1048576: NARROWER than '..Said'. Prove '..Said' where nothing that the law and all that it calls make is longer than what came in: it says more and counts as full. Else prove '..UptoSaid'. A law counts once. -/
mutual
def uptoBulk {H : Type} : DataW H → Nat
  | .lit (.string bytes) => bytes.length + 1
  | .lit _ => 1
  | .nil => 1
  | .ptr d => uptoBulk d + 1
  | .slice elems spare => uptoBulkAll elems + uptoBulkAll spare + 1
  | .agg parts => uptoBulkAll parts + 1
  | .iface _ d => uptoBulk d + 1
  | .map entries => uptoBulkEntries entries + 1
  | .held _ => 1
def uptoBulkAll {H : Type} : List (DataW H) → Nat
  | [] => 0
  | d :: r => uptoBulk d + uptoBulkAll r
def uptoBulkEntries {H : Type} : List (Lit × DataW H) → Nat
  | [] => 0
  | x :: r => uptoBulkEntry x + uptoBulkEntries r
def uptoBulkEntry {H : Type} : Lit × DataW H → Nat
  | (.string bytes, d) => bytes.length + uptoBulk d + 1
  | (_, d) => uptoBulk d + 1
 end
def uptoSmall : (H : Type) → List (DataW H) → Bool := fun _ ds => decide (uptoBulkAll ds ≤ 1048576)
def OpenSpec.upto (s : _root_.Go.ChangeSpec) : _root_.Go.OpenSpec := { _root_.Go.OpenSpec.ofChange s with cond := some uptoSmall }

/-- 'leakresponselaw32.FleetBits', WHERE WHAT IT READS IS OF BULK AT MOST 1048576: true; the input reads as it did. -/
def fleetBitsUptoRow : OpenClaim := { program := "ytclmnpkhopioiaa", sum := "02329c5a4d46872e737bed5d0efca5925dd9e8538b5bd05bc24f563b64e23ddc", func := "leakresponse/leakresponselaw32.FleetBits", spec := "fleetBits", unfollowed := true, recurses := true, apart := false, narrowed := true }
def FleetBitsUptoSaid : Prop := fleetBitsUptoRow.holds Try.pinned (OpenSpec.upto fleetBitsSpec)

/-- 'leakresponselaw32.FleetExact', WHERE WHAT IT READS IS OF BULK AT MOST 1048576: true; the input reads as it did. -/
def fleetExactUptoRow : OpenClaim := { program := "ytclmnpkhopioiaa", sum := "02329c5a4d46872e737bed5d0efca5925dd9e8538b5bd05bc24f563b64e23ddc", func := "leakresponse/leakresponselaw32.FleetExact", spec := "fleetExact", unfollowed := true, recurses := true, apart := false, narrowed := true }
def FleetExactUptoSaid : Prop := fleetExactUptoRow.holds Try.pinned (OpenSpec.upto fleetExactSpec)

/-- 'leakresponselaw32.FleetServes', WHERE WHAT IT READS IS OF BULK AT MOST 1048576: true; the input reads as it did. -/
def fleetServesUptoRow : OpenClaim := { program := "ytclmnpkhopioiaa", sum := "02329c5a4d46872e737bed5d0efca5925dd9e8538b5bd05bc24f563b64e23ddc", func := "leakresponse/leakresponselaw32.FleetServes", spec := "fleetServes", unfollowed := true, recurses := true, apart := false, narrowed := true }
def FleetServesUptoSaid : Prop := fleetServesUptoRow.holds Try.pinned (OpenSpec.upto fleetServesSpec)

/-- 'leakresponselaw32.FleetPools', WHERE WHAT IT READS IS OF BULK AT MOST 1048576: true; the input reads as it did. -/
def fleetPoolsUptoRow : OpenClaim := { program := "ytclmnpkhopioiaa", sum := "02329c5a4d46872e737bed5d0efca5925dd9e8538b5bd05bc24f563b64e23ddc", func := "leakresponse/leakresponselaw32.FleetPools", spec := "fleetPools", unfollowed := true, recurses := true, apart := false, narrowed := true }
def FleetPoolsUptoSaid : Prop := fleetPoolsUptoRow.holds Try.pinned (OpenSpec.upto fleetPoolsSpec)

/-- 'leakresponselaw33.StepsRight', WHERE WHAT IT READS IS OF BULK AT MOST 1048576: true; the input reads as it did. -/
def stepsRightUptoRow : OpenClaim := { program := "ytclmnpkhopioiaa", sum := "02329c5a4d46872e737bed5d0efca5925dd9e8538b5bd05bc24f563b64e23ddc", func := "leakresponse/leakresponselaw33.StepsRight", spec := "stepsRight", unfollowed := true, recurses := true, apart := false, narrowed := true }
def StepsRightUptoSaid : Prop := stepsRightUptoRow.holds Try.pinned (OpenSpec.upto stepsRightSpec)

/-- 'leakresponselaw33.StepsApart', WHERE WHAT IT READS IS OF BULK AT MOST 1048576: true; the input reads as it did. -/
def stepsApartUptoRow : OpenClaim := { program := "ytclmnpkhopioiaa", sum := "02329c5a4d46872e737bed5d0efca5925dd9e8538b5bd05bc24f563b64e23ddc", func := "leakresponse/leakresponselaw33.StepsApart", spec := "stepsApart", unfollowed := true, recurses := true, apart := false, narrowed := true }
def StepsApartUptoSaid : Prop := stepsApartUptoRow.holds Try.pinned (OpenSpec.upto stepsApartSpec)

/-- 'leakresponselaw33.StepsChoices', WHERE WHAT IT READS IS OF BULK AT MOST 1048576: true; the input reads as it did. -/
def stepsChoicesUptoRow : OpenClaim := { program := "ytclmnpkhopioiaa", sum := "02329c5a4d46872e737bed5d0efca5925dd9e8538b5bd05bc24f563b64e23ddc", func := "leakresponse/leakresponselaw33.StepsChoices", spec := "stepsChoices", unfollowed := true, recurses := true, apart := false, narrowed := true }
def StepsChoicesUptoSaid : Prop := stepsChoicesUptoRow.holds Try.pinned (OpenSpec.upto stepsChoicesSpec)

/-- 'leakresponselaw33.StepsServe', WHERE WHAT IT READS IS OF BULK AT MOST 1048576: true; the input reads as it did. -/
def stepsServeUptoRow : OpenClaim := { program := "ytclmnpkhopioiaa", sum := "02329c5a4d46872e737bed5d0efca5925dd9e8538b5bd05bc24f563b64e23ddc", func := "leakresponse/leakresponselaw33.StepsServe", spec := "stepsServe", unfollowed := true, recurses := true, apart := false, narrowed := true }
def StepsServeUptoSaid : Prop := stepsServeUptoRow.holds Try.pinned (OpenSpec.upto stepsServeSpec)

/-- 'leakresponselaw33.StepsExact', WHERE WHAT IT READS IS OF BULK AT MOST 1048576: true; the input reads as it did. -/
def stepsExactUptoRow : OpenClaim := { program := "ytclmnpkhopioiaa", sum := "02329c5a4d46872e737bed5d0efca5925dd9e8538b5bd05bc24f563b64e23ddc", func := "leakresponse/leakresponselaw33.StepsExact", spec := "stepsExact", unfollowed := true, recurses := true, apart := false, narrowed := true }
def StepsExactUptoSaid : Prop := stepsExactUptoRow.holds Try.pinned (OpenSpec.upto stepsExactSpec)

/-- 'leakresponselaw37.RunnerTries', WHERE WHAT IT READS IS OF BULK AT MOST 1048576: true; the input reads as it did. -/
def runnerTriesUptoRow : OpenClaim := { program := "ytclmnpkhopioiaa", sum := "02329c5a4d46872e737bed5d0efca5925dd9e8538b5bd05bc24f563b64e23ddc", func := "leakresponse/leakresponselaw37.RunnerTries", spec := "runnerTries", unfollowed := true, recurses := true, apart := false, narrowed := true }
def RunnerTriesUptoSaid : Prop := runnerTriesUptoRow.holds Try.pinned (OpenSpec.upto runnerTriesSpec)

/-- 'leakresponselaw37.RunnerEnds', WHERE WHAT IT READS IS OF BULK AT MOST 1048576: true; the input reads as it did. -/
def runnerEndsUptoRow : OpenClaim := { program := "ytclmnpkhopioiaa", sum := "02329c5a4d46872e737bed5d0efca5925dd9e8538b5bd05bc24f563b64e23ddc", func := "leakresponse/leakresponselaw37.RunnerEnds", spec := "runnerEnds", unfollowed := true, recurses := true, apart := false, narrowed := true }
def RunnerEndsUptoSaid : Prop := runnerEndsUptoRow.holds Try.pinned (OpenSpec.upto runnerEndsSpec)

/-- 'leakresponselaw37.RunnerMute', WHERE WHAT IT READS IS OF BULK AT MOST 1048576: true; the input reads as it did. -/
def runnerMuteUptoRow : OpenClaim := { program := "ytclmnpkhopioiaa", sum := "02329c5a4d46872e737bed5d0efca5925dd9e8538b5bd05bc24f563b64e23ddc", func := "leakresponse/leakresponselaw37.RunnerMute", spec := "runnerMute", unfollowed := true, recurses := true, apart := false, narrowed := true }
def RunnerMuteUptoSaid : Prop := runnerMuteUptoRow.holds Try.pinned (OpenSpec.upto runnerMuteSpec)

/-- 'leakresponselaw37.RunnerLeft', WHERE WHAT IT READS IS OF BULK AT MOST 1048576: true; the input reads as it did. -/
def runnerLeftUptoRow : OpenClaim := { program := "ytclmnpkhopioiaa", sum := "02329c5a4d46872e737bed5d0efca5925dd9e8538b5bd05bc24f563b64e23ddc", func := "leakresponse/leakresponselaw37.RunnerLeft", spec := "runnerLeft", unfollowed := true, recurses := true, apart := false, narrowed := true }
def RunnerLeftUptoSaid : Prop := runnerLeftUptoRow.holds Try.pinned (OpenSpec.upto runnerLeftSpec)

/-- 'leakresponselaw37.RunnerExact', WHERE WHAT IT READS IS OF BULK AT MOST 1048576: true; the input reads as it did. -/
def runnerExactUptoRow : OpenClaim := { program := "ytclmnpkhopioiaa", sum := "02329c5a4d46872e737bed5d0efca5925dd9e8538b5bd05bc24f563b64e23ddc", func := "leakresponse/leakresponselaw37.RunnerExact", spec := "runnerExact", unfollowed := true, recurses := true, apart := false, narrowed := true }
def RunnerExactUptoSaid : Prop := runnerExactUptoRow.holds Try.pinned (OpenSpec.upto runnerExactSpec)

end Rows
end Go.Proofs.Ytclmnpkhopioiaa
