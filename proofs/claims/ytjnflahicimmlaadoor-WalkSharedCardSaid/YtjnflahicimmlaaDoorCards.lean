/-
  DERIVED. GIVEN WITH THE SEED: THE CARDS: each row of YtjnflahicimmlaaDoorRows.lean that lists a variable, with what it lists TIED to the program's text (the seventh form; the later family's looks); each row that meets fmt, with fmt's text TOLD by the authors' own Lean function (tested against real Go, not proved from fmt's source: count such statements apart). THE CARD IS WHAT COUNTS. Prove the row's statement (the work); the ties are given (YtjnflahicimmlaaDoorTie.lean); close each card by the builder's one call (the guide's Derived/Test/ToyasCard.lean, 'card_holds'). Laid BY PROGRAM, IN A SANDBOX (cutbox-door.mjs). By AI agents, Wed Nov 11 2026. No macro, syntax, notation, axiom, sorry.
-/
import Derived.Test.YtjnflahicimmlaaDoorRows
import GoSem.ClaimSeven
namespace Go.Proofs.YtjnflahicimmlaaDoor
namespace Rows

/-- THE TIED CARD OF 'leakresponselaw16.WalkMany'. -/
def walkManyCard : Claim7 := { stood := { row := walkManyRow, standIns := [], harness := (true, "efce097fd5a14af06b480e5a027d3b0c0dce624ee3fd3555795528be7fdc47eb"), looks := true }, kinds := [], alts := [], laidByText := true, laidKinds := [.data, .data, .data], laidTests := true, laidLooks := .later }
def WalkManyCardSaid : Prop := Claim7.holds Tryd.pinned (.plain (OpenSpec.ofChange walkManySpec)) walkManyCard

/-- THE TIED CARD OF 'leakresponselaw16.WalkShared'. -/
def walkSharedCard : Claim7 := { stood := { row := walkSharedRow, standIns := [], harness := (true, "efce097fd5a14af06b480e5a027d3b0c0dce624ee3fd3555795528be7fdc47eb"), looks := true }, kinds := [], alts := [], laidByText := true, laidKinds := [.data, .data, .data], laidTests := true, laidLooks := .later }
def WalkSharedCardSaid : Prop := Claim7.holds Tryd.pinned (.plain (OpenSpec.ofChange walkSharedSpec)) walkSharedCard

/-- THE SECOND FORM's CARD OF 'leakresponselaw16.WalkMany'. -/
def walkManyUptoCard : Claim7 := { stood := { row := walkManyUptoRow, standIns := [], harness := (true, "efce097fd5a14af06b480e5a027d3b0c0dce624ee3fd3555795528be7fdc47eb"), looks := true }, kinds := [], alts := [], laidByText := true, laidKinds := [.data, .data, .data], laidTests := true, laidLooks := .later }
def WalkManyUptoCardSaid : Prop := Claim7.holds Tryd.pinned (.plain (OpenSpec.upto walkManySpec)) walkManyUptoCard

/-- THE SECOND FORM's CARD OF 'leakresponselaw16.WalkShared'. -/
def walkSharedUptoCard : Claim7 := { stood := { row := walkSharedUptoRow, standIns := [], harness := (true, "efce097fd5a14af06b480e5a027d3b0c0dce624ee3fd3555795528be7fdc47eb"), looks := true }, kinds := [], alts := [], laidByText := true, laidKinds := [.data, .data, .data], laidTests := true, laidLooks := .later }
def WalkSharedUptoCardSaid : Prop := Claim7.holds Tryd.pinned (.plain (OpenSpec.upto walkSharedSpec)) walkSharedUptoCard
end Rows
end Go.Proofs.YtjnflahicimmlaaDoor
