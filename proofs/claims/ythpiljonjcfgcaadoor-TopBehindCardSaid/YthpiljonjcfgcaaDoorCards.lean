/-
  DERIVED. GIVEN WITH THE SEED: THE CARDS: each row of YthpiljonjcfgcaaDoorRows.lean that lists a variable, with what it lists TIED to the program's text (the seventh form; the later family's looks); each row that meets fmt, with fmt's text TOLD by the authors' own Lean function (tested against real Go, not proved from fmt's source: count such statements apart). THE CARD IS WHAT COUNTS. Prove the row's statement (the work); the ties are given (YthpiljonjcfgcaaDoorTie.lean); close each card by the builder's one call (the guide's Derived/Test/ToyasCard.lean, 'card_holds'). Laid BY PROGRAM, IN A SANDBOX (cutbox-door.mjs). By AI agents, Wed Nov 11 2026. No macro, syntax, notation, axiom, sorry.
-/
import Derived.Test.YthpiljonjcfgcaaDoorRows
import GoSem.ClaimSeven
namespace Go.Proofs.YthpiljonjcfgcaaDoor
namespace Rows

/-- THE TIED CARD OF 'leakresponsetop.TopBehind'. -/
def topBehindCard : Claim7 := { stood := { row := topBehindRow, standIns := [], harness := (true, "f22539705e3cf9224c811d897510236b41b9b8eb1440657cc25cb65819740629"), looks := false }, kinds := [], alts := [], laidByText := true, laidKinds := [.data], laidTests := true, laidLooks := .later }
def TopBehindCardSaid : Prop := Claim7.holds Tryd.pinned (.plain (OpenSpec.ofChange topBehindSpec)) topBehindCard

/-- THE SECOND FORM's CARD OF 'leakresponsetop.TopBehind'. -/
def topBehindUptoCard : Claim7 := { stood := { row := topBehindUptoRow, standIns := [], harness := (true, "f22539705e3cf9224c811d897510236b41b9b8eb1440657cc25cb65819740629"), looks := false }, kinds := [], alts := [], laidByText := true, laidKinds := [.data], laidTests := true, laidLooks := .later }
def TopBehindUptoCardSaid : Prop := Claim7.holds Tryd.pinned (.plain (OpenSpec.upto topBehindSpec)) topBehindUptoCard
end Rows
end Go.Proofs.YthpiljonjcfgcaaDoor
