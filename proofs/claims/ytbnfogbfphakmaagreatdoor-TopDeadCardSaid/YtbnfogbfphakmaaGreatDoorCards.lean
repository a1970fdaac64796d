/-
  DERIVED. GIVEN WITH THE SEED: THE CARDS: each row of YtbnfogbfphakmaaGreatDoorRows.lean that lists a variable, with what it lists TIED to the program's text (the seventh form; the later family's looks); each row that meets fmt, with fmt's text TOLD by the authors' own Lean function (tested against real Go, not proved from fmt's source: count such statements apart). THE CARD IS WHAT COUNTS. Prove the row's statement (the work); the ties are given (YtbnfogbfphakmaaGreatDoorTie.lean); close each card by the builder's one call (the guide's Derived/Test/ToyasCard.lean, 'card_holds'). Laid BY PROGRAM, IN A SANDBOX (cutbox-door.mjs). By AI agents, Wed Nov 11 2026. No macro, syntax, notation, axiom, sorry.
-/
import Derived.Test.YtbnfogbfphakmaaGreatDoorRows
import GoSem.ClaimSeven
namespace Go.Proofs.YtbnfogbfphakmaaGreatDoor
namespace Rows

/-- THE TIED CARD OF 'leakresponsetop.TopKnown'. -/
def topKnownCard : Claim7 := { stood := { row := topKnownRow, standIns := [], harness := (true, "448661a7932ef36517b330db328f5baa58022c3ce83f1796ecffccd164aae51d"), looks := true }, kinds := [], alts := [], laidByText := true, laidKinds := [.data, .data, .data, .data, .sentinel, .sentinel, .pinned], laidTests := true, laidLooks := .later }
def TopKnownCardSaid : Prop := Claim7.holds Tryz.pinned (.plain (OpenSpec.ofChange topKnownSpec)) topKnownCard

/-- THE TIED CARD OF 'leakresponsetop.TopDead'. -/
def topDeadCard : Claim7 := { stood := { row := topDeadRow, standIns := [], harness := (true, "448661a7932ef36517b330db328f5baa58022c3ce83f1796ecffccd164aae51d"), looks := true }, kinds := [], alts := [], laidByText := true, laidKinds := [.data, .data, .data, .data, .sentinel, .sentinel, .pinned], laidTests := true, laidLooks := .later }
def TopDeadCardSaid : Prop := Claim7.holds Tryz.pinned (.plain (OpenSpec.ofChange topDeadSpec)) topDeadCard

/-- THE SECOND FORM's CARD OF 'leakresponsetop.TopKnown'. -/
def topKnownUptoCard : Claim7 := { stood := { row := topKnownUptoRow, standIns := [], harness := (true, "448661a7932ef36517b330db328f5baa58022c3ce83f1796ecffccd164aae51d"), looks := true }, kinds := [], alts := [], laidByText := true, laidKinds := [.data, .data, .data, .data, .sentinel, .sentinel, .pinned], laidTests := true, laidLooks := .later }
def TopKnownUptoCardSaid : Prop := Claim7.holds Tryz.pinned (.plain (OpenSpec.upto topKnownSpec)) topKnownUptoCard

/-- THE SECOND FORM's CARD OF 'leakresponsetop.TopDead'. -/
def topDeadUptoCard : Claim7 := { stood := { row := topDeadUptoRow, standIns := [], harness := (true, "448661a7932ef36517b330db328f5baa58022c3ce83f1796ecffccd164aae51d"), looks := true }, kinds := [], alts := [], laidByText := true, laidKinds := [.data, .data, .data, .data, .sentinel, .sentinel, .pinned], laidTests := true, laidLooks := .later }
def TopDeadUptoCardSaid : Prop := Claim7.holds Tryz.pinned (.plain (OpenSpec.upto topDeadSpec)) topDeadUptoCard
end Rows
end Go.Proofs.YtbnfogbfphakmaaGreatDoor
