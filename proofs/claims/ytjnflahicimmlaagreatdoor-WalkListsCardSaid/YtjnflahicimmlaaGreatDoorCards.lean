/-
  DERIVED. GIVEN WITH THE SEED: THE CARDS: each row of YtjnflahicimmlaaGreatDoorRows.lean that lists a variable, with what it lists TIED to the program's text (the seventh form; the later family's looks); each row that meets fmt, with fmt's text TOLD by the authors' own Lean function (tested against real Go, not proved from fmt's source: count such statements apart). THE CARD IS WHAT COUNTS. Prove the row's statement (the work); the ties are given (YtjnflahicimmlaaGreatDoorTie.lean); close each card by the builder's one call (the guide's Derived/Test/ToyasCard.lean, 'card_holds'). Laid BY PROGRAM, IN A SANDBOX (cutbox-door.mjs). By AI agents, Wed Nov 11 2026. No macro, syntax, notation, axiom, sorry.
-/
import Derived.Test.YtjnflahicimmlaaGreatDoorRows
import GoSem.ClaimSeven
namespace Go.Proofs.YtjnflahicimmlaaGreatDoor
namespace Rows

/-- THE TIED CARD OF 'leakresponselaw16.WalkLists'. -/
def walkListsCard : Claim7 := { stood := { row := walkListsRow, standIns := [], harness := (true, "22ff5ddb12aa9f696a383e3be0cc85ec6b763691793b3eac9b10d40f2e21350c"), looks := true }, kinds := [], alts := [], laidByText := true, laidKinds := [.data, .data, .data], laidTests := true, laidLooks := .later }
def WalkListsCardSaid : Prop := Claim7.holds Tryz.pinned (.plain (OpenSpec.ofChange walkListsSpec)) walkListsCard

/-- THE TIED CARD OF 'leakresponselaw16.WalkPlaces'. -/
def walkPlacesCard : Claim7 := { stood := { row := walkPlacesRow, standIns := [], harness := (true, "22ff5ddb12aa9f696a383e3be0cc85ec6b763691793b3eac9b10d40f2e21350c"), looks := true }, kinds := [], alts := [], laidByText := true, laidKinds := [.data, .data, .data], laidTests := true, laidLooks := .later }
def WalkPlacesCardSaid : Prop := Claim7.holds Tryz.pinned (.plain (OpenSpec.ofChange walkPlacesSpec)) walkPlacesCard

/-- THE TIED CARD OF 'leakresponselaw16.WalkPaths'. -/
def walkPathsCard : Claim7 := { stood := { row := walkPathsRow, standIns := [], harness := (true, "22ff5ddb12aa9f696a383e3be0cc85ec6b763691793b3eac9b10d40f2e21350c"), looks := true }, kinds := [], alts := [], laidByText := true, laidKinds := [.data, .data, .data], laidTests := true, laidLooks := .later }
def WalkPathsCardSaid : Prop := Claim7.holds Tryz.pinned (.plain (OpenSpec.ofChange walkPathsSpec)) walkPathsCard

/-- THE SECOND FORM's CARD OF 'leakresponselaw16.WalkLists'. -/
def walkListsUptoCard : Claim7 := { stood := { row := walkListsUptoRow, standIns := [], harness := (true, "22ff5ddb12aa9f696a383e3be0cc85ec6b763691793b3eac9b10d40f2e21350c"), looks := true }, kinds := [], alts := [], laidByText := true, laidKinds := [.data, .data, .data], laidTests := true, laidLooks := .later }
def WalkListsUptoCardSaid : Prop := Claim7.holds Tryz.pinned (.plain (OpenSpec.upto walkListsSpec)) walkListsUptoCard

/-- THE SECOND FORM's CARD OF 'leakresponselaw16.WalkPlaces'. -/
def walkPlacesUptoCard : Claim7 := { stood := { row := walkPlacesUptoRow, standIns := [], harness := (true, "22ff5ddb12aa9f696a383e3be0cc85ec6b763691793b3eac9b10d40f2e21350c"), looks := true }, kinds := [], alts := [], laidByText := true, laidKinds := [.data, .data, .data], laidTests := true, laidLooks := .later }
def WalkPlacesUptoCardSaid : Prop := Claim7.holds Tryz.pinned (.plain (OpenSpec.upto walkPlacesSpec)) walkPlacesUptoCard

/-- THE SECOND FORM's CARD OF 'leakresponselaw16.WalkPaths'. -/
def walkPathsUptoCard : Claim7 := { stood := { row := walkPathsUptoRow, standIns := [], harness := (true, "22ff5ddb12aa9f696a383e3be0cc85ec6b763691793b3eac9b10d40f2e21350c"), looks := true }, kinds := [], alts := [], laidByText := true, laidKinds := [.data, .data, .data], laidTests := true, laidLooks := .later }
def WalkPathsUptoCardSaid : Prop := Claim7.holds Tryz.pinned (.plain (OpenSpec.upto walkPathsSpec)) walkPathsUptoCard
end Rows
end Go.Proofs.YtjnflahicimmlaaGreatDoor
