/-
  DERIVED. GIVEN WITH THE SEED: THE CARDS: each row of YtciimncnodejaaaGreatDoorRows.lean that lists a variable, with what it lists TIED to the program's text (the seventh form; the later family's looks); each row that meets fmt, with fmt's text TOLD by the authors' own Lean function (tested against real Go, not proved from fmt's source: count such statements apart). THE CARD IS WHAT COUNTS. Prove the row's statement (the work); the ties are given (YtciimncnodejaaaGreatDoorTie.lean); close each card by the builder's one call (the guide's Derived/Test/ToyasCard.lean, 'card_holds'). Laid BY PROGRAM, IN A SANDBOX (cutbox-door.mjs). By AI agents, Wed Nov 11 2026. No macro, syntax, notation, axiom, sorry.
-/
import Derived.Test.YtciimncnodejaaaGreatDoorRows
import GoSem.ClaimSeven
namespace Go.Proofs.YtciimncnodejaaaGreatDoor
namespace Rows

/-- THE TIED CARD OF 'leakresponselaw41.NoticeExact'. -/
def noticeExactCard : Claim7 := { stood := { row := noticeExactRow, standIns := [], harness := (true, "bd31a686438569e2469ea9c876a07cd778e3775b7a3c1c742c285753f278cc75"), looks := false }, kinds := [], alts := [], laidByText := true, laidKinds := [.data], laidTests := true, laidLooks := .later }
def NoticeExactCardSaid : Prop := Claim7.holds Tryz.pinned (.plain (OpenSpec.ofChange noticeExactSpec)) noticeExactCard

/-- THE SECOND FORM's CARD OF 'leakresponselaw41.NoticeExact'. -/
def noticeExactUptoCard : Claim7 := { stood := { row := noticeExactUptoRow, standIns := [], harness := (true, "bd31a686438569e2469ea9c876a07cd778e3775b7a3c1c742c285753f278cc75"), looks := false }, kinds := [], alts := [], laidByText := true, laidKinds := [.data], laidTests := true, laidLooks := .later }
def NoticeExactUptoCardSaid : Prop := Claim7.holds Tryz.pinned (.plain (OpenSpec.upto noticeExactSpec)) noticeExactUptoCard
end Rows
end Go.Proofs.YtciimncnodejaaaGreatDoor
