/-
  DERIVED. GIVEN WITH THE SEED: THE CARDS: each row of YtciimncnodejaaaDoorRows.lean that lists a variable, with what it lists TIED to the program's text (the seventh form; the later family's looks); each row that meets fmt, with fmt's text TOLD by the authors' own Lean function (tested against real Go, not proved from fmt's source: count such statements apart). THE CARD IS WHAT COUNTS. Prove the row's statement (the work); the ties are given (YtciimncnodejaaaDoorTie.lean); close each card by the builder's one call (the guide's Derived/Test/ToyasCard.lean, 'card_holds'). Laid BY PROGRAM, IN A SANDBOX (cutbox-door.mjs). By AI agents, Wed Nov 11 2026. No macro, syntax, notation, axiom, sorry.
-/
import Derived.Test.YtciimncnodejaaaDoorRows
import GoSem.ClaimSeven
namespace Go.Proofs.YtciimncnodejaaaDoor
namespace Rows

/-- THE TIED CARD OF 'leakresponselaw41.NoticeSteps'. -/
def noticeStepsCard : Claim7 := { stood := { row := noticeStepsRow, standIns := [], harness := (true, "f94554fdc789c3d3a4dad5599830c7c62732511cc21a47dc67984c50c3741984"), looks := false }, kinds := [], alts := [], laidByText := true, laidKinds := [.data], laidTests := true, laidLooks := .later }
def NoticeStepsCardSaid : Prop := Claim7.holds Tryd.pinned (.plain (OpenSpec.ofChange noticeStepsSpec)) noticeStepsCard

/-- THE TIED CARD OF 'leakresponselaw41.NoticeQuiet'. -/
def noticeQuietCard : Claim7 := { stood := { row := noticeQuietRow, standIns := [], harness := (true, "f94554fdc789c3d3a4dad5599830c7c62732511cc21a47dc67984c50c3741984"), looks := false }, kinds := [], alts := [], laidByText := true, laidKinds := [.data], laidTests := true, laidLooks := .later }
def NoticeQuietCardSaid : Prop := Claim7.holds Tryd.pinned (.plain (OpenSpec.ofChange noticeQuietSpec)) noticeQuietCard

/-- THE TIED CARD OF 'leakresponselaw41.NoticeUntil'. -/
def noticeUntilCard : Claim7 := { stood := { row := noticeUntilRow, standIns := [], harness := (true, "f94554fdc789c3d3a4dad5599830c7c62732511cc21a47dc67984c50c3741984"), looks := false }, kinds := [], alts := [], laidByText := true, laidKinds := [.data], laidTests := true, laidLooks := .later }
def NoticeUntilCardSaid : Prop := Claim7.holds Tryd.pinned (.plain (OpenSpec.ofChange noticeUntilSpec)) noticeUntilCard

/-- THE TIED CARD OF 'leakresponselaw41.NoticeApart'. -/
def noticeApartCard : Claim7 := { stood := { row := noticeApartRow, standIns := [], harness := (true, "f94554fdc789c3d3a4dad5599830c7c62732511cc21a47dc67984c50c3741984"), looks := false }, kinds := [], alts := [], laidByText := true, laidKinds := [.data], laidTests := true, laidLooks := .later }
def NoticeApartCardSaid : Prop := Claim7.holds Tryd.pinned (.plain (OpenSpec.ofChange noticeApartSpec)) noticeApartCard

/-- THE SECOND FORM's CARD OF 'leakresponselaw41.NoticeSteps'. -/
def noticeStepsUptoCard : Claim7 := { stood := { row := noticeStepsUptoRow, standIns := [], harness := (true, "f94554fdc789c3d3a4dad5599830c7c62732511cc21a47dc67984c50c3741984"), looks := false }, kinds := [], alts := [], laidByText := true, laidKinds := [.data], laidTests := true, laidLooks := .later }
def NoticeStepsUptoCardSaid : Prop := Claim7.holds Tryd.pinned (.plain (OpenSpec.upto noticeStepsSpec)) noticeStepsUptoCard

/-- THE SECOND FORM's CARD OF 'leakresponselaw41.NoticeQuiet'. -/
def noticeQuietUptoCard : Claim7 := { stood := { row := noticeQuietUptoRow, standIns := [], harness := (true, "f94554fdc789c3d3a4dad5599830c7c62732511cc21a47dc67984c50c3741984"), looks := false }, kinds := [], alts := [], laidByText := true, laidKinds := [.data], laidTests := true, laidLooks := .later }
def NoticeQuietUptoCardSaid : Prop := Claim7.holds Tryd.pinned (.plain (OpenSpec.upto noticeQuietSpec)) noticeQuietUptoCard

/-- THE SECOND FORM's CARD OF 'leakresponselaw41.NoticeUntil'. -/
def noticeUntilUptoCard : Claim7 := { stood := { row := noticeUntilUptoRow, standIns := [], harness := (true, "f94554fdc789c3d3a4dad5599830c7c62732511cc21a47dc67984c50c3741984"), looks := false }, kinds := [], alts := [], laidByText := true, laidKinds := [.data], laidTests := true, laidLooks := .later }
def NoticeUntilUptoCardSaid : Prop := Claim7.holds Tryd.pinned (.plain (OpenSpec.upto noticeUntilSpec)) noticeUntilUptoCard

/-- THE SECOND FORM's CARD OF 'leakresponselaw41.NoticeApart'. -/
def noticeApartUptoCard : Claim7 := { stood := { row := noticeApartUptoRow, standIns := [], harness := (true, "f94554fdc789c3d3a4dad5599830c7c62732511cc21a47dc67984c50c3741984"), looks := false }, kinds := [], alts := [], laidByText := true, laidKinds := [.data], laidTests := true, laidLooks := .later }
def NoticeApartUptoCardSaid : Prop := Claim7.holds Tryd.pinned (.plain (OpenSpec.upto noticeApartSpec)) noticeApartUptoCard
end Rows
end Go.Proofs.YtciimncnodejaaaDoor
