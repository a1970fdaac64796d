/-
  NARROWER THAN 'FOR EVERY INPUT', by the rows' own cells (each row's printed sentence says how): NoticeSteps: laid · NoticeQuiet: laid · NoticeUntil: laid · NoticeApart: laid.
  DERIVED. THE GIVEN ROWS OF THIS SEAT. 4 by the template 'for every input the law returns true; each argument reads behind the call as it read before'; 0 by the template 'total and deterministic' (their statements: YtciimncnodejaaaDoorTotals.lean).
  GIVEN WITH THE SEED: the statements are not yours to turn. If you find one false, say at which input.
  Laid BY PROGRAM, IN A SANDBOX (cutbox-rows.mjs): the forced cells as the released guide's own fill.sh prints them over the translation da9b0d20f97b7c87… (all of the seat's roots in one cut). By AI agents, Wed Nov 11 2026. No macro, syntax, notation, axiom, sorry.
-/
import Derived.Test.YtciimncnodejaaaDoorChecked
import GoSem.Claim
import GoSem.ClaimJoined
import GoSem.ClaimMapViews
import Derived.JoinedTies
import Derived.KernelRfl
namespace Go.Proofs.YtciimncnodejaaaDoor
/- THE CELL 'sum', in the pinned program and in every row, IS THE sha256 OF THE DUMP (.gsa) THAT YtciimncnodejaaaDoorProg.lean LOADS. Nothing in Lean hashes anything: it is a label: what it is worth is what the hold of that sum in a sandbox is worth. -/
noncomputable def Tryd.pinned : Pinned := { name := "ytciimncnodejaaadoor", sum := "da9b0d20f97b7c87f44882873dd2a6462d548b4f6f3ad692e025b104518ccfa9", checked := Tryd.checked }
namespace Rows
def none {H : Type} : Left H := { results := [], args := [] }

/- WHAT THE LISTED PACKAGE-LEVEL VARIABLES READ AS WHEN THE CALL BEGINS. Each datum BY PROGRAM (the guide's laid-datum.mjs) off the statement by which the dump's own 'gosem.cut.vars' lays the variable. In a bare row this is a premise. The card (YtciimncnodejaaaDoorCards.lean) ties it to the program's text. -/
def laid_leakresponse_notice_deadlines {H : Type} : DataW H := .agg [.lit (.int .i64 40), .lit (.int .i64 16), .lit (.int .i64 4), .lit (.int .i64 1)]

/-- 'leakresponselaw41.NoticeSteps': WHATEVER THE INPUT: true; the input reads as it did. -/
def noticeStepsSpec : ChangeSpec := { name := "noticeSteps", fn := fun _ => fun
  | [d] => { results := [.lit (.bool true)], args := [d] }
  | _ => none }
def noticeStepsRow : OpenClaim := { program := "ytciimncnodejaaadoor", sum := "da9b0d20f97b7c87f44882873dd2a6462d548b4f6f3ad692e025b104518ccfa9", func := "leakresponse/leakresponselaw41.NoticeSteps", spec := "noticeSteps", unfollowed := true, recurses := true, named := ["leakresponse/notice.deadlines"], apart := false, laid := [("leakresponse/notice.deadlines", laid_leakresponse_notice_deadlines)] }
def NoticeStepsSaid : Prop := noticeStepsRow.holds Tryd.pinned (OpenSpec.ofChange noticeStepsSpec)

/-- ITS FALSE NEIGHBOUR: 'it returns false'. Refute it at one input. -/
def noticeStepsWrong : ChangeSpec := { name := "noticeSteps", fn := fun _ => fun
  | [d] => { results := [.lit (.bool false)], args := [d] }
  | _ => none }
def NoticeStepsWrongFalsely : Prop := noticeStepsRow.holds Tryd.pinned (OpenSpec.ofChange noticeStepsWrong)

/-- 'leakresponselaw41.NoticeQuiet': WHATEVER THE INPUT: true; the input reads as it did. -/
def noticeQuietSpec : ChangeSpec := { name := "noticeQuiet", fn := fun _ => fun
  | [d] => { results := [.lit (.bool true)], args := [d] }
  | _ => none }
def noticeQuietRow : OpenClaim := { program := "ytciimncnodejaaadoor", sum := "da9b0d20f97b7c87f44882873dd2a6462d548b4f6f3ad692e025b104518ccfa9", func := "leakresponse/leakresponselaw41.NoticeQuiet", spec := "noticeQuiet", unfollowed := true, recurses := true, named := ["leakresponse/notice.deadlines"], apart := false, laid := [("leakresponse/notice.deadlines", laid_leakresponse_notice_deadlines)] }
def NoticeQuietSaid : Prop := noticeQuietRow.holds Tryd.pinned (OpenSpec.ofChange noticeQuietSpec)

/-- ITS FALSE NEIGHBOUR: 'it returns false'. Refute it at one input. -/
def noticeQuietWrong : ChangeSpec := { name := "noticeQuiet", fn := fun _ => fun
  | [d] => { results := [.lit (.bool false)], args := [d] }
  | _ => none }
def NoticeQuietWrongFalsely : Prop := noticeQuietRow.holds Tryd.pinned (OpenSpec.ofChange noticeQuietWrong)

/-- 'leakresponselaw41.NoticeUntil': WHATEVER THE INPUT: true; the input reads as it did. -/
def noticeUntilSpec : ChangeSpec := { name := "noticeUntil", fn := fun _ => fun
  | [d] => { results := [.lit (.bool true)], args := [d] }
  | _ => none }
def noticeUntilRow : OpenClaim := { program := "ytciimncnodejaaadoor", sum := "da9b0d20f97b7c87f44882873dd2a6462d548b4f6f3ad692e025b104518ccfa9", func := "leakresponse/leakresponselaw41.NoticeUntil", spec := "noticeUntil", unfollowed := true, recurses := true, named := ["leakresponse/notice.deadlines"], apart := false, laid := [("leakresponse/notice.deadlines", laid_leakresponse_notice_deadlines)] }
def NoticeUntilSaid : Prop := noticeUntilRow.holds Tryd.pinned (OpenSpec.ofChange noticeUntilSpec)

/-- ITS FALSE NEIGHBOUR: 'it returns false'. Refute it at one input. -/
def noticeUntilWrong : ChangeSpec := { name := "noticeUntil", fn := fun _ => fun
  | [d] => { results := [.lit (.bool false)], args := [d] }
  | _ => none }
def NoticeUntilWrongFalsely : Prop := noticeUntilRow.holds Tryd.pinned (OpenSpec.ofChange noticeUntilWrong)

/-- 'leakresponselaw41.NoticeApart': WHATEVER THE INPUT: true; the input reads as it did. -/
def noticeApartSpec : ChangeSpec := { name := "noticeApart", fn := fun _ => fun
  | [d] => { results := [.lit (.bool true)], args := [d] }
  | _ => none }
def noticeApartRow : OpenClaim := { program := "ytciimncnodejaaadoor", sum := "da9b0d20f97b7c87f44882873dd2a6462d548b4f6f3ad692e025b104518ccfa9", func := "leakresponse/leakresponselaw41.NoticeApart", spec := "noticeApart", unfollowed := true, recurses := true, named := ["leakresponse/notice.deadlines"], apart := false, laid := [("leakresponse/notice.deadlines", laid_leakresponse_notice_deadlines)] }
def NoticeApartSaid : Prop := noticeApartRow.holds Tryd.pinned (OpenSpec.ofChange noticeApartSpec)

/-- ITS FALSE NEIGHBOUR: 'it returns false'. Refute it at one input. -/
def noticeApartWrong : ChangeSpec := { name := "noticeApart", fn := fun _ => fun
  | [d] => { results := [.lit (.bool false)], args := [d] }
  | _ => none }
def NoticeApartWrongFalsely : Prop := noticeApartRow.holds Tryd.pinned (OpenSpec.ofChange noticeApartWrong)

/- THE SECOND FORM. 'bulk': how many values and letters a reading holds, each counted each time it is reached (what is shared counts as often as it is met; a slice's spare places count too). A statement '..UptoSaid' is the law's where the arguments, and the package variables that the reading takes, are together of bulk at most 1048576: NARROWER than '..Said'. Prove '..Said' where nothing that the law and all that it calls make is longer than what came in: it says more and counts as full. Else prove '..UptoSaid'. A law counts once. -/
mutual
def uptoBulk {H : Type} : DataW H → Nat
  | .lit (.string bytes) => bytes.length + 1
  | .lit _ => 1
  | .nil => 1
  | .ptr d => uptoBulk d + 1
  | .slice elems spare => uptoBulkAll elems + uptoBulkAll spare + 1
  | .agg parts => uptoBulkAll parts + 1
  | .iface _ d => uptoBulk d + 1
  | .map entries => uptoBulkEntries entries + 1
  | .held _ => 1
def uptoBulkAll {H : Type} : List (DataW H) → Nat
  | [] => 0
  | d :: r => uptoBulk d + uptoBulkAll r
def uptoBulkEntries {H : Type} : List (Lit × DataW H) → Nat
  | [] => 0
  | x :: r => uptoBulkEntry x + uptoBulkEntries r
def uptoBulkEntry {H : Type} : Lit × DataW H → Nat
  | (.string bytes, d) => bytes.length + uptoBulk d + 1
  | (_, d) => uptoBulk d + 1
 end
def uptoSmall : (H : Type) → List (DataW H) → Bool := fun _ ds => decide (uptoBulkAll ds ≤ 1048576)
def OpenSpec.upto (s : _root_.Go.ChangeSpec) : _root_.Go.OpenSpec := { _root_.Go.OpenSpec.ofChange s with cond := some uptoSmall }

/-- 'leakresponselaw41.NoticeSteps', WHERE WHAT IT READS IS OF BULK AT MOST 1048576: true; the input reads as it did. -/
def noticeStepsUptoRow : OpenClaim := { program := "ytciimncnodejaaadoor", sum := "da9b0d20f97b7c87f44882873dd2a6462d548b4f6f3ad692e025b104518ccfa9", func := "leakresponse/leakresponselaw41.NoticeSteps", spec := "noticeSteps", unfollowed := true, recurses := true, named := ["leakresponse/notice.deadlines"], apart := false, laid := [("leakresponse/notice.deadlines", laid_leakresponse_notice_deadlines)], narrowed := true }
def NoticeStepsUptoSaid : Prop := noticeStepsUptoRow.holds Tryd.pinned (OpenSpec.upto noticeStepsSpec)

/-- 'leakresponselaw41.NoticeQuiet', WHERE WHAT IT READS IS OF BULK AT MOST 1048576: true; the input reads as it did. -/
def noticeQuietUptoRow : OpenClaim := { program := "ytciimncnodejaaadoor", sum := "da9b0d20f97b7c87f44882873dd2a6462d548b4f6f3ad692e025b104518ccfa9", func := "leakresponse/leakresponselaw41.NoticeQuiet", spec := "noticeQuiet", unfollowed := true, recurses := true, named := ["leakresponse/notice.deadlines"], apart := false, laid := [("leakresponse/notice.deadlines", laid_leakresponse_notice_deadlines)], narrowed := true }
def NoticeQuietUptoSaid : Prop := noticeQuietUptoRow.holds Tryd.pinned (OpenSpec.upto noticeQuietSpec)

/-- 'leakresponselaw41.NoticeUntil', WHERE WHAT IT READS IS OF BULK AT MOST 1048576: true; the input reads as it did. -/
def noticeUntilUptoRow : OpenClaim := { program := "ytciimncnodejaaadoor", sum := "da9b0d20f97b7c87f44882873dd2a6462d548b4f6f3ad692e025b104518ccfa9", func := "leakresponse/leakresponselaw41.NoticeUntil", spec := "noticeUntil", unfollowed := true, recurses := true, named := ["leakresponse/notice.deadlines"], apart := false, laid := [("leakresponse/notice.deadlines", laid_leakresponse_notice_deadlines)], narrowed := true }
def NoticeUntilUptoSaid : Prop := noticeUntilUptoRow.holds Tryd.pinned (OpenSpec.upto noticeUntilSpec)

/-- 'leakresponselaw41.NoticeApart', WHERE WHAT IT READS IS OF BULK AT MOST 1048576: true; the input reads as it did. -/
def noticeApartUptoRow : OpenClaim := { program := "ytciimncnodejaaadoor", sum := "da9b0d20f97b7c87f44882873dd2a6462d548b4f6f3ad692e025b104518ccfa9", func := "leakresponse/leakresponselaw41.NoticeApart", spec := "noticeApart", unfollowed := true, recurses := true, named := ["leakresponse/notice.deadlines"], apart := false, laid := [("leakresponse/notice.deadlines", laid_leakresponse_notice_deadlines)], narrowed := true }
def NoticeApartUptoSaid : Prop := noticeApartUptoRow.holds Tryd.pinned (OpenSpec.upto noticeApartSpec)

end Rows
end Go.Proofs.YtciimncnodejaaaDoor
