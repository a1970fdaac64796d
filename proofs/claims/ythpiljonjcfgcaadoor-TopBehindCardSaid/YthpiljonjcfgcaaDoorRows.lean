/-
  NARROWER THAN 'FOR EVERY INPUT', by the rows' own cells (each row's printed sentence says how): TopBehind: laid.
  DERIVED. THE GIVEN ROWS OF THIS SEAT. 1 by the template 'for every input the law returns true; each argument reads behind the call as it read before'; 0 by the template 'total and deterministic' (their statements: YthpiljonjcfgcaaDoorTotals.lean).
  GIVEN WITH THE SEED: the statements are not yours to turn. If you find one false, say at which input.
  Laid BY PROGRAM, IN A SANDBOX (cutbox-rows.mjs): the forced cells as the released guide's own fill.sh prints them over the translation 8a797846c7ad25e5… (all of the seat's roots in one cut). By AI agents, Wed Nov 11 2026. No macro, syntax, notation, axiom, sorry.
-/
import Derived.Test.YthpiljonjcfgcaaDoorChecked
import GoSem.Claim
import GoSem.ClaimJoined
import GoSem.ClaimMapViews
import Derived.JoinedTies
import Derived.KernelRfl
namespace Go.Proofs.YthpiljonjcfgcaaDoor
/- THE CELL 'sum', in the pinned program and in every row, IS THE sha256 OF THE DUMP (.gsa) THAT YthpiljonjcfgcaaDoorProg.lean LOADS. Nothing in Lean hashes anything: it is a label: what it is worth is what the hold of that sum in a sandbox is worth. -/
noncomputable def Tryd.pinned : Pinned := { name := "ythpiljonjcfgcaadoor", sum := "8a797846c7ad25e589be58935a649577889376a813be4e33e62b29815589f52f", checked := Tryd.checked }
namespace Rows
def none {H : Type} : Left H := { results := [], args := [] }

/- WHAT THE LISTED PACKAGE-LEVEL VARIABLES READ AS WHEN THE CALL BEGINS. Each datum BY PROGRAM (the guide's laid-datum.mjs) off the statement by which the dump's own 'gosem.cut.vars' lays the variable. In a bare row this is a premise. The card (YthpiljonjcfgcaaDoorCards.lean) ties it to the program's text. -/
def laid_leakresponse_severity_levels {H : Type} : DataW H := .agg [.lit (.int .i64 1), .lit (.int .i64 100), .lit (.int .i64 1000), .lit (.int .i64 10000)]

/-- 'leakresponsetop.TopBehind': WHATEVER THE INPUT: true; the input reads as it did. -/
def topBehindSpec : ChangeSpec := { name := "topBehind", fn := fun _ => fun
  | [d] => { results := [.lit (.bool true)], args := [d] }
  | _ => none }
def topBehindRow : OpenClaim := { program := "ythpiljonjcfgcaadoor", sum := "8a797846c7ad25e589be58935a649577889376a813be4e33e62b29815589f52f", func := "leakresponse/leakresponsetop.TopBehind", spec := "topBehind", unfollowed := true, recurses := true, named := ["leakresponse/severity.levels"], apart := false, laid := [("leakresponse/severity.levels", laid_leakresponse_severity_levels)] }
def TopBehindSaid : Prop := topBehindRow.holds Tryd.pinned (OpenSpec.ofChange topBehindSpec)

/-- ITS FALSE NEIGHBOUR: 'it returns false'. Refute it at one input. -/
def topBehindWrong : ChangeSpec := { name := "topBehind", fn := fun _ => fun
  | [d] => { results := [.lit (.bool false)], args := [d] }
  | _ => none }
def TopBehindWrongFalsely : Prop := topBehindRow.holds Tryd.pinned (OpenSpec.ofChange topBehindWrong)

/- THE SECOND FORM. 'bulk': how many values and letters a reading holds, each counted each time it is reached (what is shared counts as often as it is met; a slice's spare places count too). A statement '..UptoSaid' is the law's where the arguments, and the package variables that the reading takes, are together of bulk at most 1048576: NARROWER than '..Said'. Prove '..Said' where nothing that the law and all that it calls make is longer than what came in: it says more and counts as full. Else prove '..UptoSaid'. A law counts once. -/
mutual
def uptoBulk {H : Type} : DataW H → Nat
  | .lit (.string bytes) => bytes.length + 1
  | .lit _ => 1
  | .nil => 1
  | .ptr d => uptoBulk d + 1
  | .slice elems spare => uptoBulkAll elems + uptoBulkAll spare + 1
  | .agg parts => uptoBulkAll parts + 1
  | .iface _ d => uptoBulk d + 1
  | .map entries => uptoBulkEntries entries + 1
  | .held _ => 1
def uptoBulkAll {H : Type} : List (DataW H) → Nat
  | [] => 0
  | d :: r => uptoBulk d + uptoBulkAll r
def uptoBulkEntries {H : Type} : List (Lit × DataW H) → Nat
  | [] => 0
  | x :: r => uptoBulkEntry x + uptoBulkEntries r
def uptoBulkEntry {H : Type} : Lit × DataW H → Nat
  | (.string bytes, d) => bytes.length + uptoBulk d + 1
  | (_, d) => uptoBulk d + 1
 end
def uptoSmall : (H : Type) → List (DataW H) → Bool := fun _ ds => decide (uptoBulkAll ds ≤ 1048576)
def OpenSpec.upto (s : _root_.Go.ChangeSpec) : _root_.Go.OpenSpec := { _root_.Go.OpenSpec.ofChange s with cond := some uptoSmall }

/-- 'leakresponsetop.TopBehind', WHERE WHAT IT READS IS OF BULK AT MOST 1048576: true; the input reads as it did. -/
def topBehindUptoRow : OpenClaim := { program := "ythpiljonjcfgcaadoor", sum := "8a797846c7ad25e589be58935a649577889376a813be4e33e62b29815589f52f", func := "leakresponse/leakresponsetop.TopBehind", spec := "topBehind", unfollowed := true, recurses := true, named := ["leakresponse/severity.levels"], apart := false, laid := [("leakresponse/severity.levels", laid_leakresponse_severity_levels)], narrowed := true }
def TopBehindUptoSaid : Prop := topBehindUptoRow.holds Tryd.pinned (OpenSpec.upto topBehindSpec)

end Rows
end Go.Proofs.YthpiljonjcfgcaaDoor
