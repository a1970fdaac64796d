/-
  No cell of these rows narrows 'for every input' (looked for: loops, veiled, ifaces, maps, wideKeys, modest, calm, conditions, laid).
  DERIVED. THE GIVEN ROWS OF THIS SEAT. 5 by the template 'for every input the law returns true; each argument reads behind the call as it read before'; 0 by the template 'total and deterministic' (their statements: YtphnihphnboneaaTotals.lean).
  GIVEN WITH THE SEED: the statements are not yours to turn. If you find one false, say at which input.
  Laid BY PROGRAM, IN A SANDBOX (cutbox-rows.mjs): the forced cells as the released guide's own fill.sh prints them over the translation 2f8638bb0a1939e0… (all of the seat's roots in one cut). By AI agents, Wed Nov 11 2026. No macro, syntax, notation, axiom, sorry.
-/
import Derived.Test.YtphnihphnboneaaChecked
import GoSem.Claim
import GoSem.ClaimJoined
import GoSem.ClaimMapViews
import Derived.JoinedTies
import Derived.KernelRfl
namespace Go.Proofs.Ytphnihphnboneaa
/- THE CELL 'sum', in the pinned program and in every row, IS THE sha256 OF THE DUMP (.gsa) THAT YtphnihphnboneaaProg.lean LOADS. Nothing in Lean hashes anything: it is a label: what it is worth is what the hold of that sum in a sandbox is worth. -/
noncomputable def Try.pinned : Pinned := { name := "ytphnihphnboneaa", sum := "2f8638bb0a1939e0bfc2585e23a64cc1ad97fdcfceb0713020bc555f5d956291", checked := Try.checked }
namespace Rows
def none {H : Type} : Left H := { results := [], args := [] }

/-- 'leakresponselaw40.CalendarExact': WHATEVER THE INPUT: true; the input reads as it did. -/
def calendarExactSpec : ChangeSpec := { name := "calendarExact", fn := fun _ => fun
  | [d1, d2, d3, d4, d5] => { results := [.lit (.bool true)], args := [d1, d2, d3, d4, d5] }
  | _ => none }
def calendarExactRow : OpenClaim := { program := "ytphnihphnboneaa", sum := "2f8638bb0a1939e0bfc2585e23a64cc1ad97fdcfceb0713020bc555f5d956291", func := "leakresponse/leakresponselaw40.CalendarExact", spec := "calendarExact", apart := false }
def CalendarExactSaid : Prop := calendarExactRow.holds Try.pinned (OpenSpec.ofChange calendarExactSpec)

/-- ITS FALSE NEIGHBOUR: 'it returns false'. Refute it at one input. -/
def calendarExactWrong : ChangeSpec := { name := "calendarExact", fn := fun _ => fun
  | [d1, d2, d3, d4, d5] => { results := [.lit (.bool false)], args := [d1, d2, d3, d4, d5] }
  | _ => none }
def CalendarExactWrongFalsely : Prop := calendarExactRow.holds Try.pinned (OpenSpec.ofChange calendarExactWrong)

/-- 'leakresponselaw40.CalendarAdds': WHATEVER THE INPUT: true; the input reads as it did. -/
def calendarAddsSpec : ChangeSpec := { name := "calendarAdds", fn := fun _ => fun
  | [d] => { results := [.lit (.bool true)], args := [d] }
  | _ => none }
def calendarAddsRow : OpenClaim := { program := "ytphnihphnboneaa", sum := "2f8638bb0a1939e0bfc2585e23a64cc1ad97fdcfceb0713020bc555f5d956291", func := "leakresponse/leakresponselaw40.CalendarAdds", spec := "calendarAdds", apart := false }
def CalendarAddsSaid : Prop := calendarAddsRow.holds Try.pinned (OpenSpec.ofChange calendarAddsSpec)

/-- ITS FALSE NEIGHBOUR: 'it returns false'. Refute it at one input. -/
def calendarAddsWrong : ChangeSpec := { name := "calendarAdds", fn := fun _ => fun
  | [d] => { results := [.lit (.bool false)], args := [d] }
  | _ => none }
def CalendarAddsWrongFalsely : Prop := calendarAddsRow.holds Try.pinned (OpenSpec.ofChange calendarAddsWrong)

/-- 'leakresponselaw40.CalendarParts': WHATEVER THE INPUT: true; the input reads as it did. -/
def calendarPartsSpec : ChangeSpec := { name := "calendarParts", fn := fun _ => fun
  | [d] => { results := [.lit (.bool true)], args := [d] }
  | _ => none }
def calendarPartsRow : OpenClaim := { program := "ytphnihphnboneaa", sum := "2f8638bb0a1939e0bfc2585e23a64cc1ad97fdcfceb0713020bc555f5d956291", func := "leakresponse/leakresponselaw40.CalendarParts", spec := "calendarParts", apart := false }
def CalendarPartsSaid : Prop := calendarPartsRow.holds Try.pinned (OpenSpec.ofChange calendarPartsSpec)

/-- ITS FALSE NEIGHBOUR: 'it returns false'. Refute it at one input. -/
def calendarPartsWrong : ChangeSpec := { name := "calendarParts", fn := fun _ => fun
  | [d] => { results := [.lit (.bool false)], args := [d] }
  | _ => none }
def CalendarPartsWrongFalsely : Prop := calendarPartsRow.holds Try.pinned (OpenSpec.ofChange calendarPartsWrong)

/-- 'leakresponselaw40.CalendarNext': WHATEVER THE INPUT: true; the input reads as it did. -/
def calendarNextSpec : ChangeSpec := { name := "calendarNext", fn := fun _ => fun
  | [d] => { results := [.lit (.bool true)], args := [d] }
  | _ => none }
def calendarNextRow : OpenClaim := { program := "ytphnihphnboneaa", sum := "2f8638bb0a1939e0bfc2585e23a64cc1ad97fdcfceb0713020bc555f5d956291", func := "leakresponse/leakresponselaw40.CalendarNext", spec := "calendarNext", apart := false }
def CalendarNextSaid : Prop := calendarNextRow.holds Try.pinned (OpenSpec.ofChange calendarNextSpec)

/-- ITS FALSE NEIGHBOUR: 'it returns false'. Refute it at one input. -/
def calendarNextWrong : ChangeSpec := { name := "calendarNext", fn := fun _ => fun
  | [d] => { results := [.lit (.bool false)], args := [d] }
  | _ => none }
def CalendarNextWrongFalsely : Prop := calendarNextRow.holds Try.pinned (OpenSpec.ofChange calendarNextWrong)

/-- 'leakresponselaw40.CalendarHolidays': WHATEVER THE INPUT: true; the input reads as it did. -/
def calendarHolidaysSpec : ChangeSpec := { name := "calendarHolidays", fn := fun _ => fun
  | [d] => { results := [.lit (.bool true)], args := [d] }
  | _ => none }
def calendarHolidaysRow : OpenClaim := { program := "ytphnihphnboneaa", sum := "2f8638bb0a1939e0bfc2585e23a64cc1ad97fdcfceb0713020bc555f5d956291", func := "leakresponse/leakresponselaw40.CalendarHolidays", spec := "calendarHolidays", apart := false }
def CalendarHolidaysSaid : Prop := calendarHolidaysRow.holds Try.pinned (OpenSpec.ofChange calendarHolidaysSpec)

/-- ITS FALSE NEIGHBOUR: 'it returns false'. Refute it at one input. -/
def calendarHolidaysWrong : ChangeSpec := { name := "calendarHolidays", fn := fun _ => fun
  | [d] => { results := [.lit (.bool false)], args := [d] }
  | _ => none }
def CalendarHolidaysWrongFalsely : Prop := calendarHolidaysRow.holds Try.pinned (OpenSpec.ofChange calendarHolidaysWrong)

/- THE SECOND FORM. 'bulk': how many values and letters a reading holds, each counted each time it is reached (what is shared counts as often as it is met; a slice's spare places count too). A statement '..UptoSaid' is the law's where the arguments, and the package variables that the reading takes, are together of bulk at most 1048576: NARROWER than '..Said'. Prove '..Said' where nothing that the law and all that it calls make is longer than what came in: it says more and counts as full. Else prove '..UptoSaid'. A law counts once. -/
mutual
def uptoBulk {H : Type} : DataW H → Nat
  | .lit (.string bytes) => bytes.length + 1
  | .lit _ => 1
  | .nil => 1
  | .ptr d => uptoBulk d + 1
  | .slice elems spare => uptoBulkAll elems + uptoBulkAll spare + 1
  | .agg parts => uptoBulkAll parts + 1
  | .iface _ d => uptoBulk d + 1
  | .map entries => uptoBulkEntries entries + 1
  | .held _ => 1
def uptoBulkAll {H : Type} : List (DataW H) → Nat
  | [] => 0
  | d :: r => uptoBulk d + uptoBulkAll r
def uptoBulkEntries {H : Type} : List (Lit × DataW H) → Nat
  | [] => 0
  | x :: r => uptoBulkEntry x + uptoBulkEntries r
def uptoBulkEntry {H : Type} : Lit × DataW H → Nat
  | (.string bytes, d) => bytes.length + uptoBulk d + 1
  | (_, d) => uptoBulk d + 1
 end
def uptoSmall : (H : Type) → List (DataW H) → Bool := fun _ ds => decide (uptoBulkAll ds ≤ 1048576)
def OpenSpec.upto (s : _root_.Go.ChangeSpec) : _root_.Go.OpenSpec := { _root_.Go.OpenSpec.ofChange s with cond := some uptoSmall }

/-- 'leakresponselaw40.CalendarExact', WHERE WHAT IT READS IS OF BULK AT MOST 1048576: true; the input reads as it did. -/
def calendarExactUptoRow : OpenClaim := { program := "ytphnihphnboneaa", sum := "2f8638bb0a1939e0bfc2585e23a64cc1ad97fdcfceb0713020bc555f5d956291", func := "leakresponse/leakresponselaw40.CalendarExact", spec := "calendarExact", apart := false, narrowed := true }
def CalendarExactUptoSaid : Prop := calendarExactUptoRow.holds Try.pinned (OpenSpec.upto calendarExactSpec)

/-- 'leakresponselaw40.CalendarAdds', WHERE WHAT IT READS IS OF BULK AT MOST 1048576: true; the input reads as it did. -/
def calendarAddsUptoRow : OpenClaim := { program := "ytphnihphnboneaa", sum := "2f8638bb0a1939e0bfc2585e23a64cc1ad97fdcfceb0713020bc555f5d956291", func := "leakresponse/leakresponselaw40.CalendarAdds", spec := "calendarAdds", apart := false, narrowed := true }
def CalendarAddsUptoSaid : Prop := calendarAddsUptoRow.holds Try.pinned (OpenSpec.upto calendarAddsSpec)

/-- 'leakresponselaw40.CalendarParts', WHERE WHAT IT READS IS OF BULK AT MOST 1048576: true; the input reads as it did. -/
def calendarPartsUptoRow : OpenClaim := { program := "ytphnihphnboneaa", sum := "2f8638bb0a1939e0bfc2585e23a64cc1ad97fdcfceb0713020bc555f5d956291", func := "leakresponse/leakresponselaw40.CalendarParts", spec := "calendarParts", apart := false, narrowed := true }
def CalendarPartsUptoSaid : Prop := calendarPartsUptoRow.holds Try.pinned (OpenSpec.upto calendarPartsSpec)

/-- 'leakresponselaw40.CalendarNext', WHERE WHAT IT READS IS OF BULK AT MOST 1048576: true; the input reads as it did. -/
def calendarNextUptoRow : OpenClaim := { program := "ytphnihphnboneaa", sum := "2f8638bb0a1939e0bfc2585e23a64cc1ad97fdcfceb0713020bc555f5d956291", func := "leakresponse/leakresponselaw40.CalendarNext", spec := "calendarNext", apart := false, narrowed := true }
def CalendarNextUptoSaid : Prop := calendarNextUptoRow.holds Try.pinned (OpenSpec.upto calendarNextSpec)

/-- 'leakresponselaw40.CalendarHolidays', WHERE WHAT IT READS IS OF BULK AT MOST 1048576: true; the input reads as it did. -/
def calendarHolidaysUptoRow : OpenClaim := { program := "ytphnihphnboneaa", sum := "2f8638bb0a1939e0bfc2585e23a64cc1ad97fdcfceb0713020bc555f5d956291", func := "leakresponse/leakresponselaw40.CalendarHolidays", spec := "calendarHolidays", apart := false, narrowed := true }
def CalendarHolidaysUptoSaid : Prop := calendarHolidaysUptoRow.holds Try.pinned (OpenSpec.upto calendarHolidaysSpec)

end Rows
end Go.Proofs.Ytphnihphnboneaa
