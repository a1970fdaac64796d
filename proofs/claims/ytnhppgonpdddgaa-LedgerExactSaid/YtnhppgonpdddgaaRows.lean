/-
  No cell of these rows narrows 'for every input' (looked for: loops, veiled, ifaces, maps, wideKeys, modest, calm, conditions, laid).
  DERIVED. THE GIVEN ROWS OF THIS SEAT. 3 by the template 'for every input the law returns true; each argument reads behind the call as it read before'; 0 by the template 'total and deterministic' (their statements: YtnhppgonpdddgaaTotals.lean).
  GIVEN WITH THE SEED: the statements are not yours to turn. If you find one false, say at which input.
  Laid BY PROGRAM, IN A SANDBOX (cutbox-rows.mjs): the forced cells as the released guide's own fill.sh prints them over the translation 29927e4e697e64fa… (all of the seat's roots in one cut). By AI agents, Wed Nov 11 2026. No macro, syntax, notation, axiom, sorry.
-/
import Derived.Test.YtnhppgonpdddgaaChecked
import GoSem.Claim
import GoSem.ClaimJoined
import GoSem.ClaimMapViews
import Derived.JoinedTies
import Derived.KernelRfl
namespace Go.Proofs.Ytnhppgonpdddgaa
/- THE CELL 'sum', in the pinned program and in every row, IS THE sha256 OF THE DUMP (.gsa) THAT YtnhppgonpdddgaaProg.lean LOADS. Nothing in Lean hashes anything: it is a label: what it is worth is what the hold of that sum in a sandbox is worth. -/
noncomputable def Try.pinned : Pinned := { name := "ytnhppgonpdddgaa", sum := "29927e4e697e64fa28c3be7c0e3ac8dd7f452e76f6b89de8323c5c2a74cae58e", checked := Try.checked }
namespace Rows
def none {H : Type} : Left H := { results := [], args := [] }

/-- 'leakresponselaw02.EntropyOrder': WHATEVER THE INPUT: true; the input reads as it did. -/
def entropyOrderSpec : ChangeSpec := { name := "entropyOrder", fn := fun _ => fun
  | [d1, d2] => { results := [.lit (.bool true)], args := [d1, d2] }
  | _ => none }
def entropyOrderRow : OpenClaim := { program := "ytnhppgonpdddgaa", sum := "29927e4e697e64fa28c3be7c0e3ac8dd7f452e76f6b89de8323c5c2a74cae58e", func := "leakresponse/leakresponselaw02.EntropyOrder", spec := "entropyOrder", apart := false }
def EntropyOrderSaid : Prop := entropyOrderRow.holds Try.pinned (OpenSpec.ofChange entropyOrderSpec)

/-- ITS FALSE NEIGHBOUR: 'it returns false'. Refute it at one input. -/
def entropyOrderWrong : ChangeSpec := { name := "entropyOrder", fn := fun _ => fun
  | [d1, d2] => { results := [.lit (.bool false)], args := [d1, d2] }
  | _ => none }
def EntropyOrderWrongFalsely : Prop := entropyOrderRow.holds Try.pinned (OpenSpec.ofChange entropyOrderWrong)

/-- 'leakresponselaw42.LedgerLine': WHATEVER THE INPUT: true; the input reads as it did. -/
def ledgerLineSpec : ChangeSpec := { name := "ledgerLine", fn := fun _ => fun
  | [d] => { results := [.lit (.bool true)], args := [d] }
  | _ => none }
def ledgerLineRow : OpenClaim := { program := "ytnhppgonpdddgaa", sum := "29927e4e697e64fa28c3be7c0e3ac8dd7f452e76f6b89de8323c5c2a74cae58e", func := "leakresponse/leakresponselaw42.LedgerLine", spec := "ledgerLine", unfollowed := true, recurses := true, apart := false }
def LedgerLineSaid : Prop := ledgerLineRow.holds Try.pinned (OpenSpec.ofChange ledgerLineSpec)

/-- ITS FALSE NEIGHBOUR: 'it returns false'. Refute it at one input. -/
def ledgerLineWrong : ChangeSpec := { name := "ledgerLine", fn := fun _ => fun
  | [d] => { results := [.lit (.bool false)], args := [d] }
  | _ => none }
def LedgerLineWrongFalsely : Prop := ledgerLineRow.holds Try.pinned (OpenSpec.ofChange ledgerLineWrong)

/-- 'leakresponselaw42.LedgerExact': WHATEVER THE INPUT: true; the input reads as it did. -/
def ledgerExactSpec : ChangeSpec := { name := "ledgerExact", fn := fun _ => fun
  | [d1, d2, d3, d4, d5, d6, d7] => { results := [.lit (.bool true)], args := [d1, d2, d3, d4, d5, d6, d7] }
  | _ => none }
def ledgerExactRow : OpenClaim := { program := "ytnhppgonpdddgaa", sum := "29927e4e697e64fa28c3be7c0e3ac8dd7f452e76f6b89de8323c5c2a74cae58e", func := "leakresponse/leakresponselaw42.LedgerExact", spec := "ledgerExact", unfollowed := true, recurses := true, apart := false }
def LedgerExactSaid : Prop := ledgerExactRow.holds Try.pinned (OpenSpec.ofChange ledgerExactSpec)

/-- ITS FALSE NEIGHBOUR: 'it returns false'. Refute it at one input. -/
def ledgerExactWrong : ChangeSpec := { name := "ledgerExact", fn := fun _ => fun
  | [d1, d2, d3, d4, d5, d6, d7] => { results := [.lit (.bool false)], args := [d1, d2, d3, d4, d5, d6, d7] }
  | _ => none }
def LedgerExactWrongFalsely : Prop := ledgerExactRow.holds Try.pinned (OpenSpec.ofChange ledgerExactWrong)

/- THE SECOND FORM. 'bulk': how many values and letters a reading holds, each counted each time it is reached (what is shared counts as often as it is met; a slice's spare places count too). A statement '..UptoSaid' is the law's where the arguments, and the package variables that the reading takes, are together of bulk at most 1048576: NARROWER than '..Said'. Prove '..Said' where nothing that the law and all that it calls make is longer than what came in: it says more and counts as full. Else prove '..UptoSaid'. A law counts once. -/
mutual
def uptoBulk {H : Type} : DataW H → Nat
  | .lit (.string bytes) => bytes.length + 1
  | .lit _ => 1
  | .nil => 1
  | .ptr d => uptoBulk d + 1
  | .slice elems spare => uptoBulkAll elems + uptoBulkAll spare + 1
  | .agg parts => uptoBulkAll parts + 1
  | .iface _ d => uptoBulk d + 1
  | .map entries => uptoBulkEntries entries + 1
  | .held _ => 1
def uptoBulkAll {H : Type} : List (DataW H) → Nat
  | [] => 0
  | d :: r => uptoBulk d + uptoBulkAll r
def uptoBulkEntries {H : Type} : List (Lit × DataW H) → Nat
  | [] => 0
  | x :: r => uptoBulkEntry x + uptoBulkEntries r
def uptoBulkEntry {H : Type} : Lit × DataW H → Nat
  | (.string bytes, d) => bytes.length + uptoBulk d + 1
  | (_, d) => uptoBulk d + 1
 end
def uptoSmall : (H : Type) → List (DataW H) → Bool := fun _ ds => decide (uptoBulkAll ds ≤ 1048576)
def OpenSpec.upto (s : _root_.Go.ChangeSpec) : _root_.Go.OpenSpec := { _root_.Go.OpenSpec.ofChange s with cond := some uptoSmall }

/-- 'leakresponselaw02.EntropyOrder', WHERE WHAT IT READS IS OF BULK AT MOST 1048576: true; the input reads as it did. -/
def entropyOrderUptoRow : OpenClaim := { program := "ytnhppgonpdddgaa", sum := "29927e4e697e64fa28c3be7c0e3ac8dd7f452e76f6b89de8323c5c2a74cae58e", func := "leakresponse/leakresponselaw02.EntropyOrder", spec := "entropyOrder", apart := false, narrowed := true }
def EntropyOrderUptoSaid : Prop := entropyOrderUptoRow.holds Try.pinned (OpenSpec.upto entropyOrderSpec)

/-- 'leakresponselaw42.LedgerLine', WHERE WHAT IT READS IS OF BULK AT MOST 1048576: true; the input reads as it did. -/
def ledgerLineUptoRow : OpenClaim := { program := "ytnhppgonpdddgaa", sum := "29927e4e697e64fa28c3be7c0e3ac8dd7f452e76f6b89de8323c5c2a74cae58e", func := "leakresponse/leakresponselaw42.LedgerLine", spec := "ledgerLine", unfollowed := true, recurses := true, apart := false, narrowed := true }
def LedgerLineUptoSaid : Prop := ledgerLineUptoRow.holds Try.pinned (OpenSpec.upto ledgerLineSpec)

/-- 'leakresponselaw42.LedgerExact', WHERE WHAT IT READS IS OF BULK AT MOST 1048576: true; the input reads as it did. -/
def ledgerExactUptoRow : OpenClaim := { program := "ytnhppgonpdddgaa", sum := "29927e4e697e64fa28c3be7c0e3ac8dd7f452e76f6b89de8323c5c2a74cae58e", func := "leakresponse/leakresponselaw42.LedgerExact", spec := "ledgerExact", unfollowed := true, recurses := true, apart := false, narrowed := true }
def LedgerExactUptoSaid : Prop := ledgerExactUptoRow.holds Try.pinned (OpenSpec.upto ledgerExactSpec)

end Rows
end Go.Proofs.Ytnhppgonpdddgaa
