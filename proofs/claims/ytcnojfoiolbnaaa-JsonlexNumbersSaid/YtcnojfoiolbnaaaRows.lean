/-
  No cell of these rows narrows 'for every input' (looked for: loops, veiled, ifaces, maps, wideKeys, modest, calm, conditions, laid).
  DERIVED. THE GIVEN ROWS OF THIS SEAT. 5 by the template 'for every input the law returns true; each argument reads behind the call as it read before'; 0 by the template 'total and deterministic' (their statements: YtcnojfoiolbnaaaTotals.lean).
  GIVEN WITH THE SEED: the statements are not yours to turn. If you find one false, say at which input.
  Laid BY PROGRAM, IN A SANDBOX (cutbox-rows.mjs): the forced cells as the released guide's own fill.sh prints them over the translation 401106ef0e477944… (all of the seat's roots in one cut). By AI agents, Wed Nov 11 2026. No macro, syntax, notation, axiom, sorry.
-/
import Derived.Test.YtcnojfoiolbnaaaChecked
import GoSem.Claim
import GoSem.ClaimJoined
import GoSem.ClaimMapViews
import Derived.JoinedTies
import Derived.KernelRfl
namespace Go.Proofs.Ytcnojfoiolbnaaa
/- THE CELL 'sum', in the pinned program and in every row, IS THE sha256 OF THE DUMP (.gsa) THAT YtcnojfoiolbnaaaProg.lean LOADS. Nothing in Lean hashes anything: it is a label: what it is worth is what the hold of that sum in a sandbox is worth. -/
noncomputable def Try.pinned : Pinned := { name := "ytcnojfoiolbnaaa", sum := "401106ef0e477944cb53fc423fe0f4e6ea5ad041341cf60d3f75e33695bcc828", checked := Try.checked }
namespace Rows
def none {H : Type} : Left H := { results := [], args := [] }

/-- 'ndjqlaw03.JsonlexNext': WHATEVER THE INPUT: true; the input reads as it did. -/
def jsonlexNextSpec : ChangeSpec := { name := "jsonlexNext", fn := fun _ => fun
  | [d1, d2, d3] => { results := [.lit (.bool true)], args := [d1, d2, d3] }
  | _ => none }
def jsonlexNextRow : OpenClaim := { program := "ytcnojfoiolbnaaa", sum := "401106ef0e477944cb53fc423fe0f4e6ea5ad041341cf60d3f75e33695bcc828", func := "ndjq/ndjqlaw03.JsonlexNext", spec := "jsonlexNext", apart := false }
def JsonlexNextSaid : Prop := jsonlexNextRow.holds Try.pinned (OpenSpec.ofChange jsonlexNextSpec)

/-- ITS FALSE NEIGHBOUR: 'it returns false'. Refute it at one input. -/
def jsonlexNextWrong : ChangeSpec := { name := "jsonlexNext", fn := fun _ => fun
  | [d1, d2, d3] => { results := [.lit (.bool false)], args := [d1, d2, d3] }
  | _ => none }
def JsonlexNextWrongFalsely : Prop := jsonlexNextRow.holds Try.pinned (OpenSpec.ofChange jsonlexNextWrong)

/-- 'ndjqlaw03.JsonlexStrings': WHATEVER THE INPUT: true; the input reads as it did. -/
def jsonlexStringsSpec : ChangeSpec := { name := "jsonlexStrings", fn := fun _ => fun
  | [d1, d2, d3] => { results := [.lit (.bool true)], args := [d1, d2, d3] }
  | _ => none }
def jsonlexStringsRow : OpenClaim := { program := "ytcnojfoiolbnaaa", sum := "401106ef0e477944cb53fc423fe0f4e6ea5ad041341cf60d3f75e33695bcc828", func := "ndjq/ndjqlaw03.JsonlexStrings", spec := "jsonlexStrings", apart := false }
def JsonlexStringsSaid : Prop := jsonlexStringsRow.holds Try.pinned (OpenSpec.ofChange jsonlexStringsSpec)

/-- ITS FALSE NEIGHBOUR: 'it returns false'. Refute it at one input. -/
def jsonlexStringsWrong : ChangeSpec := { name := "jsonlexStrings", fn := fun _ => fun
  | [d1, d2, d3] => { results := [.lit (.bool false)], args := [d1, d2, d3] }
  | _ => none }
def JsonlexStringsWrongFalsely : Prop := jsonlexStringsRow.holds Try.pinned (OpenSpec.ofChange jsonlexStringsWrong)

/-- 'ndjqlaw03.JsonlexNumbers': WHATEVER THE INPUT: true; the input reads as it did. -/
def jsonlexNumbersSpec : ChangeSpec := { name := "jsonlexNumbers", fn := fun _ => fun
  | [d] => { results := [.lit (.bool true)], args := [d] }
  | _ => none }
def jsonlexNumbersRow : OpenClaim := { program := "ytcnojfoiolbnaaa", sum := "401106ef0e477944cb53fc423fe0f4e6ea5ad041341cf60d3f75e33695bcc828", func := "ndjq/ndjqlaw03.JsonlexNumbers", spec := "jsonlexNumbers", recurses := true, apart := false }
def JsonlexNumbersSaid : Prop := jsonlexNumbersRow.holds Try.pinned (OpenSpec.ofChange jsonlexNumbersSpec)

/-- ITS FALSE NEIGHBOUR: 'it returns false'. Refute it at one input. -/
def jsonlexNumbersWrong : ChangeSpec := { name := "jsonlexNumbers", fn := fun _ => fun
  | [d] => { results := [.lit (.bool false)], args := [d] }
  | _ => none }
def JsonlexNumbersWrongFalsely : Prop := jsonlexNumbersRow.holds Try.pinned (OpenSpec.ofChange jsonlexNumbersWrong)

/-- 'ndjqlaw03.JsonlexCover': WHATEVER THE INPUT: true; the input reads as it did. -/
def jsonlexCoverSpec : ChangeSpec := { name := "jsonlexCover", fn := fun _ => fun
  | [d] => { results := [.lit (.bool true)], args := [d] }
  | _ => none }
def jsonlexCoverRow : OpenClaim := { program := "ytcnojfoiolbnaaa", sum := "401106ef0e477944cb53fc423fe0f4e6ea5ad041341cf60d3f75e33695bcc828", func := "ndjq/ndjqlaw03.JsonlexCover", spec := "jsonlexCover", apart := false }
def JsonlexCoverSaid : Prop := jsonlexCoverRow.holds Try.pinned (OpenSpec.ofChange jsonlexCoverSpec)

/-- ITS FALSE NEIGHBOUR: 'it returns false'. Refute it at one input. -/
def jsonlexCoverWrong : ChangeSpec := { name := "jsonlexCover", fn := fun _ => fun
  | [d] => { results := [.lit (.bool false)], args := [d] }
  | _ => none }
def JsonlexCoverWrongFalsely : Prop := jsonlexCoverRow.holds Try.pinned (OpenSpec.ofChange jsonlexCoverWrong)

/-- 'ndjqlaw03.JsonlexQuoted': WHATEVER THE INPUT: true; the input reads as it did. -/
def jsonlexQuotedSpec : ChangeSpec := { name := "jsonlexQuoted", fn := fun _ => fun
  | [d1, d2] => { results := [.lit (.bool true)], args := [d1, d2] }
  | _ => none }
def jsonlexQuotedRow : OpenClaim := { program := "ytcnojfoiolbnaaa", sum := "401106ef0e477944cb53fc423fe0f4e6ea5ad041341cf60d3f75e33695bcc828", func := "ndjq/ndjqlaw03.JsonlexQuoted", spec := "jsonlexQuoted", apart := false }
def JsonlexQuotedSaid : Prop := jsonlexQuotedRow.holds Try.pinned (OpenSpec.ofChange jsonlexQuotedSpec)

/-- ITS FALSE NEIGHBOUR: 'it returns false'. Refute it at one input. -/
def jsonlexQuotedWrong : ChangeSpec := { name := "jsonlexQuoted", fn := fun _ => fun
  | [d1, d2] => { results := [.lit (.bool false)], args := [d1, d2] }
  | _ => none }
def JsonlexQuotedWrongFalsely : Prop := jsonlexQuotedRow.holds Try.pinned (OpenSpec.ofChange jsonlexQuotedWrong)

/- THE SECOND FORM. 'bulk': how many values and letters a reading holds, each counted each time it is reached (what is shared counts as often as it is met; a slice's spare places count too). A statement '..UptoSaid' is the law's where the arguments, and the package variables that the reading takes, are together of bulk at most 1048576: NARROWER than '..Said'. Prove '..Said' where nothing that the law and all that it calls make is longer than what came in: it says more and counts as full. Else prove '..UptoSaid'. A law counts once. -/
mutual
def uptoBulk {H : Type} : DataW H → Nat
  | .lit (.string bytes) => bytes.length + 1
  | .lit _ => 1
  | .nil => 1
  | .ptr d => uptoBulk d + 1
  | .slice elems spare => uptoBulkAll elems + uptoBulkAll spare + 1
  | .agg parts => uptoBulkAll parts + 1
  | .iface _ d => uptoBulk d + 1
  | .map entries => uptoBulkEntries entries + 1
  | .held _ => 1
def uptoBulkAll {H : Type} : List (DataW H) → Nat
  | [] => 0
  | d :: r => uptoBulk d + uptoBulkAll r
def uptoBulkEntries {H : Type} : List (Lit × DataW H) → Nat
  | [] => 0
  | x :: r => uptoBulkEntry x + uptoBulkEntries r
def uptoBulkEntry {H : Type} : Lit × DataW H → Nat
  | (.string bytes, d) => bytes.length + uptoBulk d + 1
  | (_, d) => uptoBulk d + 1
 end
def uptoSmall : (H : Type) → List (DataW H) → Bool := fun _ ds => decide (uptoBulkAll ds ≤ 1048576)
def OpenSpec.upto (s : _root_.Go.ChangeSpec) : _root_.Go.OpenSpec := { _root_.Go.OpenSpec.ofChange s with cond := some uptoSmall }

/-- 'ndjqlaw03.JsonlexNext', WHERE WHAT IT READS IS OF BULK AT MOST 1048576: true; the input reads as it did. -/
def jsonlexNextUptoRow : OpenClaim := { program := "ytcnojfoiolbnaaa", sum := "401106ef0e477944cb53fc423fe0f4e6ea5ad041341cf60d3f75e33695bcc828", func := "ndjq/ndjqlaw03.JsonlexNext", spec := "jsonlexNext", apart := false, narrowed := true }
def JsonlexNextUptoSaid : Prop := jsonlexNextUptoRow.holds Try.pinned (OpenSpec.upto jsonlexNextSpec)

/-- 'ndjqlaw03.JsonlexStrings', WHERE WHAT IT READS IS OF BULK AT MOST 1048576: true; the input reads as it did. -/
def jsonlexStringsUptoRow : OpenClaim := { program := "ytcnojfoiolbnaaa", sum := "401106ef0e477944cb53fc423fe0f4e6ea5ad041341cf60d3f75e33695bcc828", func := "ndjq/ndjqlaw03.JsonlexStrings", spec := "jsonlexStrings", apart := false, narrowed := true }
def JsonlexStringsUptoSaid : Prop := jsonlexStringsUptoRow.holds Try.pinned (OpenSpec.upto jsonlexStringsSpec)

/-- 'ndjqlaw03.JsonlexNumbers', WHERE WHAT IT READS IS OF BULK AT MOST 1048576: true; the input reads as it did. -/
def jsonlexNumbersUptoRow : OpenClaim := { program := "ytcnojfoiolbnaaa", sum := "401106ef0e477944cb53fc423fe0f4e6ea5ad041341cf60d3f75e33695bcc828", func := "ndjq/ndjqlaw03.JsonlexNumbers", spec := "jsonlexNumbers", recurses := true, apart := false, narrowed := true }
def JsonlexNumbersUptoSaid : Prop := jsonlexNumbersUptoRow.holds Try.pinned (OpenSpec.upto jsonlexNumbersSpec)

/-- 'ndjqlaw03.JsonlexCover', WHERE WHAT IT READS IS OF BULK AT MOST 1048576: true; the input reads as it did. -/
def jsonlexCoverUptoRow : OpenClaim := { program := "ytcnojfoiolbnaaa", sum := "401106ef0e477944cb53fc423fe0f4e6ea5ad041341cf60d3f75e33695bcc828", func := "ndjq/ndjqlaw03.JsonlexCover", spec := "jsonlexCover", apart := false, narrowed := true }
def JsonlexCoverUptoSaid : Prop := jsonlexCoverUptoRow.holds Try.pinned (OpenSpec.upto jsonlexCoverSpec)

/-- 'ndjqlaw03.JsonlexQuoted', WHERE WHAT IT READS IS OF BULK AT MOST 1048576: true; the input reads as it did. -/
def jsonlexQuotedUptoRow : OpenClaim := { program := "ytcnojfoiolbnaaa", sum := "401106ef0e477944cb53fc423fe0f4e6ea5ad041341cf60d3f75e33695bcc828", func := "ndjq/ndjqlaw03.JsonlexQuoted", spec := "jsonlexQuoted", apart := false, narrowed := true }
def JsonlexQuotedUptoSaid : Prop := jsonlexQuotedUptoRow.holds Try.pinned (OpenSpec.upto jsonlexQuotedSpec)

end Rows
end Go.Proofs.Ytcnojfoiolbnaaa
