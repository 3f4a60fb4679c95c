/-
  NARROWER THAN 'FOR EVERY INPUT', by the rows' own cells (each row's printed sentence says how): SplitRecords: laid · SplitWhole: laid · SplitJoin: laid · SplitLimit: laid.
  DERIVED. THE GIVEN ROWS OF THIS SEAT. 4 by the template 'for every input the law returns true; each argument reads behind the call as it read before'; 0 by the template 'total and deterministic' (their statements: YtdnpefbnfkfloaaDoorTotals.lean).
  GIVEN WITH THE SEED: the statements are not yours to turn. If you find one false, say at which input.
  Laid BY PROGRAM, IN A SANDBOX (cutbox-rows.mjs): the forced cells as the released guide's own fill.sh prints them over the translation 6d3ddb677a361984… (all of the seat's roots in one cut). By AI agents, Wed Nov 11 2026. No macro, syntax, notation, axiom, sorry.
-/
import Derived.Test.YtdnpefbnfkfloaaDoorChecked
import GoSem.Claim
import GoSem.ClaimJoined
import GoSem.ClaimMapViews
import Derived.JoinedTies
import Derived.KernelRfl
namespace Go.Proofs.YtdnpefbnfkfloaaDoor
/- THE CELL 'sum', in the pinned program and in every row, IS THE sha256 OF THE DUMP (.gsa) THAT YtdnpefbnfkfloaaDoorProg.lean LOADS. Nothing in Lean hashes anything: it is a label: what it is worth is what the hold of that sum in a sandbox is worth. -/
noncomputable def Tryd.pinned : Pinned := { name := "ytdnpefbnfkfloaadoor", sum := "6d3ddb677a36198495f0efef5c7582b4554fa5387bb3e9fdade74d4bcff31557", checked := Tryd.checked }
namespace Rows
def none {H : Type} : Left H := { results := [], args := [] }

/- WHAT THE LISTED PACKAGE-LEVEL VARIABLES READ AS WHEN THE CALL BEGINS. Each datum BY PROGRAM (the guide's laid-datum.mjs) off the statement by which the dump's own 'gosem.cut.vars' lays the variable. In a bare row this is a premise. The card (YtdnpefbnfkfloaaDoorCards.lean) ties it to the program's text. -/
def laid_ndjq_automaton_moves {H : Type} : DataW H := .agg [.agg [.agg [.lit (.int .i64 0), .lit (.bool false)], .agg [.lit (.int .i64 1), .lit (.bool false)], .agg [.lit (.int .i64 0), .lit (.bool false)], .agg [.lit (.int .i64 0), .lit (.bool true)]], .agg [.agg [.lit (.int .i64 1), .lit (.bool false)], .agg [.lit (.int .i64 0), .lit (.bool false)], .agg [.lit (.int .i64 2), .lit (.bool false)], .agg [.lit (.int .i64 1), .lit (.bool false)]], .agg [.agg [.lit (.int .i64 1), .lit (.bool false)], .agg [.lit (.int .i64 1), .lit (.bool false)], .agg [.lit (.int .i64 1), .lit (.bool false)], .agg [.lit (.int .i64 1), .lit (.bool false)]]]

/-- 'ndjqlaw19.SplitRecords': WHATEVER THE INPUT: true; the input reads as it did. -/
def splitRecordsSpec : ChangeSpec := { name := "splitRecords", fn := fun _ => fun
  | [d] => { results := [.lit (.bool true)], args := [d] }
  | _ => none }
def splitRecordsRow : OpenClaim := { program := "ytdnpefbnfkfloaadoor", sum := "6d3ddb677a36198495f0efef5c7582b4554fa5387bb3e9fdade74d4bcff31557", func := "ndjq/ndjqlaw19.SplitRecords", spec := "splitRecords", named := ["ndjq/automaton.moves"], apart := false, laid := [("ndjq/automaton.moves", laid_ndjq_automaton_moves)] }
def SplitRecordsSaid : Prop := splitRecordsRow.holds Tryd.pinned (OpenSpec.ofChange splitRecordsSpec)

/-- ITS FALSE NEIGHBOUR: 'it returns false'. Refute it at one input. -/
def splitRecordsWrong : ChangeSpec := { name := "splitRecords", fn := fun _ => fun
  | [d] => { results := [.lit (.bool false)], args := [d] }
  | _ => none }
def SplitRecordsWrongFalsely : Prop := splitRecordsRow.holds Tryd.pinned (OpenSpec.ofChange splitRecordsWrong)

/-- 'ndjqlaw19.SplitWhole': WHATEVER THE INPUT: true; the input reads as it did. -/
def splitWholeSpec : ChangeSpec := { name := "splitWhole", fn := fun _ => fun
  | [d] => { results := [.lit (.bool true)], args := [d] }
  | _ => none }
def splitWholeRow : OpenClaim := { program := "ytdnpefbnfkfloaadoor", sum := "6d3ddb677a36198495f0efef5c7582b4554fa5387bb3e9fdade74d4bcff31557", func := "ndjq/ndjqlaw19.SplitWhole", spec := "splitWhole", named := ["ndjq/automaton.moves"], apart := false, laid := [("ndjq/automaton.moves", laid_ndjq_automaton_moves)] }
def SplitWholeSaid : Prop := splitWholeRow.holds Tryd.pinned (OpenSpec.ofChange splitWholeSpec)

/-- ITS FALSE NEIGHBOUR: 'it returns false'. Refute it at one input. -/
def splitWholeWrong : ChangeSpec := { name := "splitWhole", fn := fun _ => fun
  | [d] => { results := [.lit (.bool false)], args := [d] }
  | _ => none }
def SplitWholeWrongFalsely : Prop := splitWholeRow.holds Tryd.pinned (OpenSpec.ofChange splitWholeWrong)

/-- 'ndjqlaw19.SplitJoin': WHATEVER THE INPUT: true; the input reads as it did. -/
def splitJoinSpec : ChangeSpec := { name := "splitJoin", fn := fun _ => fun
  | [d] => { results := [.lit (.bool true)], args := [d] }
  | _ => none }
def splitJoinRow : OpenClaim := { program := "ytdnpefbnfkfloaadoor", sum := "6d3ddb677a36198495f0efef5c7582b4554fa5387bb3e9fdade74d4bcff31557", func := "ndjq/ndjqlaw19.SplitJoin", spec := "splitJoin", named := ["ndjq/automaton.moves"], apart := false, laid := [("ndjq/automaton.moves", laid_ndjq_automaton_moves)] }
def SplitJoinSaid : Prop := splitJoinRow.holds Tryd.pinned (OpenSpec.ofChange splitJoinSpec)

/-- ITS FALSE NEIGHBOUR: 'it returns false'. Refute it at one input. -/
def splitJoinWrong : ChangeSpec := { name := "splitJoin", fn := fun _ => fun
  | [d] => { results := [.lit (.bool false)], args := [d] }
  | _ => none }
def SplitJoinWrongFalsely : Prop := splitJoinRow.holds Tryd.pinned (OpenSpec.ofChange splitJoinWrong)

/-- 'ndjqlaw19.SplitLimit': WHATEVER THE INPUT: true; the input reads as it did. -/
def splitLimitSpec : ChangeSpec := { name := "splitLimit", fn := fun _ => fun
  | [d] => { results := [.lit (.bool true)], args := [d] }
  | _ => none }
def splitLimitRow : OpenClaim := { program := "ytdnpefbnfkfloaadoor", sum := "6d3ddb677a36198495f0efef5c7582b4554fa5387bb3e9fdade74d4bcff31557", func := "ndjq/ndjqlaw19.SplitLimit", spec := "splitLimit", named := ["ndjq/automaton.moves"], apart := false, laid := [("ndjq/automaton.moves", laid_ndjq_automaton_moves)] }
def SplitLimitSaid : Prop := splitLimitRow.holds Tryd.pinned (OpenSpec.ofChange splitLimitSpec)

/-- ITS FALSE NEIGHBOUR: 'it returns false'. Refute it at one input. -/
def splitLimitWrong : ChangeSpec := { name := "splitLimit", fn := fun _ => fun
  | [d] => { results := [.lit (.bool false)], args := [d] }
  | _ => none }
def SplitLimitWrongFalsely : Prop := splitLimitRow.holds Tryd.pinned (OpenSpec.ofChange splitLimitWrong)

/- THE SECOND FORM. 'bulk': how many values and letters a reading holds, each counted each time it is reached (what is shared counts as often as it is met; a slice's spare places count too). A statement '..UptoSaid' is the law's where the arguments, and the package variables that the reading takes, are together of bulk at most 1048576: NARROWER than '..Said'. Prove '..Said' where nothing that the law and all that it calls make is longer than what came in: it says more and counts as full. Else prove '..UptoSaid'. A law counts once. -/
mutual
def uptoBulk {H : Type} : DataW H → Nat
  | .lit (.string bytes) => bytes.length + 1
  | .lit _ => 1
  | .nil => 1
  | .ptr d => uptoBulk d + 1
  | .slice elems spare => uptoBulkAll elems + uptoBulkAll spare + 1
  | .agg parts => uptoBulkAll parts + 1
  | .iface _ d => uptoBulk d + 1
  | .map entries => uptoBulkEntries entries + 1
  | .held _ => 1
def uptoBulkAll {H : Type} : List (DataW H) → Nat
  | [] => 0
  | d :: r => uptoBulk d + uptoBulkAll r
def uptoBulkEntries {H : Type} : List (Lit × DataW H) → Nat
  | [] => 0
  | x :: r => uptoBulkEntry x + uptoBulkEntries r
def uptoBulkEntry {H : Type} : Lit × DataW H → Nat
  | (.string bytes, d) => bytes.length + uptoBulk d + 1
  | (_, d) => uptoBulk d + 1
 end
def uptoSmall : (H : Type) → List (DataW H) → Bool := fun _ ds => decide (uptoBulkAll ds ≤ 1048576)
def OpenSpec.upto (s : _root_.Go.ChangeSpec) : _root_.Go.OpenSpec := { _root_.Go.OpenSpec.ofChange s with cond := some uptoSmall }

/-- 'ndjqlaw19.SplitRecords', WHERE WHAT IT READS IS OF BULK AT MOST 1048576: true; the input reads as it did. -/
def splitRecordsUptoRow : OpenClaim := { program := "ytdnpefbnfkfloaadoor", sum := "6d3ddb677a36198495f0efef5c7582b4554fa5387bb3e9fdade74d4bcff31557", func := "ndjq/ndjqlaw19.SplitRecords", spec := "splitRecords", named := ["ndjq/automaton.moves"], apart := false, laid := [("ndjq/automaton.moves", laid_ndjq_automaton_moves)], narrowed := true }
def SplitRecordsUptoSaid : Prop := splitRecordsUptoRow.holds Tryd.pinned (OpenSpec.upto splitRecordsSpec)

/-- 'ndjqlaw19.SplitWhole', WHERE WHAT IT READS IS OF BULK AT MOST 1048576: true; the input reads as it did. -/
def splitWholeUptoRow : OpenClaim := { program := "ytdnpefbnfkfloaadoor", sum := "6d3ddb677a36198495f0efef5c7582b4554fa5387bb3e9fdade74d4bcff31557", func := "ndjq/ndjqlaw19.SplitWhole", spec := "splitWhole", named := ["ndjq/automaton.moves"], apart := false, laid := [("ndjq/automaton.moves", laid_ndjq_automaton_moves)], narrowed := true }
def SplitWholeUptoSaid : Prop := splitWholeUptoRow.holds Tryd.pinned (OpenSpec.upto splitWholeSpec)

/-- 'ndjqlaw19.SplitJoin', WHERE WHAT IT READS IS OF BULK AT MOST 1048576: true; the input reads as it did. -/
def splitJoinUptoRow : OpenClaim := { program := "ytdnpefbnfkfloaadoor", sum := "6d3ddb677a36198495f0efef5c7582b4554fa5387bb3e9fdade74d4bcff31557", func := "ndjq/ndjqlaw19.SplitJoin", spec := "splitJoin", named := ["ndjq/automaton.moves"], apart := false, laid := [("ndjq/automaton.moves", laid_ndjq_automaton_moves)], narrowed := true }
def SplitJoinUptoSaid : Prop := splitJoinUptoRow.holds Tryd.pinned (OpenSpec.upto splitJoinSpec)

/-- 'ndjqlaw19.SplitLimit', WHERE WHAT IT READS IS OF BULK AT MOST 1048576: true; the input reads as it did. -/
def splitLimitUptoRow : OpenClaim := { program := "ytdnpefbnfkfloaadoor", sum := "6d3ddb677a36198495f0efef5c7582b4554fa5387bb3e9fdade74d4bcff31557", func := "ndjq/ndjqlaw19.SplitLimit", spec := "splitLimit", named := ["ndjq/automaton.moves"], apart := false, laid := [("ndjq/automaton.moves", laid_ndjq_automaton_moves)], narrowed := true }
def SplitLimitUptoSaid : Prop := splitLimitUptoRow.holds Tryd.pinned (OpenSpec.upto splitLimitSpec)

end Rows
end Go.Proofs.YtdnpefbnfkfloaaDoor
