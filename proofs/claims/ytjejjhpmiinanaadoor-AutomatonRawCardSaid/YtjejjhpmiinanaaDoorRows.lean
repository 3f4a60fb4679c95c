/-
  NARROWER THAN 'FOR EVERY INPUT', by the rows' own cells (each row's printed sentence says how): AutomatonStep: laid · AutomatonQuotes: laid · AutomatonBytes: laid · AutomatonConcat: laid · AutomatonMonoid: laid · AutomatonRaw: laid.
  DERIVED. THE GIVEN ROWS OF THIS SEAT. 6 by the template 'for every input the law returns true; each argument reads behind the call as it read before'; 0 by the template 'total and deterministic' (their statements: YtjejjhpmiinanaaDoorTotals.lean).
  GIVEN WITH THE SEED: the statements are not yours to turn. If you find one false, say at which input.
  Laid BY PROGRAM, IN A SANDBOX (cutbox-rows.mjs): the forced cells as the released guide's own fill.sh prints them over the translation 76bd63fdc85c8732… (all of the seat's roots in one cut). By AI agents, Wed Nov 11 2026. No macro, syntax, notation, axiom, sorry.
-/
import Derived.Test.YtjejjhpmiinanaaDoorChecked
import GoSem.Claim
import GoSem.ClaimJoined
import GoSem.ClaimMapViews
import Derived.JoinedTies
import Derived.KernelRfl
namespace Go.Proofs.YtjejjhpmiinanaaDoor
/- THE CELL 'sum', in the pinned program and in every row, IS THE sha256 OF THE DUMP (.gsa) THAT YtjejjhpmiinanaaDoorProg.lean LOADS. Nothing in Lean hashes anything: it is a label: what it is worth is what the hold of that sum in a sandbox is worth. -/
noncomputable def Tryd.pinned : Pinned := { name := "ytjejjhpmiinanaadoor", sum := "76bd63fdc85c8732ce0cfe24ebbb0cedb827a94a9ce120aab484dc993d983509", checked := Tryd.checked }
namespace Rows
def none {H : Type} : Left H := { results := [], args := [] }

/- WHAT THE LISTED PACKAGE-LEVEL VARIABLES READ AS WHEN THE CALL BEGINS. Each datum BY PROGRAM (the guide's laid-datum.mjs) off the statement by which the dump's own 'gosem.cut.vars' lays the variable. In a bare row this is a premise. The card (YtjejjhpmiinanaaDoorCards.lean) ties it to the program's text. -/
def laid_ndjq_automaton_moves {H : Type} : DataW H := .agg [.agg [.agg [.lit (.int .i64 0), .lit (.bool false)], .agg [.lit (.int .i64 1), .lit (.bool false)], .agg [.lit (.int .i64 0), .lit (.bool false)], .agg [.lit (.int .i64 0), .lit (.bool true)]], .agg [.agg [.lit (.int .i64 1), .lit (.bool false)], .agg [.lit (.int .i64 0), .lit (.bool false)], .agg [.lit (.int .i64 2), .lit (.bool false)], .agg [.lit (.int .i64 1), .lit (.bool false)]], .agg [.agg [.lit (.int .i64 1), .lit (.bool false)], .agg [.lit (.int .i64 1), .lit (.bool false)], .agg [.lit (.int .i64 1), .lit (.bool false)], .agg [.lit (.int .i64 1), .lit (.bool false)]]]

/-- 'ndjqlaw18.AutomatonStep': WHATEVER THE INPUT: true; the input reads as it did. -/
def automatonStepSpec : ChangeSpec := { name := "automatonStep", fn := fun _ => fun
  | [d1, d2, d3] => { results := [.lit (.bool true)], args := [d1, d2, d3] }
  | _ => none }
def automatonStepRow : OpenClaim := { program := "ytjejjhpmiinanaadoor", sum := "76bd63fdc85c8732ce0cfe24ebbb0cedb827a94a9ce120aab484dc993d983509", func := "ndjq/ndjqlaw18.AutomatonStep", spec := "automatonStep", named := ["ndjq/automaton.moves"], apart := false, laid := [("ndjq/automaton.moves", laid_ndjq_automaton_moves)] }
def AutomatonStepSaid : Prop := automatonStepRow.holds Tryd.pinned (OpenSpec.ofChange automatonStepSpec)

/-- ITS FALSE NEIGHBOUR: 'it returns false'. Refute it at one input. -/
def automatonStepWrong : ChangeSpec := { name := "automatonStep", fn := fun _ => fun
  | [d1, d2, d3] => { results := [.lit (.bool false)], args := [d1, d2, d3] }
  | _ => none }
def AutomatonStepWrongFalsely : Prop := automatonStepRow.holds Tryd.pinned (OpenSpec.ofChange automatonStepWrong)

/-- 'ndjqlaw18.AutomatonQuotes': WHATEVER THE INPUT: true; the input reads as it did. -/
def automatonQuotesSpec : ChangeSpec := { name := "automatonQuotes", fn := fun _ => fun
  | [d] => { results := [.lit (.bool true)], args := [d] }
  | _ => none }
def automatonQuotesRow : OpenClaim := { program := "ytjejjhpmiinanaadoor", sum := "76bd63fdc85c8732ce0cfe24ebbb0cedb827a94a9ce120aab484dc993d983509", func := "ndjq/ndjqlaw18.AutomatonQuotes", spec := "automatonQuotes", named := ["ndjq/automaton.moves"], apart := false, laid := [("ndjq/automaton.moves", laid_ndjq_automaton_moves)] }
def AutomatonQuotesSaid : Prop := automatonQuotesRow.holds Tryd.pinned (OpenSpec.ofChange automatonQuotesSpec)

/-- ITS FALSE NEIGHBOUR: 'it returns false'. Refute it at one input. -/
def automatonQuotesWrong : ChangeSpec := { name := "automatonQuotes", fn := fun _ => fun
  | [d] => { results := [.lit (.bool false)], args := [d] }
  | _ => none }
def AutomatonQuotesWrongFalsely : Prop := automatonQuotesRow.holds Tryd.pinned (OpenSpec.ofChange automatonQuotesWrong)

/-- 'ndjqlaw18.AutomatonBytes': WHATEVER THE INPUT: true; the input reads as it did. -/
def automatonBytesSpec : ChangeSpec := { name := "automatonBytes", fn := fun _ => fun
  | [d1, d2] => { results := [.lit (.bool true)], args := [d1, d2] }
  | _ => none }
def automatonBytesRow : OpenClaim := { program := "ytjejjhpmiinanaadoor", sum := "76bd63fdc85c8732ce0cfe24ebbb0cedb827a94a9ce120aab484dc993d983509", func := "ndjq/ndjqlaw18.AutomatonBytes", spec := "automatonBytes", named := ["ndjq/automaton.moves"], apart := false, laid := [("ndjq/automaton.moves", laid_ndjq_automaton_moves)] }
def AutomatonBytesSaid : Prop := automatonBytesRow.holds Tryd.pinned (OpenSpec.ofChange automatonBytesSpec)

/-- ITS FALSE NEIGHBOUR: 'it returns false'. Refute it at one input. -/
def automatonBytesWrong : ChangeSpec := { name := "automatonBytes", fn := fun _ => fun
  | [d1, d2] => { results := [.lit (.bool false)], args := [d1, d2] }
  | _ => none }
def AutomatonBytesWrongFalsely : Prop := automatonBytesRow.holds Tryd.pinned (OpenSpec.ofChange automatonBytesWrong)

/-- 'ndjqlaw18.AutomatonConcat': WHATEVER THE INPUT: true; the input reads as it did. -/
def automatonConcatSpec : ChangeSpec := { name := "automatonConcat", fn := fun _ => fun
  | [d1, d2] => { results := [.lit (.bool true)], args := [d1, d2] }
  | _ => none }
def automatonConcatRow : OpenClaim := { program := "ytjejjhpmiinanaadoor", sum := "76bd63fdc85c8732ce0cfe24ebbb0cedb827a94a9ce120aab484dc993d983509", func := "ndjq/ndjqlaw18.AutomatonConcat", spec := "automatonConcat", named := ["ndjq/automaton.moves"], apart := false, laid := [("ndjq/automaton.moves", laid_ndjq_automaton_moves)] }
def AutomatonConcatSaid : Prop := automatonConcatRow.holds Tryd.pinned (OpenSpec.ofChange automatonConcatSpec)

/-- ITS FALSE NEIGHBOUR: 'it returns false'. Refute it at one input. -/
def automatonConcatWrong : ChangeSpec := { name := "automatonConcat", fn := fun _ => fun
  | [d1, d2] => { results := [.lit (.bool false)], args := [d1, d2] }
  | _ => none }
def AutomatonConcatWrongFalsely : Prop := automatonConcatRow.holds Tryd.pinned (OpenSpec.ofChange automatonConcatWrong)

/-- 'ndjqlaw18.AutomatonMonoid': WHATEVER THE INPUT: true; the input reads as it did. -/
def automatonMonoidSpec : ChangeSpec := { name := "automatonMonoid", fn := fun _ => fun
  | [d1, d2, d3] => { results := [.lit (.bool true)], args := [d1, d2, d3] }
  | _ => none }
def automatonMonoidRow : OpenClaim := { program := "ytjejjhpmiinanaadoor", sum := "76bd63fdc85c8732ce0cfe24ebbb0cedb827a94a9ce120aab484dc993d983509", func := "ndjq/ndjqlaw18.AutomatonMonoid", spec := "automatonMonoid", named := ["ndjq/automaton.moves"], apart := false, laid := [("ndjq/automaton.moves", laid_ndjq_automaton_moves)] }
def AutomatonMonoidSaid : Prop := automatonMonoidRow.holds Tryd.pinned (OpenSpec.ofChange automatonMonoidSpec)

/-- ITS FALSE NEIGHBOUR: 'it returns false'. Refute it at one input. -/
def automatonMonoidWrong : ChangeSpec := { name := "automatonMonoid", fn := fun _ => fun
  | [d1, d2, d3] => { results := [.lit (.bool false)], args := [d1, d2, d3] }
  | _ => none }
def AutomatonMonoidWrongFalsely : Prop := automatonMonoidRow.holds Tryd.pinned (OpenSpec.ofChange automatonMonoidWrong)

/-- 'ndjqlaw18.AutomatonRaw': WHATEVER THE INPUT: true; the input reads as it did. -/
def automatonRawSpec : ChangeSpec := { name := "automatonRaw", fn := fun _ => fun
  | [d] => { results := [.lit (.bool true)], args := [d] }
  | _ => none }
def automatonRawRow : OpenClaim := { program := "ytjejjhpmiinanaadoor", sum := "76bd63fdc85c8732ce0cfe24ebbb0cedb827a94a9ce120aab484dc993d983509", func := "ndjq/ndjqlaw18.AutomatonRaw", spec := "automatonRaw", named := ["ndjq/automaton.moves"], apart := false, laid := [("ndjq/automaton.moves", laid_ndjq_automaton_moves)] }
def AutomatonRawSaid : Prop := automatonRawRow.holds Tryd.pinned (OpenSpec.ofChange automatonRawSpec)

/-- ITS FALSE NEIGHBOUR: 'it returns false'. Refute it at one input. -/
def automatonRawWrong : ChangeSpec := { name := "automatonRaw", fn := fun _ => fun
  | [d] => { results := [.lit (.bool false)], args := [d] }
  | _ => none }
def AutomatonRawWrongFalsely : Prop := automatonRawRow.holds Tryd.pinned (OpenSpec.ofChange automatonRawWrong)

/- THE SECOND FORM. 'bulk': how many values and letters a reading holds, each counted each time it is reached (what is shared counts as often as it is met; a slice's spare places count too). A statement '..UptoSaid' is the law's where the arguments, and the package variables that the reading takes, are together of bulk at most 1048576: NARROWER than '..Said'. Prove '..Said' where nothing that the law and all that it calls make is longer than what came in: it says more and counts as full. Else prove '..UptoSaid'. A law counts once. -/
mutual
def uptoBulk {H : Type} : DataW H → Nat
  | .lit (.string bytes) => bytes.length + 1
  | .lit _ => 1
  | .nil => 1
  | .ptr d => uptoBulk d + 1
  | .slice elems spare => uptoBulkAll elems + uptoBulkAll spare + 1
  | .agg parts => uptoBulkAll parts + 1
  | .iface _ d => uptoBulk d + 1
  | .map entries => uptoBulkEntries entries + 1
  | .held _ => 1
def uptoBulkAll {H : Type} : List (DataW H) → Nat
  | [] => 0
  | d :: r => uptoBulk d + uptoBulkAll r
def uptoBulkEntries {H : Type} : List (Lit × DataW H) → Nat
  | [] => 0
  | x :: r => uptoBulkEntry x + uptoBulkEntries r
def uptoBulkEntry {H : Type} : Lit × DataW H → Nat
  | (.string bytes, d) => bytes.length + uptoBulk d + 1
  | (_, d) => uptoBulk d + 1
 end
def uptoSmall : (H : Type) → List (DataW H) → Bool := fun _ ds => decide (uptoBulkAll ds ≤ 1048576)
def OpenSpec.upto (s : _root_.Go.ChangeSpec) : _root_.Go.OpenSpec := { _root_.Go.OpenSpec.ofChange s with cond := some uptoSmall }

/-- 'ndjqlaw18.AutomatonStep', WHERE WHAT IT READS IS OF BULK AT MOST 1048576: true; the input reads as it did. -/
def automatonStepUptoRow : OpenClaim := { program := "ytjejjhpmiinanaadoor", sum := "76bd63fdc85c8732ce0cfe24ebbb0cedb827a94a9ce120aab484dc993d983509", func := "ndjq/ndjqlaw18.AutomatonStep", spec := "automatonStep", named := ["ndjq/automaton.moves"], apart := false, laid := [("ndjq/automaton.moves", laid_ndjq_automaton_moves)], narrowed := true }
def AutomatonStepUptoSaid : Prop := automatonStepUptoRow.holds Tryd.pinned (OpenSpec.upto automatonStepSpec)

/-- 'ndjqlaw18.AutomatonQuotes', WHERE WHAT IT READS IS OF BULK AT MOST 1048576: true; the input reads as it did. -/
def automatonQuotesUptoRow : OpenClaim := { program := "ytjejjhpmiinanaadoor", sum := "76bd63fdc85c8732ce0cfe24ebbb0cedb827a94a9ce120aab484dc993d983509", func := "ndjq/ndjqlaw18.AutomatonQuotes", spec := "automatonQuotes", named := ["ndjq/automaton.moves"], apart := false, laid := [("ndjq/automaton.moves", laid_ndjq_automaton_moves)], narrowed := true }
def AutomatonQuotesUptoSaid : Prop := automatonQuotesUptoRow.holds Tryd.pinned (OpenSpec.upto automatonQuotesSpec)

/-- 'ndjqlaw18.AutomatonBytes', WHERE WHAT IT READS IS OF BULK AT MOST 1048576: true; the input reads as it did. -/
def automatonBytesUptoRow : OpenClaim := { program := "ytjejjhpmiinanaadoor", sum := "76bd63fdc85c8732ce0cfe24ebbb0cedb827a94a9ce120aab484dc993d983509", func := "ndjq/ndjqlaw18.AutomatonBytes", spec := "automatonBytes", named := ["ndjq/automaton.moves"], apart := false, laid := [("ndjq/automaton.moves", laid_ndjq_automaton_moves)], narrowed := true }
def AutomatonBytesUptoSaid : Prop := automatonBytesUptoRow.holds Tryd.pinned (OpenSpec.upto automatonBytesSpec)

/-- 'ndjqlaw18.AutomatonConcat', WHERE WHAT IT READS IS OF BULK AT MOST 1048576: true; the input reads as it did. -/
def automatonConcatUptoRow : OpenClaim := { program := "ytjejjhpmiinanaadoor", sum := "76bd63fdc85c8732ce0cfe24ebbb0cedb827a94a9ce120aab484dc993d983509", func := "ndjq/ndjqlaw18.AutomatonConcat", spec := "automatonConcat", named := ["ndjq/automaton.moves"], apart := false, laid := [("ndjq/automaton.moves", laid_ndjq_automaton_moves)], narrowed := true }
def AutomatonConcatUptoSaid : Prop := automatonConcatUptoRow.holds Tryd.pinned (OpenSpec.upto automatonConcatSpec)

/-- 'ndjqlaw18.AutomatonMonoid', WHERE WHAT IT READS IS OF BULK AT MOST 1048576: true; the input reads as it did. -/
def automatonMonoidUptoRow : OpenClaim := { program := "ytjejjhpmiinanaadoor", sum := "76bd63fdc85c8732ce0cfe24ebbb0cedb827a94a9ce120aab484dc993d983509", func := "ndjq/ndjqlaw18.AutomatonMonoid", spec := "automatonMonoid", named := ["ndjq/automaton.moves"], apart := false, laid := [("ndjq/automaton.moves", laid_ndjq_automaton_moves)], narrowed := true }
def AutomatonMonoidUptoSaid : Prop := automatonMonoidUptoRow.holds Tryd.pinned (OpenSpec.upto automatonMonoidSpec)

/-- 'ndjqlaw18.AutomatonRaw', WHERE WHAT IT READS IS OF BULK AT MOST 1048576: true; the input reads as it did. -/
def automatonRawUptoRow : OpenClaim := { program := "ytjejjhpmiinanaadoor", sum := "76bd63fdc85c8732ce0cfe24ebbb0cedb827a94a9ce120aab484dc993d983509", func := "ndjq/ndjqlaw18.AutomatonRaw", spec := "automatonRaw", named := ["ndjq/automaton.moves"], apart := false, laid := [("ndjq/automaton.moves", laid_ndjq_automaton_moves)], narrowed := true }
def AutomatonRawUptoSaid : Prop := automatonRawUptoRow.holds Tryd.pinned (OpenSpec.upto automatonRawSpec)

end Rows
end Go.Proofs.YtjejjhpmiinanaaDoor
