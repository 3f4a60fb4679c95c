/-
  NARROWER THAN 'FOR EVERY INPUT', by the rows' own cells (each row's printed sentence says how): ScanResolve: laid · ScanChunks: laid · ScanRecords: laid · ScanCarry: laid · ScanBracket: laid · ScanSpeculation: laid.
  DERIVED. THE GIVEN ROWS OF THIS SEAT. 6 by the template 'for every input the law returns true; each argument reads behind the call as it read before'; 0 by the template 'total and deterministic' (their statements: YtkhnifehcnlpjaaDoorTotals.lean).
  GIVEN WITH THE SEED: the statements are not yours to turn. If you find one false, say at which input.
  Laid BY PROGRAM, IN A SANDBOX (cutbox-rows.mjs): the forced cells as the released guide's own fill.sh prints them over the translation 4d7cb8ae58776575… (all of the seat's roots in one cut). By AI agents, Wed Nov 11 2026. No macro, syntax, notation, axiom, sorry.
-/
import Derived.Test.YtkhnifehcnlpjaaDoorChecked
import GoSem.Claim
import GoSem.ClaimJoined
import GoSem.ClaimMapViews
import Derived.JoinedTies
import Derived.KernelRfl
namespace Go.Proofs.YtkhnifehcnlpjaaDoor
/- THE CELL 'sum', in the pinned program and in every row, IS THE sha256 OF THE DUMP (.gsa) THAT YtkhnifehcnlpjaaDoorProg.lean LOADS. Nothing in Lean hashes anything: it is a label: what it is worth is what the hold of that sum in a sandbox is worth. -/
noncomputable def Tryd.pinned : Pinned := { name := "ytkhnifehcnlpjaadoor", sum := "4d7cb8ae587765756af6b32c3d5f90f18eb7018582207f79724a88086bfac15f", checked := Tryd.checked }
namespace Rows
def none {H : Type} : Left H := { results := [], args := [] }

/- WHAT THE LISTED PACKAGE-LEVEL VARIABLES READ AS WHEN THE CALL BEGINS. Each datum BY PROGRAM (the guide's laid-datum.mjs) off the statement by which the dump's own 'gosem.cut.vars' lays the variable. In a bare row this is a premise. The card (YtkhnifehcnlpjaaDoorCards.lean) ties it to the program's text. -/
def laid_ndjq_automaton_moves {H : Type} : DataW H := .agg [.agg [.agg [.lit (.int .i64 0), .lit (.bool false)], .agg [.lit (.int .i64 1), .lit (.bool false)], .agg [.lit (.int .i64 0), .lit (.bool false)], .agg [.lit (.int .i64 0), .lit (.bool true)]], .agg [.agg [.lit (.int .i64 1), .lit (.bool false)], .agg [.lit (.int .i64 0), .lit (.bool false)], .agg [.lit (.int .i64 2), .lit (.bool false)], .agg [.lit (.int .i64 1), .lit (.bool false)]], .agg [.agg [.lit (.int .i64 1), .lit (.bool false)], .agg [.lit (.int .i64 1), .lit (.bool false)], .agg [.lit (.int .i64 1), .lit (.bool false)], .agg [.lit (.int .i64 1), .lit (.bool false)]]]

/-- 'ndjqlaw20.ScanResolve': WHATEVER THE INPUT: true; the input reads as it did. -/
def scanResolveSpec : ChangeSpec := { name := "scanResolve", fn := fun _ => fun
  | [d1, d2, d3, d4] => { results := [.lit (.bool true)], args := [d1, d2, d3, d4] }
  | _ => none }
def scanResolveRow : OpenClaim := { program := "ytkhnifehcnlpjaadoor", sum := "4d7cb8ae587765756af6b32c3d5f90f18eb7018582207f79724a88086bfac15f", func := "ndjq/ndjqlaw20.ScanResolve", spec := "scanResolve", named := ["ndjq/automaton.moves"], apart := false, laid := [("ndjq/automaton.moves", laid_ndjq_automaton_moves)] }
def ScanResolveSaid : Prop := scanResolveRow.holds Tryd.pinned (OpenSpec.ofChange scanResolveSpec)

/-- ITS FALSE NEIGHBOUR: 'it returns false'. Refute it at one input. -/
def scanResolveWrong : ChangeSpec := { name := "scanResolve", fn := fun _ => fun
  | [d1, d2, d3, d4] => { results := [.lit (.bool false)], args := [d1, d2, d3, d4] }
  | _ => none }
def ScanResolveWrongFalsely : Prop := scanResolveRow.holds Tryd.pinned (OpenSpec.ofChange scanResolveWrong)

/-- 'ndjqlaw20.ScanChunks': WHATEVER THE INPUT: true; the input reads as it did. -/
def scanChunksSpec : ChangeSpec := { name := "scanChunks", fn := fun _ => fun
  | [d1, d2, d3, d4] => { results := [.lit (.bool true)], args := [d1, d2, d3, d4] }
  | _ => none }
def scanChunksRow : OpenClaim := { program := "ytkhnifehcnlpjaadoor", sum := "4d7cb8ae587765756af6b32c3d5f90f18eb7018582207f79724a88086bfac15f", func := "ndjq/ndjqlaw20.ScanChunks", spec := "scanChunks", named := ["ndjq/automaton.moves"], apart := false, laid := [("ndjq/automaton.moves", laid_ndjq_automaton_moves)] }
def ScanChunksSaid : Prop := scanChunksRow.holds Tryd.pinned (OpenSpec.ofChange scanChunksSpec)

/-- ITS FALSE NEIGHBOUR: 'it returns false'. Refute it at one input. -/
def scanChunksWrong : ChangeSpec := { name := "scanChunks", fn := fun _ => fun
  | [d1, d2, d3, d4] => { results := [.lit (.bool false)], args := [d1, d2, d3, d4] }
  | _ => none }
def ScanChunksWrongFalsely : Prop := scanChunksRow.holds Tryd.pinned (OpenSpec.ofChange scanChunksWrong)

/-- 'ndjqlaw20.ScanRecords': WHATEVER THE INPUT: true; the input reads as it did. -/
def scanRecordsSpec : ChangeSpec := { name := "scanRecords", fn := fun _ => fun
  | [d1, d2] => { results := [.lit (.bool true)], args := [d1, d2] }
  | _ => none }
def scanRecordsRow : OpenClaim := { program := "ytkhnifehcnlpjaadoor", sum := "4d7cb8ae587765756af6b32c3d5f90f18eb7018582207f79724a88086bfac15f", func := "ndjq/ndjqlaw20.ScanRecords", spec := "scanRecords", named := ["ndjq/automaton.moves"], apart := false, laid := [("ndjq/automaton.moves", laid_ndjq_automaton_moves)] }
def ScanRecordsSaid : Prop := scanRecordsRow.holds Tryd.pinned (OpenSpec.ofChange scanRecordsSpec)

/-- ITS FALSE NEIGHBOUR: 'it returns false'. Refute it at one input. -/
def scanRecordsWrong : ChangeSpec := { name := "scanRecords", fn := fun _ => fun
  | [d1, d2] => { results := [.lit (.bool false)], args := [d1, d2] }
  | _ => none }
def ScanRecordsWrongFalsely : Prop := scanRecordsRow.holds Tryd.pinned (OpenSpec.ofChange scanRecordsWrong)

/-- 'ndjqlaw20.ScanCarry': WHATEVER THE INPUT: true; the input reads as it did. -/
def scanCarrySpec : ChangeSpec := { name := "scanCarry", fn := fun _ => fun
  | [d1, d2] => { results := [.lit (.bool true)], args := [d1, d2] }
  | _ => none }
def scanCarryRow : OpenClaim := { program := "ytkhnifehcnlpjaadoor", sum := "4d7cb8ae587765756af6b32c3d5f90f18eb7018582207f79724a88086bfac15f", func := "ndjq/ndjqlaw20.ScanCarry", spec := "scanCarry", named := ["ndjq/automaton.moves"], apart := false, laid := [("ndjq/automaton.moves", laid_ndjq_automaton_moves)] }
def ScanCarrySaid : Prop := scanCarryRow.holds Tryd.pinned (OpenSpec.ofChange scanCarrySpec)

/-- ITS FALSE NEIGHBOUR: 'it returns false'. Refute it at one input. -/
def scanCarryWrong : ChangeSpec := { name := "scanCarry", fn := fun _ => fun
  | [d1, d2] => { results := [.lit (.bool false)], args := [d1, d2] }
  | _ => none }
def ScanCarryWrongFalsely : Prop := scanCarryRow.holds Tryd.pinned (OpenSpec.ofChange scanCarryWrong)

/-- 'ndjqlaw20.ScanBracket': WHATEVER THE INPUT: true; the input reads as it did. -/
def scanBracketSpec : ChangeSpec := { name := "scanBracket", fn := fun _ => fun
  | [d1, d2] => { results := [.lit (.bool true)], args := [d1, d2] }
  | _ => none }
def scanBracketRow : OpenClaim := { program := "ytkhnifehcnlpjaadoor", sum := "4d7cb8ae587765756af6b32c3d5f90f18eb7018582207f79724a88086bfac15f", func := "ndjq/ndjqlaw20.ScanBracket", spec := "scanBracket", named := ["ndjq/automaton.moves"], apart := false, laid := [("ndjq/automaton.moves", laid_ndjq_automaton_moves)] }
def ScanBracketSaid : Prop := scanBracketRow.holds Tryd.pinned (OpenSpec.ofChange scanBracketSpec)

/-- ITS FALSE NEIGHBOUR: 'it returns false'. Refute it at one input. -/
def scanBracketWrong : ChangeSpec := { name := "scanBracket", fn := fun _ => fun
  | [d1, d2] => { results := [.lit (.bool false)], args := [d1, d2] }
  | _ => none }
def ScanBracketWrongFalsely : Prop := scanBracketRow.holds Tryd.pinned (OpenSpec.ofChange scanBracketWrong)

/-- 'ndjqlaw20.ScanSpeculation': WHATEVER THE INPUT: true; the input reads as it did. -/
def scanSpeculationSpec : ChangeSpec := { name := "scanSpeculation", fn := fun _ => fun
  | [d1, d2, d3] => { results := [.lit (.bool true)], args := [d1, d2, d3] }
  | _ => none }
def scanSpeculationRow : OpenClaim := { program := "ytkhnifehcnlpjaadoor", sum := "4d7cb8ae587765756af6b32c3d5f90f18eb7018582207f79724a88086bfac15f", func := "ndjq/ndjqlaw20.ScanSpeculation", spec := "scanSpeculation", named := ["ndjq/automaton.moves"], apart := false, laid := [("ndjq/automaton.moves", laid_ndjq_automaton_moves)] }
def ScanSpeculationSaid : Prop := scanSpeculationRow.holds Tryd.pinned (OpenSpec.ofChange scanSpeculationSpec)

/-- ITS FALSE NEIGHBOUR: 'it returns false'. Refute it at one input. -/
def scanSpeculationWrong : ChangeSpec := { name := "scanSpeculation", fn := fun _ => fun
  | [d1, d2, d3] => { results := [.lit (.bool false)], args := [d1, d2, d3] }
  | _ => none }
def ScanSpeculationWrongFalsely : Prop := scanSpeculationRow.holds Tryd.pinned (OpenSpec.ofChange scanSpeculationWrong)

/- THE SECOND FORM. 'bulk': how many values and letters a reading holds, each counted each time it is reached (what is shared counts as often as it is met; a slice's spare places count too). A statement '..UptoSaid' is the law's where the arguments, and the package variables that the reading takes, are together of bulk at most 1048576: NARROWER than '..Said'. Prove '..Said' where nothing that the law and all that it calls make is longer than what came in: it says more and counts as full. Else prove '..UptoSaid'. A law counts once. -/
mutual
def uptoBulk {H : Type} : DataW H → Nat
  | .lit (.string bytes) => bytes.length + 1
  | .lit _ => 1
  | .nil => 1
  | .ptr d => uptoBulk d + 1
  | .slice elems spare => uptoBulkAll elems + uptoBulkAll spare + 1
  | .agg parts => uptoBulkAll parts + 1
  | .iface _ d => uptoBulk d + 1
  | .map entries => uptoBulkEntries entries + 1
  | .held _ => 1
def uptoBulkAll {H : Type} : List (DataW H) → Nat
  | [] => 0
  | d :: r => uptoBulk d + uptoBulkAll r
def uptoBulkEntries {H : Type} : List (Lit × DataW H) → Nat
  | [] => 0
  | x :: r => uptoBulkEntry x + uptoBulkEntries r
def uptoBulkEntry {H : Type} : Lit × DataW H → Nat
  | (.string bytes, d) => bytes.length + uptoBulk d + 1
  | (_, d) => uptoBulk d + 1
 end
def uptoSmall : (H : Type) → List (DataW H) → Bool := fun _ ds => decide (uptoBulkAll ds ≤ 1048576)
def OpenSpec.upto (s : _root_.Go.ChangeSpec) : _root_.Go.OpenSpec := { _root_.Go.OpenSpec.ofChange s with cond := some uptoSmall }

/-- 'ndjqlaw20.ScanResolve', WHERE WHAT IT READS IS OF BULK AT MOST 1048576: true; the input reads as it did. -/
def scanResolveUptoRow : OpenClaim := { program := "ytkhnifehcnlpjaadoor", sum := "4d7cb8ae587765756af6b32c3d5f90f18eb7018582207f79724a88086bfac15f", func := "ndjq/ndjqlaw20.ScanResolve", spec := "scanResolve", named := ["ndjq/automaton.moves"], apart := false, laid := [("ndjq/automaton.moves", laid_ndjq_automaton_moves)], narrowed := true }
def ScanResolveUptoSaid : Prop := scanResolveUptoRow.holds Tryd.pinned (OpenSpec.upto scanResolveSpec)

/-- 'ndjqlaw20.ScanChunks', WHERE WHAT IT READS IS OF BULK AT MOST 1048576: true; the input reads as it did. -/
def scanChunksUptoRow : OpenClaim := { program := "ytkhnifehcnlpjaadoor", sum := "4d7cb8ae587765756af6b32c3d5f90f18eb7018582207f79724a88086bfac15f", func := "ndjq/ndjqlaw20.ScanChunks", spec := "scanChunks", named := ["ndjq/automaton.moves"], apart := false, laid := [("ndjq/automaton.moves", laid_ndjq_automaton_moves)], narrowed := true }
def ScanChunksUptoSaid : Prop := scanChunksUptoRow.holds Tryd.pinned (OpenSpec.upto scanChunksSpec)

/-- 'ndjqlaw20.ScanRecords', WHERE WHAT IT READS IS OF BULK AT MOST 1048576: true; the input reads as it did. -/
def scanRecordsUptoRow : OpenClaim := { program := "ytkhnifehcnlpjaadoor", sum := "4d7cb8ae587765756af6b32c3d5f90f18eb7018582207f79724a88086bfac15f", func := "ndjq/ndjqlaw20.ScanRecords", spec := "scanRecords", named := ["ndjq/automaton.moves"], apart := false, laid := [("ndjq/automaton.moves", laid_ndjq_automaton_moves)], narrowed := true }
def ScanRecordsUptoSaid : Prop := scanRecordsUptoRow.holds Tryd.pinned (OpenSpec.upto scanRecordsSpec)

/-- 'ndjqlaw20.ScanCarry', WHERE WHAT IT READS IS OF BULK AT MOST 1048576: true; the input reads as it did. -/
def scanCarryUptoRow : OpenClaim := { program := "ytkhnifehcnlpjaadoor", sum := "4d7cb8ae587765756af6b32c3d5f90f18eb7018582207f79724a88086bfac15f", func := "ndjq/ndjqlaw20.ScanCarry", spec := "scanCarry", named := ["ndjq/automaton.moves"], apart := false, laid := [("ndjq/automaton.moves", laid_ndjq_automaton_moves)], narrowed := true }
def ScanCarryUptoSaid : Prop := scanCarryUptoRow.holds Tryd.pinned (OpenSpec.upto scanCarrySpec)

/-- 'ndjqlaw20.ScanBracket', WHERE WHAT IT READS IS OF BULK AT MOST 1048576: true; the input reads as it did. -/
def scanBracketUptoRow : OpenClaim := { program := "ytkhnifehcnlpjaadoor", sum := "4d7cb8ae587765756af6b32c3d5f90f18eb7018582207f79724a88086bfac15f", func := "ndjq/ndjqlaw20.ScanBracket", spec := "scanBracket", named := ["ndjq/automaton.moves"], apart := false, laid := [("ndjq/automaton.moves", laid_ndjq_automaton_moves)], narrowed := true }
def ScanBracketUptoSaid : Prop := scanBracketUptoRow.holds Tryd.pinned (OpenSpec.upto scanBracketSpec)

/-- 'ndjqlaw20.ScanSpeculation', WHERE WHAT IT READS IS OF BULK AT MOST 1048576: true; the input reads as it did. -/
def scanSpeculationUptoRow : OpenClaim := { program := "ytkhnifehcnlpjaadoor", sum := "4d7cb8ae587765756af6b32c3d5f90f18eb7018582207f79724a88086bfac15f", func := "ndjq/ndjqlaw20.ScanSpeculation", spec := "scanSpeculation", named := ["ndjq/automaton.moves"], apart := false, laid := [("ndjq/automaton.moves", laid_ndjq_automaton_moves)], narrowed := true }
def ScanSpeculationUptoSaid : Prop := scanSpeculationUptoRow.holds Tryd.pinned (OpenSpec.upto scanSpeculationSpec)

end Rows
end Go.Proofs.YtkhnifehcnlpjaaDoor
