/-
  No cell of these rows narrows 'for every input' (looked for: loops, veiled, ifaces, maps, wideKeys, modest, calm, conditions, laid).
  DERIVED. THE GIVEN ROWS OF THIS SEAT. 4 by the template 'for every input the law returns true; each argument reads behind the call as it read before'; 0 by the template 'total and deterministic' (their statements: YtgfaakecfkfcaaaTotals.lean).
  GIVEN WITH THE SEED: the statements are not yours to turn. If you find one false, say at which input.
  Laid BY PROGRAM, IN A SANDBOX (cutbox-rows.mjs): the forced cells as the released guide's own fill.sh prints them over the translation 31cf491ca83bd3d9… (all of the seat's roots in one cut). By AI agents, Wed Nov 11 2026. No macro, syntax, notation, axiom, sorry.
-/
import Derived.Test.YtgfaakecfkfcaaaChecked
import GoSem.Claim
import GoSem.ClaimJoined
import GoSem.ClaimMapViews
import Derived.JoinedTies
import Derived.KernelRfl
namespace Go.Proofs.Ytgfaakecfkfcaaa
/- THE CELL 'sum', in the pinned program and in every row, IS THE sha256 OF THE DUMP (.gsa) THAT YtgfaakecfkfcaaaProg.lean LOADS. Nothing in Lean hashes anything: it is a label: what it is worth is what the hold of that sum in a sandbox is worth. -/
noncomputable def Try.pinned : Pinned := { name := "ytgfaakecfkfcaaa", sum := "31cf491ca83bd3d9d734488b2e71e350c0c0ef5378bed682e1230b875870b3d8", checked := Try.checked }
namespace Rows
def none {H : Type} : Left H := { results := [], args := [] }

/-- 'ndjqlaw24.SchedChoose': WHATEVER THE INPUT: true; the input reads as it did. -/
def schedChooseSpec : ChangeSpec := { name := "schedChoose", fn := fun _ => fun
  | [d1, d2, d3] => { results := [.lit (.bool true)], args := [d1, d2, d3] }
  | _ => none }
def schedChooseRow : OpenClaim := { program := "ytgfaakecfkfcaaa", sum := "31cf491ca83bd3d9d734488b2e71e350c0c0ef5378bed682e1230b875870b3d8", func := "ndjq/ndjqlaw24.SchedChoose", spec := "schedChoose", unfollowed := true, recurses := true, apart := false }
def SchedChooseSaid : Prop := schedChooseRow.holds Try.pinned (OpenSpec.ofChange schedChooseSpec)

/-- ITS FALSE NEIGHBOUR: 'it returns false'. Refute it at one input. -/
def schedChooseWrong : ChangeSpec := { name := "schedChoose", fn := fun _ => fun
  | [d1, d2, d3] => { results := [.lit (.bool false)], args := [d1, d2, d3] }
  | _ => none }
def SchedChooseWrongFalsely : Prop := schedChooseRow.holds Try.pinned (OpenSpec.ofChange schedChooseWrong)

/-- 'ndjqlaw24.SchedFair': WHATEVER THE INPUT: true; the input reads as it did. -/
def schedFairSpec : ChangeSpec := { name := "schedFair", fn := fun _ => fun
  | [d1, d2, d3] => { results := [.lit (.bool true)], args := [d1, d2, d3] }
  | _ => none }
def schedFairRow : OpenClaim := { program := "ytgfaakecfkfcaaa", sum := "31cf491ca83bd3d9d734488b2e71e350c0c0ef5378bed682e1230b875870b3d8", func := "ndjq/ndjqlaw24.SchedFair", spec := "schedFair", unfollowed := true, recurses := true, apart := false }
def SchedFairSaid : Prop := schedFairRow.holds Try.pinned (OpenSpec.ofChange schedFairSpec)

/-- ITS FALSE NEIGHBOUR: 'it returns false'. Refute it at one input. -/
def schedFairWrong : ChangeSpec := { name := "schedFair", fn := fun _ => fun
  | [d1, d2, d3] => { results := [.lit (.bool false)], args := [d1, d2, d3] }
  | _ => none }
def SchedFairWrongFalsely : Prop := schedFairRow.holds Try.pinned (OpenSpec.ofChange schedFairWrong)

/-- 'ndjqlaw24.SchedPicks': WHATEVER THE INPUT: true; the input reads as it did. -/
def schedPicksSpec : ChangeSpec := { name := "schedPicks", fn := fun _ => fun
  | [d1, d2, d3] => { results := [.lit (.bool true)], args := [d1, d2, d3] }
  | _ => none }
def schedPicksRow : OpenClaim := { program := "ytgfaakecfkfcaaa", sum := "31cf491ca83bd3d9d734488b2e71e350c0c0ef5378bed682e1230b875870b3d8", func := "ndjq/ndjqlaw24.SchedPicks", spec := "schedPicks", unfollowed := true, recurses := true, apart := false }
def SchedPicksSaid : Prop := schedPicksRow.holds Try.pinned (OpenSpec.ofChange schedPicksSpec)

/-- ITS FALSE NEIGHBOUR: 'it returns false'. Refute it at one input. -/
def schedPicksWrong : ChangeSpec := { name := "schedPicks", fn := fun _ => fun
  | [d1, d2, d3] => { results := [.lit (.bool false)], args := [d1, d2, d3] }
  | _ => none }
def SchedPicksWrongFalsely : Prop := schedPicksRow.holds Try.pinned (OpenSpec.ofChange schedPicksWrong)

/-- 'ndjqlaw24.SchedMixed': WHATEVER THE INPUT: true; the input reads as it did. -/
def schedMixedSpec : ChangeSpec := { name := "schedMixed", fn := fun _ => fun
  | [d1, d2, d3] => { results := [.lit (.bool true)], args := [d1, d2, d3] }
  | _ => none }
def schedMixedRow : OpenClaim := { program := "ytgfaakecfkfcaaa", sum := "31cf491ca83bd3d9d734488b2e71e350c0c0ef5378bed682e1230b875870b3d8", func := "ndjq/ndjqlaw24.SchedMixed", spec := "schedMixed", unfollowed := true, recurses := true, apart := false }
def SchedMixedSaid : Prop := schedMixedRow.holds Try.pinned (OpenSpec.ofChange schedMixedSpec)

/-- ITS FALSE NEIGHBOUR: 'it returns false'. Refute it at one input. -/
def schedMixedWrong : ChangeSpec := { name := "schedMixed", fn := fun _ => fun
  | [d1, d2, d3] => { results := [.lit (.bool false)], args := [d1, d2, d3] }
  | _ => none }
def SchedMixedWrongFalsely : Prop := schedMixedRow.holds Try.pinned (OpenSpec.ofChange schedMixedWrong)

/- THE SECOND FORM. 'bulk': how many values and letters a reading holds, each counted each time it is reached (what is shared counts as often as it is met; a slice's spare places count too). A statement '..UptoSaid' is the law's where the arguments, and the package variables that the reading takes, are together of bulk at most 1048576: NARROWER than '..Said'. Prove '..Said' where nothing that the law and all that it calls make is longer than what came in: it says more and counts as full. Else prove '..UptoSaid'. A law counts once. -/
mutual
def uptoBulk {H : Type} : DataW H → Nat
  | .lit (.string bytes) => bytes.length + 1
  | .lit _ => 1
  | .nil => 1
  | .ptr d => uptoBulk d + 1
  | .slice elems spare => uptoBulkAll elems + uptoBulkAll spare + 1
  | .agg parts => uptoBulkAll parts + 1
  | .iface _ d => uptoBulk d + 1
  | .map entries => uptoBulkEntries entries + 1
  | .held _ => 1
def uptoBulkAll {H : Type} : List (DataW H) → Nat
  | [] => 0
  | d :: r => uptoBulk d + uptoBulkAll r
def uptoBulkEntries {H : Type} : List (Lit × DataW H) → Nat
  | [] => 0
  | x :: r => uptoBulkEntry x + uptoBulkEntries r
def uptoBulkEntry {H : Type} : Lit × DataW H → Nat
  | (.string bytes, d) => bytes.length + uptoBulk d + 1
  | (_, d) => uptoBulk d + 1
 end
def uptoSmall : (H : Type) → List (DataW H) → Bool := fun _ ds => decide (uptoBulkAll ds ≤ 1048576)
def OpenSpec.upto (s : _root_.Go.ChangeSpec) : _root_.Go.OpenSpec := { _root_.Go.OpenSpec.ofChange s with cond := some uptoSmall }

/-- 'ndjqlaw24.SchedChoose', WHERE WHAT IT READS IS OF BULK AT MOST 1048576: true; the input reads as it did. -/
def schedChooseUptoRow : OpenClaim := { program := "ytgfaakecfkfcaaa", sum := "31cf491ca83bd3d9d734488b2e71e350c0c0ef5378bed682e1230b875870b3d8", func := "ndjq/ndjqlaw24.SchedChoose", spec := "schedChoose", unfollowed := true, recurses := true, apart := false, narrowed := true }
def SchedChooseUptoSaid : Prop := schedChooseUptoRow.holds Try.pinned (OpenSpec.upto schedChooseSpec)

/-- 'ndjqlaw24.SchedFair', WHERE WHAT IT READS IS OF BULK AT MOST 1048576: true; the input reads as it did. -/
def schedFairUptoRow : OpenClaim := { program := "ytgfaakecfkfcaaa", sum := "31cf491ca83bd3d9d734488b2e71e350c0c0ef5378bed682e1230b875870b3d8", func := "ndjq/ndjqlaw24.SchedFair", spec := "schedFair", unfollowed := true, recurses := true, apart := false, narrowed := true }
def SchedFairUptoSaid : Prop := schedFairUptoRow.holds Try.pinned (OpenSpec.upto schedFairSpec)

/-- 'ndjqlaw24.SchedPicks', WHERE WHAT IT READS IS OF BULK AT MOST 1048576: true; the input reads as it did. -/
def schedPicksUptoRow : OpenClaim := { program := "ytgfaakecfkfcaaa", sum := "31cf491ca83bd3d9d734488b2e71e350c0c0ef5378bed682e1230b875870b3d8", func := "ndjq/ndjqlaw24.SchedPicks", spec := "schedPicks", unfollowed := true, recurses := true, apart := false, narrowed := true }
def SchedPicksUptoSaid : Prop := schedPicksUptoRow.holds Try.pinned (OpenSpec.upto schedPicksSpec)

/-- 'ndjqlaw24.SchedMixed', WHERE WHAT IT READS IS OF BULK AT MOST 1048576: true; the input reads as it did. -/
def schedMixedUptoRow : OpenClaim := { program := "ytgfaakecfkfcaaa", sum := "31cf491ca83bd3d9d734488b2e71e350c0c0ef5378bed682e1230b875870b3d8", func := "ndjq/ndjqlaw24.SchedMixed", spec := "schedMixed", unfollowed := true, recurses := true, apart := false, narrowed := true }
def SchedMixedUptoSaid : Prop := schedMixedUptoRow.holds Try.pinned (OpenSpec.upto schedMixedSpec)

end Rows
end Go.Proofs.Ytgfaakecfkfcaaa
