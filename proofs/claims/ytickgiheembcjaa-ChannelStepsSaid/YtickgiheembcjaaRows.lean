/-
  No cell of these rows narrows 'for every input' (looked for: loops, veiled, ifaces, maps, wideKeys, modest, calm, conditions, laid).
  DERIVED. THE GIVEN ROWS OF THIS SEAT. 3 by the template 'for every input the law returns true; each argument reads behind the call as it read before'; 0 by the template 'total and deterministic' (their statements: YtickgiheembcjaaTotals.lean).
  GIVEN WITH THE SEED: the statements are not yours to turn. If you find one false, say at which input.
  Laid BY PROGRAM, IN A SANDBOX (cutbox-rows.mjs): the forced cells as the released guide's own fill.sh prints them over the translation 6ebad5c6e1f3cf2e… (all of the seat's roots in one cut). By AI agents, Wed Nov 11 2026. No macro, syntax, notation, axiom, sorry.
-/
import Derived.Test.YtickgiheembcjaaChecked
import GoSem.Claim
import GoSem.ClaimJoined
import GoSem.ClaimMapViews
import Derived.JoinedTies
import Derived.KernelRfl
namespace Go.Proofs.Ytickgiheembcjaa
/- THE CELL 'sum', in the pinned program and in every row, IS THE sha256 OF THE DUMP (.gsa) THAT YtickgiheembcjaaProg.lean LOADS. Nothing in Lean hashes anything: it is a label: what it is worth is what the hold of that sum in a sandbox is worth. -/
noncomputable def Try.pinned : Pinned := { name := "ytickgiheembcjaa", sum := "6ebad5c6e1f3cf2ec7870b92c78f6df9ed5fcecf0acd0a40a2e783d4fbf88a47", checked := Try.checked }
namespace Rows
def none {H : Type} : Left H := { results := [], args := [] }

/-- 'ndjqlaw22.ChannelOrder': WHATEVER THE INPUT: true; the input reads as it did. -/
def channelOrderSpec : ChangeSpec := { name := "channelOrder", fn := fun _ => fun
  | [d1, d2] => { results := [.lit (.bool true)], args := [d1, d2] }
  | _ => none }
def channelOrderRow : OpenClaim := { program := "ytickgiheembcjaa", sum := "6ebad5c6e1f3cf2ec7870b92c78f6df9ed5fcecf0acd0a40a2e783d4fbf88a47", func := "ndjq/ndjqlaw22.ChannelOrder", spec := "channelOrder", apart := false }
def ChannelOrderSaid : Prop := channelOrderRow.holds Try.pinned (OpenSpec.ofChange channelOrderSpec)

/-- ITS FALSE NEIGHBOUR: 'it returns false'. Refute it at one input. -/
def channelOrderWrong : ChangeSpec := { name := "channelOrder", fn := fun _ => fun
  | [d1, d2] => { results := [.lit (.bool false)], args := [d1, d2] }
  | _ => none }
def ChannelOrderWrongFalsely : Prop := channelOrderRow.holds Try.pinned (OpenSpec.ofChange channelOrderWrong)

/-- 'ndjqlaw22.ChannelSteps': WHATEVER THE INPUT: true; the input reads as it did. -/
def channelStepsSpec : ChangeSpec := { name := "channelSteps", fn := fun _ => fun
  | [d1, d2] => { results := [.lit (.bool true)], args := [d1, d2] }
  | _ => none }
def channelStepsRow : OpenClaim := { program := "ytickgiheembcjaa", sum := "6ebad5c6e1f3cf2ec7870b92c78f6df9ed5fcecf0acd0a40a2e783d4fbf88a47", func := "ndjq/ndjqlaw22.ChannelSteps", spec := "channelSteps", apart := false }
def ChannelStepsSaid : Prop := channelStepsRow.holds Try.pinned (OpenSpec.ofChange channelStepsSpec)

/-- ITS FALSE NEIGHBOUR: 'it returns false'. Refute it at one input. -/
def channelStepsWrong : ChangeSpec := { name := "channelSteps", fn := fun _ => fun
  | [d1, d2] => { results := [.lit (.bool false)], args := [d1, d2] }
  | _ => none }
def ChannelStepsWrongFalsely : Prop := channelStepsRow.holds Try.pinned (OpenSpec.ofChange channelStepsWrong)

/-- 'ndjqlaw22.ChannelClosed': WHATEVER THE INPUT: true; the input reads as it did. -/
def channelClosedSpec : ChangeSpec := { name := "channelClosed", fn := fun _ => fun
  | [d] => { results := [.lit (.bool true)], args := [d] }
  | _ => none }
def channelClosedRow : OpenClaim := { program := "ytickgiheembcjaa", sum := "6ebad5c6e1f3cf2ec7870b92c78f6df9ed5fcecf0acd0a40a2e783d4fbf88a47", func := "ndjq/ndjqlaw22.ChannelClosed", spec := "channelClosed", apart := false }
def ChannelClosedSaid : Prop := channelClosedRow.holds Try.pinned (OpenSpec.ofChange channelClosedSpec)

/-- ITS FALSE NEIGHBOUR: 'it returns false'. Refute it at one input. -/
def channelClosedWrong : ChangeSpec := { name := "channelClosed", fn := fun _ => fun
  | [d] => { results := [.lit (.bool false)], args := [d] }
  | _ => none }
def ChannelClosedWrongFalsely : Prop := channelClosedRow.holds Try.pinned (OpenSpec.ofChange channelClosedWrong)

/- THE SECOND FORM. 'bulk': how many values and letters a reading holds, each counted each time it is reached (what is shared counts as often as it is met; a slice's spare places count too). A statement '..UptoSaid' is the law's where the arguments, and the package variables that the reading takes, are together of bulk at most 1048576: NARROWER than '..Said'. Prove '..Said' where nothing that the law and all that it calls make is longer than what came in: it says more and counts as full. Else prove '..UptoSaid'. A law counts once. -/
mutual
def uptoBulk {H : Type} : DataW H → Nat
  | .lit (.string bytes) => bytes.length + 1
  | .lit _ => 1
  | .nil => 1
  | .ptr d => uptoBulk d + 1
  | .slice elems spare => uptoBulkAll elems + uptoBulkAll spare + 1
  | .agg parts => uptoBulkAll parts + 1
  | .iface _ d => uptoBulk d + 1
  | .map entries => uptoBulkEntries entries + 1
  | .held _ => 1
def uptoBulkAll {H : Type} : List (DataW H) → Nat
  | [] => 0
  | d :: r => uptoBulk d + uptoBulkAll r
def uptoBulkEntries {H : Type} : List (Lit × DataW H) → Nat
  | [] => 0
  | x :: r => uptoBulkEntry x + uptoBulkEntries r
def uptoBulkEntry {H : Type} : Lit × DataW H → Nat
  | (.string bytes, d) => bytes.length + uptoBulk d + 1
  | (_, d) => uptoBulk d + 1
 end
def uptoSmall : (H : Type) → List (DataW H) → Bool := fun _ ds => decide (uptoBulkAll ds ≤ 1048576)
def OpenSpec.upto (s : _root_.Go.ChangeSpec) : _root_.Go.OpenSpec := { _root_.Go.OpenSpec.ofChange s with cond := some uptoSmall }

/-- 'ndjqlaw22.ChannelOrder', WHERE WHAT IT READS IS OF BULK AT MOST 1048576: true; the input reads as it did. -/
def channelOrderUptoRow : OpenClaim := { program := "ytickgiheembcjaa", sum := "6ebad5c6e1f3cf2ec7870b92c78f6df9ed5fcecf0acd0a40a2e783d4fbf88a47", func := "ndjq/ndjqlaw22.ChannelOrder", spec := "channelOrder", apart := false, narrowed := true }
def ChannelOrderUptoSaid : Prop := channelOrderUptoRow.holds Try.pinned (OpenSpec.upto channelOrderSpec)

/-- 'ndjqlaw22.ChannelSteps', WHERE WHAT IT READS IS OF BULK AT MOST 1048576: true; the input reads as it did. -/
def channelStepsUptoRow : OpenClaim := { program := "ytickgiheembcjaa", sum := "6ebad5c6e1f3cf2ec7870b92c78f6df9ed5fcecf0acd0a40a2e783d4fbf88a47", func := "ndjq/ndjqlaw22.ChannelSteps", spec := "channelSteps", apart := false, narrowed := true }
def ChannelStepsUptoSaid : Prop := channelStepsUptoRow.holds Try.pinned (OpenSpec.upto channelStepsSpec)

/-- 'ndjqlaw22.ChannelClosed', WHERE WHAT IT READS IS OF BULK AT MOST 1048576: true; the input reads as it did. -/
def channelClosedUptoRow : OpenClaim := { program := "ytickgiheembcjaa", sum := "6ebad5c6e1f3cf2ec7870b92c78f6df9ed5fcecf0acd0a40a2e783d4fbf88a47", func := "ndjq/ndjqlaw22.ChannelClosed", spec := "channelClosed", apart := false, narrowed := true }
def ChannelClosedUptoSaid : Prop := channelClosedUptoRow.holds Try.pinned (OpenSpec.upto channelClosedSpec)

end Rows
end Go.Proofs.Ytickgiheembcjaa
