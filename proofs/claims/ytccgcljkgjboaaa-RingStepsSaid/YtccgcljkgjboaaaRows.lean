/-
  No cell of these rows narrows 'for every input' (looked for: loops, veiled, ifaces, maps, wideKeys, modest, calm, conditions, laid).
  DERIVED. THE GIVEN ROWS OF THIS SEAT. 4 by the template 'for every input the law returns true; each argument reads behind the call as it read before'; 0 by the template 'total and deterministic' (their statements: YtccgcljkgjboaaaTotals.lean).
  GIVEN WITH THE SEED: the statements are not yours to turn. If you find one false, say at which input.
  Laid BY PROGRAM, IN A SANDBOX (cutbox-rows.mjs): the forced cells as the released guide's own fill.sh prints them over the translation 4716fecb705101ff… (all of the seat's roots in one cut). By AI agents, Wed Nov 11 2026. No macro, syntax, notation, axiom, sorry.
-/
import Derived.Test.YtccgcljkgjboaaaChecked
import GoSem.Claim
import GoSem.ClaimJoined
import GoSem.ClaimMapViews
import Derived.JoinedTies
import Derived.KernelRfl
namespace Go.Proofs.Ytccgcljkgjboaaa
/- THE CELL 'sum', in the pinned program and in every row, IS THE sha256 OF THE DUMP (.gsa) THAT YtccgcljkgjboaaaProg.lean LOADS. Nothing in Lean hashes anything: it is a label: what it is worth is what the hold of that sum in a sandbox is worth. -/
noncomputable def Try.pinned : Pinned := { name := "ytccgcljkgjboaaa", sum := "4716fecb705101ffdf2f97607a9fde1039e6f3fb4b1ecbd1803e5bd19f429e81", checked := Try.checked }
namespace Rows
def none {H : Type} : Left H := { results := [], args := [] }

/-- 'ndjqlaw23.RingRaw': WHATEVER THE INPUT: true; the input reads as it did. -/
def ringRawSpec : ChangeSpec := { name := "ringRaw", fn := fun _ => fun
  | [d1, d2] => { results := [.lit (.bool true)], args := [d1, d2] }
  | _ => none }
def ringRawRow : OpenClaim := { program := "ytccgcljkgjboaaa", sum := "4716fecb705101ffdf2f97607a9fde1039e6f3fb4b1ecbd1803e5bd19f429e81", func := "ndjq/ndjqlaw23.RingRaw", spec := "ringRaw", apart := false }
def RingRawSaid : Prop := ringRawRow.holds Try.pinned (OpenSpec.ofChange ringRawSpec)

/-- ITS FALSE NEIGHBOUR: 'it returns false'. Refute it at one input. -/
def ringRawWrong : ChangeSpec := { name := "ringRaw", fn := fun _ => fun
  | [d1, d2] => { results := [.lit (.bool false)], args := [d1, d2] }
  | _ => none }
def RingRawWrongFalsely : Prop := ringRawRow.holds Try.pinned (OpenSpec.ofChange ringRawWrong)

/-- 'ndjqlaw23.RingOrder': WHATEVER THE INPUT: true; the input reads as it did. -/
def ringOrderSpec : ChangeSpec := { name := "ringOrder", fn := fun _ => fun
  | [d1, d2] => { results := [.lit (.bool true)], args := [d1, d2] }
  | _ => none }
def ringOrderRow : OpenClaim := { program := "ytccgcljkgjboaaa", sum := "4716fecb705101ffdf2f97607a9fde1039e6f3fb4b1ecbd1803e5bd19f429e81", func := "ndjq/ndjqlaw23.RingOrder", spec := "ringOrder", apart := false }
def RingOrderSaid : Prop := ringOrderRow.holds Try.pinned (OpenSpec.ofChange ringOrderSpec)

/-- ITS FALSE NEIGHBOUR: 'it returns false'. Refute it at one input. -/
def ringOrderWrong : ChangeSpec := { name := "ringOrder", fn := fun _ => fun
  | [d1, d2] => { results := [.lit (.bool false)], args := [d1, d2] }
  | _ => none }
def RingOrderWrongFalsely : Prop := ringOrderRow.holds Try.pinned (OpenSpec.ofChange ringOrderWrong)

/-- 'ndjqlaw23.RingSteps': WHATEVER THE INPUT: true; the input reads as it did. -/
def ringStepsSpec : ChangeSpec := { name := "ringSteps", fn := fun _ => fun
  | [d1, d2] => { results := [.lit (.bool true)], args := [d1, d2] }
  | _ => none }
def ringStepsRow : OpenClaim := { program := "ytccgcljkgjboaaa", sum := "4716fecb705101ffdf2f97607a9fde1039e6f3fb4b1ecbd1803e5bd19f429e81", func := "ndjq/ndjqlaw23.RingSteps", spec := "ringSteps", apart := false }
def RingStepsSaid : Prop := ringStepsRow.holds Try.pinned (OpenSpec.ofChange ringStepsSpec)

/-- ITS FALSE NEIGHBOUR: 'it returns false'. Refute it at one input. -/
def ringStepsWrong : ChangeSpec := { name := "ringSteps", fn := fun _ => fun
  | [d1, d2] => { results := [.lit (.bool false)], args := [d1, d2] }
  | _ => none }
def RingStepsWrongFalsely : Prop := ringStepsRow.holds Try.pinned (OpenSpec.ofChange ringStepsWrong)

/-- 'ndjqlaw23.RingCredits': WHATEVER THE INPUT: true; the input reads as it did. -/
def ringCreditsSpec : ChangeSpec := { name := "ringCredits", fn := fun _ => fun
  | [d1, d2] => { results := [.lit (.bool true)], args := [d1, d2] }
  | _ => none }
def ringCreditsRow : OpenClaim := { program := "ytccgcljkgjboaaa", sum := "4716fecb705101ffdf2f97607a9fde1039e6f3fb4b1ecbd1803e5bd19f429e81", func := "ndjq/ndjqlaw23.RingCredits", spec := "ringCredits", apart := false }
def RingCreditsSaid : Prop := ringCreditsRow.holds Try.pinned (OpenSpec.ofChange ringCreditsSpec)

/-- ITS FALSE NEIGHBOUR: 'it returns false'. Refute it at one input. -/
def ringCreditsWrong : ChangeSpec := { name := "ringCredits", fn := fun _ => fun
  | [d1, d2] => { results := [.lit (.bool false)], args := [d1, d2] }
  | _ => none }
def RingCreditsWrongFalsely : Prop := ringCreditsRow.holds Try.pinned (OpenSpec.ofChange ringCreditsWrong)

/- THE SECOND FORM. 'bulk': how many values and letters a reading holds, each counted each time it is reached (what is shared counts as often as it is met; a slice's spare places count too). A statement '..UptoSaid' is the law's where the arguments, and the package variables that the reading takes, are together of bulk at most 1048576: NARROWER than '..Said'. Prove '..Said' where nothing that the law and all that it calls make is longer than what came in: it says more and counts as full. Else prove '..UptoSaid'. A law counts once. -/
mutual
def uptoBulk {H : Type} : DataW H → Nat
  | .lit (.string bytes) => bytes.length + 1
  | .lit _ => 1
  | .nil => 1
  | .ptr d => uptoBulk d + 1
  | .slice elems spare => uptoBulkAll elems + uptoBulkAll spare + 1
  | .agg parts => uptoBulkAll parts + 1
  | .iface _ d => uptoBulk d + 1
  | .map entries => uptoBulkEntries entries + 1
  | .held _ => 1
def uptoBulkAll {H : Type} : List (DataW H) → Nat
  | [] => 0
  | d :: r => uptoBulk d + uptoBulkAll r
def uptoBulkEntries {H : Type} : List (Lit × DataW H) → Nat
  | [] => 0
  | x :: r => uptoBulkEntry x + uptoBulkEntries r
def uptoBulkEntry {H : Type} : Lit × DataW H → Nat
  | (.string bytes, d) => bytes.length + uptoBulk d + 1
  | (_, d) => uptoBulk d + 1
 end
def uptoSmall : (H : Type) → List (DataW H) → Bool := fun _ ds => decide (uptoBulkAll ds ≤ 1048576)
def OpenSpec.upto (s : _root_.Go.ChangeSpec) : _root_.Go.OpenSpec := { _root_.Go.OpenSpec.ofChange s with cond := some uptoSmall }

/-- 'ndjqlaw23.RingRaw', WHERE WHAT IT READS IS OF BULK AT MOST 1048576: true; the input reads as it did. -/
def ringRawUptoRow : OpenClaim := { program := "ytccgcljkgjboaaa", sum := "4716fecb705101ffdf2f97607a9fde1039e6f3fb4b1ecbd1803e5bd19f429e81", func := "ndjq/ndjqlaw23.RingRaw", spec := "ringRaw", apart := false, narrowed := true }
def RingRawUptoSaid : Prop := ringRawUptoRow.holds Try.pinned (OpenSpec.upto ringRawSpec)

/-- 'ndjqlaw23.RingOrder', WHERE WHAT IT READS IS OF BULK AT MOST 1048576: true; the input reads as it did. -/
def ringOrderUptoRow : OpenClaim := { program := "ytccgcljkgjboaaa", sum := "4716fecb705101ffdf2f97607a9fde1039e6f3fb4b1ecbd1803e5bd19f429e81", func := "ndjq/ndjqlaw23.RingOrder", spec := "ringOrder", apart := false, narrowed := true }
def RingOrderUptoSaid : Prop := ringOrderUptoRow.holds Try.pinned (OpenSpec.upto ringOrderSpec)

/-- 'ndjqlaw23.RingSteps', WHERE WHAT IT READS IS OF BULK AT MOST 1048576: true; the input reads as it did. -/
def ringStepsUptoRow : OpenClaim := { program := "ytccgcljkgjboaaa", sum := "4716fecb705101ffdf2f97607a9fde1039e6f3fb4b1ecbd1803e5bd19f429e81", func := "ndjq/ndjqlaw23.RingSteps", spec := "ringSteps", apart := false, narrowed := true }
def RingStepsUptoSaid : Prop := ringStepsUptoRow.holds Try.pinned (OpenSpec.upto ringStepsSpec)

/-- 'ndjqlaw23.RingCredits', WHERE WHAT IT READS IS OF BULK AT MOST 1048576: true; the input reads as it did. -/
def ringCreditsUptoRow : OpenClaim := { program := "ytccgcljkgjboaaa", sum := "4716fecb705101ffdf2f97607a9fde1039e6f3fb4b1ecbd1803e5bd19f429e81", func := "ndjq/ndjqlaw23.RingCredits", spec := "ringCredits", apart := false, narrowed := true }
def RingCreditsUptoSaid : Prop := ringCreditsUptoRow.holds Try.pinned (OpenSpec.upto ringCreditsSpec)

end Rows
end Go.Proofs.Ytccgcljkgjboaaa
