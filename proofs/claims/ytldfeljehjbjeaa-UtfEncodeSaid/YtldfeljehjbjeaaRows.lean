/-
  No cell of these rows narrows 'for every input' (looked for: loops, veiled, ifaces, maps, wideKeys, modest, calm, conditions, laid).
  DERIVED. THE GIVEN ROWS OF THIS SEAT. 6 by the template 'for every input the law returns true; each argument reads behind the call as it read before'; 0 by the template 'total and deterministic' (their statements: YtldfeljehjbjeaaTotals.lean).
  GIVEN WITH THE SEED: the statements are not yours to turn. If you find one false, say at which input.
  Laid BY PROGRAM, IN A SANDBOX (cutbox-rows.mjs): the forced cells as the released guide's own fill.sh prints them over the translation ee35e4de982af3f8… (all of the seat's roots in one cut). By AI agents, Wed Nov 11 2026. No macro, syntax, notation, axiom, sorry.
-/
import Derived.Test.YtldfeljehjbjeaaChecked
import GoSem.Claim
import GoSem.ClaimJoined
import GoSem.ClaimMapViews
import Derived.JoinedTies
import Derived.KernelRfl
namespace Go.Proofs.Ytldfeljehjbjeaa
/- THE CELL 'sum', in the pinned program and in every row, IS THE sha256 OF THE DUMP (.gsa) THAT YtldfeljehjbjeaaProg.lean LOADS. Nothing in Lean hashes anything: it is a label: what it is worth is what the hold of that sum in a sandbox is worth. -/
noncomputable def Try.pinned : Pinned := { name := "ytldfeljehjbjeaa", sum := "ee35e4de982af3f80b864eef1f37e18a3dbfbd199a386e0d014db4a19566784a", checked := Try.checked }
namespace Rows
def none {H : Type} : Left H := { results := [], args := [] }

/-- 'ndjqlaw01.UtfDecode': WHATEVER THE INPUT: true; the input reads as it did. -/
def utfDecodeSpec : ChangeSpec := { name := "utfDecode", fn := fun _ => fun
  | [d1, d2] => { results := [.lit (.bool true)], args := [d1, d2] }
  | _ => none }
def utfDecodeRow : OpenClaim := { program := "ytldfeljehjbjeaa", sum := "ee35e4de982af3f80b864eef1f37e18a3dbfbd199a386e0d014db4a19566784a", func := "ndjq/ndjqlaw01.UtfDecode", spec := "utfDecode", apart := false }
def UtfDecodeSaid : Prop := utfDecodeRow.holds Try.pinned (OpenSpec.ofChange utfDecodeSpec)

/-- ITS FALSE NEIGHBOUR: 'it returns false'. Refute it at one input. -/
def utfDecodeWrong : ChangeSpec := { name := "utfDecode", fn := fun _ => fun
  | [d1, d2] => { results := [.lit (.bool false)], args := [d1, d2] }
  | _ => none }
def UtfDecodeWrongFalsely : Prop := utfDecodeRow.holds Try.pinned (OpenSpec.ofChange utfDecodeWrong)

/-- 'ndjqlaw01.UtfEncode': WHATEVER THE INPUT: true; the input reads as it did. -/
def utfEncodeSpec : ChangeSpec := { name := "utfEncode", fn := fun _ => fun
  | [d1, d2, d3] => { results := [.lit (.bool true)], args := [d1, d2, d3] }
  | _ => none }
def utfEncodeRow : OpenClaim := { program := "ytldfeljehjbjeaa", sum := "ee35e4de982af3f80b864eef1f37e18a3dbfbd199a386e0d014db4a19566784a", func := "ndjq/ndjqlaw01.UtfEncode", spec := "utfEncode", apart := false }
def UtfEncodeSaid : Prop := utfEncodeRow.holds Try.pinned (OpenSpec.ofChange utfEncodeSpec)

/-- ITS FALSE NEIGHBOUR: 'it returns false'. Refute it at one input. -/
def utfEncodeWrong : ChangeSpec := { name := "utfEncode", fn := fun _ => fun
  | [d1, d2, d3] => { results := [.lit (.bool false)], args := [d1, d2, d3] }
  | _ => none }
def UtfEncodeWrongFalsely : Prop := utfEncodeRow.holds Try.pinned (OpenSpec.ofChange utfEncodeWrong)

/-- 'ndjqlaw01.UtfSlice': WHATEVER THE INPUT: true; the input reads as it did. -/
def utfSliceSpec : ChangeSpec := { name := "utfSlice", fn := fun _ => fun
  | [d1, d2, d3] => { results := [.lit (.bool true)], args := [d1, d2, d3] }
  | _ => none }
def utfSliceRow : OpenClaim := { program := "ytldfeljehjbjeaa", sum := "ee35e4de982af3f80b864eef1f37e18a3dbfbd199a386e0d014db4a19566784a", func := "ndjq/ndjqlaw01.UtfSlice", spec := "utfSlice", apart := false }
def UtfSliceSaid : Prop := utfSliceRow.holds Try.pinned (OpenSpec.ofChange utfSliceSpec)

/-- ITS FALSE NEIGHBOUR: 'it returns false'. Refute it at one input. -/
def utfSliceWrong : ChangeSpec := { name := "utfSlice", fn := fun _ => fun
  | [d1, d2, d3] => { results := [.lit (.bool false)], args := [d1, d2, d3] }
  | _ => none }
def UtfSliceWrongFalsely : Prop := utfSliceRow.holds Try.pinned (OpenSpec.ofChange utfSliceWrong)

/-- 'ndjqlaw01.UtfParts': WHATEVER THE INPUT: true; the input reads as it did. -/
def utfPartsSpec : ChangeSpec := { name := "utfParts", fn := fun _ => fun
  | [d1, d2, d3] => { results := [.lit (.bool true)], args := [d1, d2, d3] }
  | _ => none }
def utfPartsRow : OpenClaim := { program := "ytldfeljehjbjeaa", sum := "ee35e4de982af3f80b864eef1f37e18a3dbfbd199a386e0d014db4a19566784a", func := "ndjq/ndjqlaw01.UtfParts", spec := "utfParts", apart := false }
def UtfPartsSaid : Prop := utfPartsRow.holds Try.pinned (OpenSpec.ofChange utfPartsSpec)

/-- ITS FALSE NEIGHBOUR: 'it returns false'. Refute it at one input. -/
def utfPartsWrong : ChangeSpec := { name := "utfParts", fn := fun _ => fun
  | [d1, d2, d3] => { results := [.lit (.bool false)], args := [d1, d2, d3] }
  | _ => none }
def UtfPartsWrongFalsely : Prop := utfPartsRow.holds Try.pinned (OpenSpec.ofChange utfPartsWrong)

/-- 'ndjqlaw01.UtfShortest': WHATEVER THE INPUT: true; the input reads as it did. -/
def utfShortestSpec : ChangeSpec := { name := "utfShortest", fn := fun _ => fun
  | [d] => { results := [.lit (.bool true)], args := [d] }
  | _ => none }
def utfShortestRow : OpenClaim := { program := "ytldfeljehjbjeaa", sum := "ee35e4de982af3f80b864eef1f37e18a3dbfbd199a386e0d014db4a19566784a", func := "ndjq/ndjqlaw01.UtfShortest", spec := "utfShortest", apart := false }
def UtfShortestSaid : Prop := utfShortestRow.holds Try.pinned (OpenSpec.ofChange utfShortestSpec)

/-- ITS FALSE NEIGHBOUR: 'it returns false'. Refute it at one input. -/
def utfShortestWrong : ChangeSpec := { name := "utfShortest", fn := fun _ => fun
  | [d] => { results := [.lit (.bool false)], args := [d] }
  | _ => none }
def UtfShortestWrongFalsely : Prop := utfShortestRow.holds Try.pinned (OpenSpec.ofChange utfShortestWrong)

/-- 'ndjqlaw01.UtfRoundTrip': WHATEVER THE INPUT: true; the input reads as it did. -/
def utfRoundTripSpec : ChangeSpec := { name := "utfRoundTrip", fn := fun _ => fun
  | [d1, d2] => { results := [.lit (.bool true)], args := [d1, d2] }
  | _ => none }
def utfRoundTripRow : OpenClaim := { program := "ytldfeljehjbjeaa", sum := "ee35e4de982af3f80b864eef1f37e18a3dbfbd199a386e0d014db4a19566784a", func := "ndjq/ndjqlaw01.UtfRoundTrip", spec := "utfRoundTrip", apart := false }
def UtfRoundTripSaid : Prop := utfRoundTripRow.holds Try.pinned (OpenSpec.ofChange utfRoundTripSpec)

/-- ITS FALSE NEIGHBOUR: 'it returns false'. Refute it at one input. -/
def utfRoundTripWrong : ChangeSpec := { name := "utfRoundTrip", fn := fun _ => fun
  | [d1, d2] => { results := [.lit (.bool false)], args := [d1, d2] }
  | _ => none }
def UtfRoundTripWrongFalsely : Prop := utfRoundTripRow.holds Try.pinned (OpenSpec.ofChange utfRoundTripWrong)

/- THE SECOND FORM. 'bulk': how many values and letters a reading holds, each counted each time it is reached (what is shared counts as often as it is met; a slice's spare places count too). A statement '..UptoSaid' is the law's where the arguments, and the package variables that the reading takes, are together of bulk at most 1048576: NARROWER than '..Said'. Prove '..Said' where nothing that the law and all that it calls make is longer than what came in: it says more and counts as full. Else prove '..UptoSaid'. A law counts once. -/
mutual
def uptoBulk {H : Type} : DataW H → Nat
  | .lit (.string bytes) => bytes.length + 1
  | .lit _ => 1
  | .nil => 1
  | .ptr d => uptoBulk d + 1
  | .slice elems spare => uptoBulkAll elems + uptoBulkAll spare + 1
  | .agg parts => uptoBulkAll parts + 1
  | .iface _ d => uptoBulk d + 1
  | .map entries => uptoBulkEntries entries + 1
  | .held _ => 1
def uptoBulkAll {H : Type} : List (DataW H) → Nat
  | [] => 0
  | d :: r => uptoBulk d + uptoBulkAll r
def uptoBulkEntries {H : Type} : List (Lit × DataW H) → Nat
  | [] => 0
  | x :: r => uptoBulkEntry x + uptoBulkEntries r
def uptoBulkEntry {H : Type} : Lit × DataW H → Nat
  | (.string bytes, d) => bytes.length + uptoBulk d + 1
  | (_, d) => uptoBulk d + 1
 end
def uptoSmall : (H : Type) → List (DataW H) → Bool := fun _ ds => decide (uptoBulkAll ds ≤ 1048576)
def OpenSpec.upto (s : _root_.Go.ChangeSpec) : _root_.Go.OpenSpec := { _root_.Go.OpenSpec.ofChange s with cond := some uptoSmall }

/-- 'ndjqlaw01.UtfDecode', WHERE WHAT IT READS IS OF BULK AT MOST 1048576: true; the input reads as it did. -/
def utfDecodeUptoRow : OpenClaim := { program := "ytldfeljehjbjeaa", sum := "ee35e4de982af3f80b864eef1f37e18a3dbfbd199a386e0d014db4a19566784a", func := "ndjq/ndjqlaw01.UtfDecode", spec := "utfDecode", apart := false, narrowed := true }
def UtfDecodeUptoSaid : Prop := utfDecodeUptoRow.holds Try.pinned (OpenSpec.upto utfDecodeSpec)

/-- 'ndjqlaw01.UtfEncode', WHERE WHAT IT READS IS OF BULK AT MOST 1048576: true; the input reads as it did. -/
def utfEncodeUptoRow : OpenClaim := { program := "ytldfeljehjbjeaa", sum := "ee35e4de982af3f80b864eef1f37e18a3dbfbd199a386e0d014db4a19566784a", func := "ndjq/ndjqlaw01.UtfEncode", spec := "utfEncode", apart := false, narrowed := true }
def UtfEncodeUptoSaid : Prop := utfEncodeUptoRow.holds Try.pinned (OpenSpec.upto utfEncodeSpec)

/-- 'ndjqlaw01.UtfSlice', WHERE WHAT IT READS IS OF BULK AT MOST 1048576: true; the input reads as it did. -/
def utfSliceUptoRow : OpenClaim := { program := "ytldfeljehjbjeaa", sum := "ee35e4de982af3f80b864eef1f37e18a3dbfbd199a386e0d014db4a19566784a", func := "ndjq/ndjqlaw01.UtfSlice", spec := "utfSlice", apart := false, narrowed := true }
def UtfSliceUptoSaid : Prop := utfSliceUptoRow.holds Try.pinned (OpenSpec.upto utfSliceSpec)

/-- 'ndjqlaw01.UtfParts', WHERE WHAT IT READS IS OF BULK AT MOST 1048576: true; the input reads as it did. -/
def utfPartsUptoRow : OpenClaim := { program := "ytldfeljehjbjeaa", sum := "ee35e4de982af3f80b864eef1f37e18a3dbfbd199a386e0d014db4a19566784a", func := "ndjq/ndjqlaw01.UtfParts", spec := "utfParts", apart := false, narrowed := true }
def UtfPartsUptoSaid : Prop := utfPartsUptoRow.holds Try.pinned (OpenSpec.upto utfPartsSpec)

/-- 'ndjqlaw01.UtfShortest', WHERE WHAT IT READS IS OF BULK AT MOST 1048576: true; the input reads as it did. -/
def utfShortestUptoRow : OpenClaim := { program := "ytldfeljehjbjeaa", sum := "ee35e4de982af3f80b864eef1f37e18a3dbfbd199a386e0d014db4a19566784a", func := "ndjq/ndjqlaw01.UtfShortest", spec := "utfShortest", apart := false, narrowed := true }
def UtfShortestUptoSaid : Prop := utfShortestUptoRow.holds Try.pinned (OpenSpec.upto utfShortestSpec)

/-- 'ndjqlaw01.UtfRoundTrip', WHERE WHAT IT READS IS OF BULK AT MOST 1048576: true; the input reads as it did. -/
def utfRoundTripUptoRow : OpenClaim := { program := "ytldfeljehjbjeaa", sum := "ee35e4de982af3f80b864eef1f37e18a3dbfbd199a386e0d014db4a19566784a", func := "ndjq/ndjqlaw01.UtfRoundTrip", spec := "utfRoundTrip", apart := false, narrowed := true }
def UtfRoundTripUptoSaid : Prop := utfRoundTripUptoRow.holds Try.pinned (OpenSpec.upto utfRoundTripSpec)

end Rows
end Go.Proofs.Ytldfeljehjbjeaa
