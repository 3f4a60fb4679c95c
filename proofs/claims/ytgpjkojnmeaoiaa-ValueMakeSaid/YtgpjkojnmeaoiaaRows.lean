/-
  NARROWER THAN 'FOR EVERY INPUT', by the rows' own cells (each row's printed sentence says how): ValueMake: loops · ValueValid: loops · ValueGet: loops · ValueMembers: loops · ValueCompare: loops · ValueOrder: loops.
  DERIVED. THE GIVEN ROWS OF THIS SEAT. 7 by the template 'for every input the law returns true; each argument reads behind the call as it read before'; 0 by the template 'total and deterministic' (their statements: YtgpjkojnmeaoiaaTotals.lean).
  GIVEN WITH THE SEED: the statements are not yours to turn. If you find one false, say at which input.
  Laid BY PROGRAM, IN A SANDBOX (cutbox-rows.mjs): the forced cells as the released guide's own fill.sh prints them over the translation e5716e77ff5470e2… (all of the seat's roots in one cut). By AI agents, Wed Nov 11 2026. No macro, syntax, notation, axiom, sorry.
-/
import Derived.Test.YtgpjkojnmeaoiaaChecked
import GoSem.Claim
import GoSem.ClaimJoined
import GoSem.ClaimMapViews
import Derived.JoinedTies
import Derived.KernelRfl
namespace Go.Proofs.Ytgpjkojnmeaoiaa
/- THE CELL 'sum', in the pinned program and in every row, IS THE sha256 OF THE DUMP (.gsa) THAT YtgpjkojnmeaoiaaProg.lean LOADS. Nothing in Lean hashes anything: it is a label: what it is worth is what the hold of that sum in a sandbox is worth. -/
noncomputable def Try.pinned : Pinned := { name := "ytgpjkojnmeaoiaa", sum := "e5716e77ff5470e240dc0ae82a3a27f6941fae8cead79fc2bd8f74bc6fae194a", checked := Try.checked }
namespace Rows
def none {H : Type} : Left H := { results := [], args := [] }

/-- 'ndjqlaw02.ValueMake': WHATEVER THE INPUT: true; the input reads as it did. -/
def valueMakeSpec : ChangeSpec := { name := "valueMake", fn := fun _ => fun
  | [d1, d2, d3, d4, d5] => { results := [.lit (.bool true)], args := [d1, d2, d3, d4, d5] }
  | _ => none }
def valueMakeRow : OpenClaim := { program := "ytgpjkojnmeaoiaa", sum := "e5716e77ff5470e240dc0ae82a3a27f6941fae8cead79fc2bd8f74bc6fae194a", func := "ndjq/ndjqlaw02.ValueMake", spec := "valueMake", inPlace := ["internal/bytealg.abigen_runtime_cmpstring"], unfollowed := true, recurses := true, loops := true, apart := false }
def ValueMakeSaid : Prop := valueMakeRow.holds Try.pinned (OpenSpec.ofChange valueMakeSpec)

/-- ITS FALSE NEIGHBOUR: 'it returns false'. Refute it at one input. -/
def valueMakeWrong : ChangeSpec := { name := "valueMake", fn := fun _ => fun
  | [d1, d2, d3, d4, d5] => { results := [.lit (.bool false)], args := [d1, d2, d3, d4, d5] }
  | _ => none }
def ValueMakeWrongFalsely : Prop := valueMakeRow.holds Try.pinned (OpenSpec.ofChange valueMakeWrong)

/-- 'ndjqlaw02.ValueValid': WHATEVER THE INPUT: true; the input reads as it did. -/
def valueValidSpec : ChangeSpec := { name := "valueValid", fn := fun _ => fun
  | [d] => { results := [.lit (.bool true)], args := [d] }
  | _ => none }
def valueValidRow : OpenClaim := { program := "ytgpjkojnmeaoiaa", sum := "e5716e77ff5470e240dc0ae82a3a27f6941fae8cead79fc2bd8f74bc6fae194a", func := "ndjq/ndjqlaw02.ValueValid", spec := "valueValid", inPlace := ["internal/bytealg.abigen_runtime_cmpstring"], unfollowed := true, recurses := true, loops := true, apart := false }
def ValueValidSaid : Prop := valueValidRow.holds Try.pinned (OpenSpec.ofChange valueValidSpec)

/-- ITS FALSE NEIGHBOUR: 'it returns false'. Refute it at one input. -/
def valueValidWrong : ChangeSpec := { name := "valueValid", fn := fun _ => fun
  | [d] => { results := [.lit (.bool false)], args := [d] }
  | _ => none }
def ValueValidWrongFalsely : Prop := valueValidRow.holds Try.pinned (OpenSpec.ofChange valueValidWrong)

/-- 'ndjqlaw02.ValueLimits': WHATEVER THE INPUT: true; the input reads as it did. -/
def valueLimitsSpec : ChangeSpec := { name := "valueLimits", fn := fun _ => fun
  | [d1, d2, d3] => { results := [.lit (.bool true)], args := [d1, d2, d3] }
  | _ => none }
def valueLimitsRow : OpenClaim := { program := "ytgpjkojnmeaoiaa", sum := "e5716e77ff5470e240dc0ae82a3a27f6941fae8cead79fc2bd8f74bc6fae194a", func := "ndjq/ndjqlaw02.ValueLimits", spec := "valueLimits", inPlace := ["internal/bytealg.abigen_runtime_cmpstring"], unfollowed := true, recurses := true, apart := false }
def ValueLimitsSaid : Prop := valueLimitsRow.holds Try.pinned (OpenSpec.ofChange valueLimitsSpec)

/-- ITS FALSE NEIGHBOUR: 'it returns false'. Refute it at one input. -/
def valueLimitsWrong : ChangeSpec := { name := "valueLimits", fn := fun _ => fun
  | [d1, d2, d3] => { results := [.lit (.bool false)], args := [d1, d2, d3] }
  | _ => none }
def ValueLimitsWrongFalsely : Prop := valueLimitsRow.holds Try.pinned (OpenSpec.ofChange valueLimitsWrong)

/-- 'ndjqlaw02.ValueGet': WHATEVER THE INPUT: true; the input reads as it did. -/
def valueGetSpec : ChangeSpec := { name := "valueGet", fn := fun _ => fun
  | [d1, d2] => { results := [.lit (.bool true)], args := [d1, d2] }
  | _ => none }
def valueGetRow : OpenClaim := { program := "ytgpjkojnmeaoiaa", sum := "e5716e77ff5470e240dc0ae82a3a27f6941fae8cead79fc2bd8f74bc6fae194a", func := "ndjq/ndjqlaw02.ValueGet", spec := "valueGet", inPlace := ["internal/bytealg.abigen_runtime_cmpstring"], unfollowed := true, recurses := true, loops := true, apart := false }
def ValueGetSaid : Prop := valueGetRow.holds Try.pinned (OpenSpec.ofChange valueGetSpec)

/-- ITS FALSE NEIGHBOUR: 'it returns false'. Refute it at one input. -/
def valueGetWrong : ChangeSpec := { name := "valueGet", fn := fun _ => fun
  | [d1, d2] => { results := [.lit (.bool false)], args := [d1, d2] }
  | _ => none }
def ValueGetWrongFalsely : Prop := valueGetRow.holds Try.pinned (OpenSpec.ofChange valueGetWrong)

/-- 'ndjqlaw02.ValueMembers': WHATEVER THE INPUT: true; the input reads as it did. -/
def valueMembersSpec : ChangeSpec := { name := "valueMembers", fn := fun _ => fun
  | [d1, d2, d3] => { results := [.lit (.bool true)], args := [d1, d2, d3] }
  | _ => none }
def valueMembersRow : OpenClaim := { program := "ytgpjkojnmeaoiaa", sum := "e5716e77ff5470e240dc0ae82a3a27f6941fae8cead79fc2bd8f74bc6fae194a", func := "ndjq/ndjqlaw02.ValueMembers", spec := "valueMembers", inPlace := ["internal/bytealg.abigen_runtime_cmpstring"], unfollowed := true, recurses := true, loops := true, apart := false }
def ValueMembersSaid : Prop := valueMembersRow.holds Try.pinned (OpenSpec.ofChange valueMembersSpec)

/-- ITS FALSE NEIGHBOUR: 'it returns false'. Refute it at one input. -/
def valueMembersWrong : ChangeSpec := { name := "valueMembers", fn := fun _ => fun
  | [d1, d2, d3] => { results := [.lit (.bool false)], args := [d1, d2, d3] }
  | _ => none }
def ValueMembersWrongFalsely : Prop := valueMembersRow.holds Try.pinned (OpenSpec.ofChange valueMembersWrong)

/-- 'ndjqlaw02.ValueCompare': WHATEVER THE INPUT: true; the input reads as it did. -/
def valueCompareSpec : ChangeSpec := { name := "valueCompare", fn := fun _ => fun
  | [d1, d2] => { results := [.lit (.bool true)], args := [d1, d2] }
  | _ => none }
def valueCompareRow : OpenClaim := { program := "ytgpjkojnmeaoiaa", sum := "e5716e77ff5470e240dc0ae82a3a27f6941fae8cead79fc2bd8f74bc6fae194a", func := "ndjq/ndjqlaw02.ValueCompare", spec := "valueCompare", inPlace := ["internal/bytealg.abigen_runtime_cmpstring"], unfollowed := true, recurses := true, loops := true, apart := false }
def ValueCompareSaid : Prop := valueCompareRow.holds Try.pinned (OpenSpec.ofChange valueCompareSpec)

/-- ITS FALSE NEIGHBOUR: 'it returns false'. Refute it at one input. -/
def valueCompareWrong : ChangeSpec := { name := "valueCompare", fn := fun _ => fun
  | [d1, d2] => { results := [.lit (.bool false)], args := [d1, d2] }
  | _ => none }
def ValueCompareWrongFalsely : Prop := valueCompareRow.holds Try.pinned (OpenSpec.ofChange valueCompareWrong)

/-- 'ndjqlaw02.ValueOrder': WHATEVER THE INPUT: true; the input reads as it did. -/
def valueOrderSpec : ChangeSpec := { name := "valueOrder", fn := fun _ => fun
  | [d1, d2, d3] => { results := [.lit (.bool true)], args := [d1, d2, d3] }
  | _ => none }
def valueOrderRow : OpenClaim := { program := "ytgpjkojnmeaoiaa", sum := "e5716e77ff5470e240dc0ae82a3a27f6941fae8cead79fc2bd8f74bc6fae194a", func := "ndjq/ndjqlaw02.ValueOrder", spec := "valueOrder", inPlace := ["internal/bytealg.abigen_runtime_cmpstring"], unfollowed := true, recurses := true, loops := true, apart := false }
def ValueOrderSaid : Prop := valueOrderRow.holds Try.pinned (OpenSpec.ofChange valueOrderSpec)

/-- ITS FALSE NEIGHBOUR: 'it returns false'. Refute it at one input. -/
def valueOrderWrong : ChangeSpec := { name := "valueOrder", fn := fun _ => fun
  | [d1, d2, d3] => { results := [.lit (.bool false)], args := [d1, d2, d3] }
  | _ => none }
def ValueOrderWrongFalsely : Prop := valueOrderRow.holds Try.pinned (OpenSpec.ofChange valueOrderWrong)

/- THE SECOND FORM. 'bulk': how many values and letters a reading holds, each counted each time it is reached (what is shared counts as often as it is met; a slice's spare places count too). A statement '..UptoSaid' is the law's where the arguments, and the package variables that the reading takes, are together of bulk at most 1048576: NARROWER than '..Said'. Prove '..Said' where nothing that the law and all that it calls make is longer than what came in: it says more and counts as full. Else prove '..UptoSaid'. A law counts once. -/
mutual
def uptoBulk {H : Type} : DataW H → Nat
  | .lit (.string bytes) => bytes.length + 1
  | .lit _ => 1
  | .nil => 1
  | .ptr d => uptoBulk d + 1
  | .slice elems spare => uptoBulkAll elems + uptoBulkAll spare + 1
  | .agg parts => uptoBulkAll parts + 1
  | .iface _ d => uptoBulk d + 1
  | .map entries => uptoBulkEntries entries + 1
  | .held _ => 1
def uptoBulkAll {H : Type} : List (DataW H) → Nat
  | [] => 0
  | d :: r => uptoBulk d + uptoBulkAll r
def uptoBulkEntries {H : Type} : List (Lit × DataW H) → Nat
  | [] => 0
  | x :: r => uptoBulkEntry x + uptoBulkEntries r
def uptoBulkEntry {H : Type} : Lit × DataW H → Nat
  | (.string bytes, d) => bytes.length + uptoBulk d + 1
  | (_, d) => uptoBulk d + 1
 end
def uptoSmall : (H : Type) → List (DataW H) → Bool := fun _ ds => decide (uptoBulkAll ds ≤ 1048576)
def OpenSpec.upto (s : _root_.Go.ChangeSpec) : _root_.Go.OpenSpec := { _root_.Go.OpenSpec.ofChange s with cond := some uptoSmall }

/-- 'ndjqlaw02.ValueMake', WHERE WHAT IT READS IS OF BULK AT MOST 1048576: true; the input reads as it did. -/
def valueMakeUptoRow : OpenClaim := { program := "ytgpjkojnmeaoiaa", sum := "e5716e77ff5470e240dc0ae82a3a27f6941fae8cead79fc2bd8f74bc6fae194a", func := "ndjq/ndjqlaw02.ValueMake", spec := "valueMake", inPlace := ["internal/bytealg.abigen_runtime_cmpstring"], unfollowed := true, recurses := true, loops := true, apart := false, narrowed := true }
def ValueMakeUptoSaid : Prop := valueMakeUptoRow.holds Try.pinned (OpenSpec.upto valueMakeSpec)

/-- 'ndjqlaw02.ValueValid', WHERE WHAT IT READS IS OF BULK AT MOST 1048576: true; the input reads as it did. -/
def valueValidUptoRow : OpenClaim := { program := "ytgpjkojnmeaoiaa", sum := "e5716e77ff5470e240dc0ae82a3a27f6941fae8cead79fc2bd8f74bc6fae194a", func := "ndjq/ndjqlaw02.ValueValid", spec := "valueValid", inPlace := ["internal/bytealg.abigen_runtime_cmpstring"], unfollowed := true, recurses := true, loops := true, apart := false, narrowed := true }
def ValueValidUptoSaid : Prop := valueValidUptoRow.holds Try.pinned (OpenSpec.upto valueValidSpec)

/-- 'ndjqlaw02.ValueLimits', WHERE WHAT IT READS IS OF BULK AT MOST 1048576: true; the input reads as it did. -/
def valueLimitsUptoRow : OpenClaim := { program := "ytgpjkojnmeaoiaa", sum := "e5716e77ff5470e240dc0ae82a3a27f6941fae8cead79fc2bd8f74bc6fae194a", func := "ndjq/ndjqlaw02.ValueLimits", spec := "valueLimits", inPlace := ["internal/bytealg.abigen_runtime_cmpstring"], unfollowed := true, recurses := true, apart := false, narrowed := true }
def ValueLimitsUptoSaid : Prop := valueLimitsUptoRow.holds Try.pinned (OpenSpec.upto valueLimitsSpec)

/-- 'ndjqlaw02.ValueGet', WHERE WHAT IT READS IS OF BULK AT MOST 1048576: true; the input reads as it did. -/
def valueGetUptoRow : OpenClaim := { program := "ytgpjkojnmeaoiaa", sum := "e5716e77ff5470e240dc0ae82a3a27f6941fae8cead79fc2bd8f74bc6fae194a", func := "ndjq/ndjqlaw02.ValueGet", spec := "valueGet", inPlace := ["internal/bytealg.abigen_runtime_cmpstring"], unfollowed := true, recurses := true, loops := true, apart := false, narrowed := true }
def ValueGetUptoSaid : Prop := valueGetUptoRow.holds Try.pinned (OpenSpec.upto valueGetSpec)

/-- 'ndjqlaw02.ValueMembers', WHERE WHAT IT READS IS OF BULK AT MOST 1048576: true; the input reads as it did. -/
def valueMembersUptoRow : OpenClaim := { program := "ytgpjkojnmeaoiaa", sum := "e5716e77ff5470e240dc0ae82a3a27f6941fae8cead79fc2bd8f74bc6fae194a", func := "ndjq/ndjqlaw02.ValueMembers", spec := "valueMembers", inPlace := ["internal/bytealg.abigen_runtime_cmpstring"], unfollowed := true, recurses := true, loops := true, apart := false, narrowed := true }
def ValueMembersUptoSaid : Prop := valueMembersUptoRow.holds Try.pinned (OpenSpec.upto valueMembersSpec)

/-- 'ndjqlaw02.ValueCompare', WHERE WHAT IT READS IS OF BULK AT MOST 1048576: true; the input reads as it did. -/
def valueCompareUptoRow : OpenClaim := { program := "ytgpjkojnmeaoiaa", sum := "e5716e77ff5470e240dc0ae82a3a27f6941fae8cead79fc2bd8f74bc6fae194a", func := "ndjq/ndjqlaw02.ValueCompare", spec := "valueCompare", inPlace := ["internal/bytealg.abigen_runtime_cmpstring"], unfollowed := true, recurses := true, loops := true, apart := false, narrowed := true }
def ValueCompareUptoSaid : Prop := valueCompareUptoRow.holds Try.pinned (OpenSpec.upto valueCompareSpec)

/-- 'ndjqlaw02.ValueOrder', WHERE WHAT IT READS IS OF BULK AT MOST 1048576: true; the input reads as it did. -/
def valueOrderUptoRow : OpenClaim := { program := "ytgpjkojnmeaoiaa", sum := "e5716e77ff5470e240dc0ae82a3a27f6941fae8cead79fc2bd8f74bc6fae194a", func := "ndjq/ndjqlaw02.ValueOrder", spec := "valueOrder", inPlace := ["internal/bytealg.abigen_runtime_cmpstring"], unfollowed := true, recurses := true, loops := true, apart := false, narrowed := true }
def ValueOrderUptoSaid : Prop := valueOrderUptoRow.holds Try.pinned (OpenSpec.upto valueOrderSpec)

end Rows
end Go.Proofs.Ytgpjkojnmeaoiaa
