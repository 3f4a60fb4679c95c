/-
  DERIVED. GIVEN WITH THE SEED: THE CARDS: each row of YtdnpefbnfkfloaaDoorRows.lean that lists a variable, with what it lists TIED to the program's text (the seventh form; the later family's looks); each row that meets fmt, with fmt's text TOLD by the authors' own Lean function (tested against real Go, not proved from fmt's source: count such statements apart). THE CARD IS WHAT COUNTS. Prove the row's statement (the work); the ties are given (YtdnpefbnfkfloaaDoorTie.lean); close each card by the builder's one call (the guide's Derived/Test/ToyasCard.lean, 'card_holds'). Laid BY PROGRAM, IN A SANDBOX (cutbox-door.mjs). By AI agents, Wed Nov 11 2026. No macro, syntax, notation, axiom, sorry.
-/
import Derived.Test.YtdnpefbnfkfloaaDoorRows
import GoSem.ClaimSeven
namespace Go.Proofs.YtdnpefbnfkfloaaDoor
namespace Rows

/-- THE TIED CARD OF 'ndjqlaw19.SplitRecords'. -/
def splitRecordsCard : Claim7 := { stood := { row := splitRecordsRow, standIns := [], harness := (true, "9d563f6cfb97d60bc972cc509a97e93b052fd05c285039151eab7c80d07598bf"), looks := false }, kinds := [], alts := [], laidByText := true, laidKinds := [.data], laidTests := true, laidLooks := .later }
def SplitRecordsCardSaid : Prop := Claim7.holds Tryd.pinned (.plain (OpenSpec.ofChange splitRecordsSpec)) splitRecordsCard

/-- THE TIED CARD OF 'ndjqlaw19.SplitWhole'. -/
def splitWholeCard : Claim7 := { stood := { row := splitWholeRow, standIns := [], harness := (true, "9d563f6cfb97d60bc972cc509a97e93b052fd05c285039151eab7c80d07598bf"), looks := false }, kinds := [], alts := [], laidByText := true, laidKinds := [.data], laidTests := true, laidLooks := .later }
def SplitWholeCardSaid : Prop := Claim7.holds Tryd.pinned (.plain (OpenSpec.ofChange splitWholeSpec)) splitWholeCard

/-- THE TIED CARD OF 'ndjqlaw19.SplitJoin'. -/
def splitJoinCard : Claim7 := { stood := { row := splitJoinRow, standIns := [], harness := (true, "9d563f6cfb97d60bc972cc509a97e93b052fd05c285039151eab7c80d07598bf"), looks := false }, kinds := [], alts := [], laidByText := true, laidKinds := [.data], laidTests := true, laidLooks := .later }
def SplitJoinCardSaid : Prop := Claim7.holds Tryd.pinned (.plain (OpenSpec.ofChange splitJoinSpec)) splitJoinCard

/-- THE TIED CARD OF 'ndjqlaw19.SplitLimit'. -/
def splitLimitCard : Claim7 := { stood := { row := splitLimitRow, standIns := [], harness := (true, "9d563f6cfb97d60bc972cc509a97e93b052fd05c285039151eab7c80d07598bf"), looks := false }, kinds := [], alts := [], laidByText := true, laidKinds := [.data], laidTests := true, laidLooks := .later }
def SplitLimitCardSaid : Prop := Claim7.holds Tryd.pinned (.plain (OpenSpec.ofChange splitLimitSpec)) splitLimitCard

/-- THE SECOND FORM's CARD OF 'ndjqlaw19.SplitRecords'. -/
def splitRecordsUptoCard : Claim7 := { stood := { row := splitRecordsUptoRow, standIns := [], harness := (true, "9d563f6cfb97d60bc972cc509a97e93b052fd05c285039151eab7c80d07598bf"), looks := false }, kinds := [], alts := [], laidByText := true, laidKinds := [.data], laidTests := true, laidLooks := .later }
def SplitRecordsUptoCardSaid : Prop := Claim7.holds Tryd.pinned (.plain (OpenSpec.upto splitRecordsSpec)) splitRecordsUptoCard

/-- THE SECOND FORM's CARD OF 'ndjqlaw19.SplitWhole'. -/
def splitWholeUptoCard : Claim7 := { stood := { row := splitWholeUptoRow, standIns := [], harness := (true, "9d563f6cfb97d60bc972cc509a97e93b052fd05c285039151eab7c80d07598bf"), looks := false }, kinds := [], alts := [], laidByText := true, laidKinds := [.data], laidTests := true, laidLooks := .later }
def SplitWholeUptoCardSaid : Prop := Claim7.holds Tryd.pinned (.plain (OpenSpec.upto splitWholeSpec)) splitWholeUptoCard

/-- THE SECOND FORM's CARD OF 'ndjqlaw19.SplitJoin'. -/
def splitJoinUptoCard : Claim7 := { stood := { row := splitJoinUptoRow, standIns := [], harness := (true, "9d563f6cfb97d60bc972cc509a97e93b052fd05c285039151eab7c80d07598bf"), looks := false }, kinds := [], alts := [], laidByText := true, laidKinds := [.data], laidTests := true, laidLooks := .later }
def SplitJoinUptoCardSaid : Prop := Claim7.holds Tryd.pinned (.plain (OpenSpec.upto splitJoinSpec)) splitJoinUptoCard

/-- THE SECOND FORM's CARD OF 'ndjqlaw19.SplitLimit'. -/
def splitLimitUptoCard : Claim7 := { stood := { row := splitLimitUptoRow, standIns := [], harness := (true, "9d563f6cfb97d60bc972cc509a97e93b052fd05c285039151eab7c80d07598bf"), looks := false }, kinds := [], alts := [], laidByText := true, laidKinds := [.data], laidTests := true, laidLooks := .later }
def SplitLimitUptoCardSaid : Prop := Claim7.holds Tryd.pinned (.plain (OpenSpec.upto splitLimitSpec)) splitLimitUptoCard
end Rows
end Go.Proofs.YtdnpefbnfkfloaaDoor
