/-
  DERIVED. GIVEN WITH THE SEED: THE CARDS: each row of YtjejjhpmiinanaaDoorRows.lean that lists a variable, with what it lists TIED to the program's text (the seventh form; the later family's looks); each row that meets fmt, with fmt's text TOLD by the authors' own Lean function (tested against real Go, not proved from fmt's source: count such statements apart). THE CARD IS WHAT COUNTS. Prove the row's statement (the work); the ties are given (YtjejjhpmiinanaaDoorTie.lean); close each card by the builder's one call (the guide's Derived/Test/ToyasCard.lean, 'card_holds'). Laid BY PROGRAM, IN A SANDBOX (cutbox-door.mjs). By AI agents, Wed Nov 11 2026. No macro, syntax, notation, axiom, sorry.
-/
import Derived.Test.YtjejjhpmiinanaaDoorRows
import GoSem.ClaimSeven
namespace Go.Proofs.YtjejjhpmiinanaaDoor
namespace Rows

/-- THE TIED CARD OF 'ndjqlaw18.AutomatonStep'. -/
def automatonStepCard : Claim7 := { stood := { row := automatonStepRow, standIns := [], harness := (true, "325985b111f9b1be5adb5a9504a07d319337c35dbf714df1a3dfbda2b538ab3e"), looks := false }, kinds := [], alts := [], laidByText := true, laidKinds := [.data], laidTests := true, laidLooks := .later }
def AutomatonStepCardSaid : Prop := Claim7.holds Tryd.pinned (.plain (OpenSpec.ofChange automatonStepSpec)) automatonStepCard

/-- THE TIED CARD OF 'ndjqlaw18.AutomatonQuotes'. -/
def automatonQuotesCard : Claim7 := { stood := { row := automatonQuotesRow, standIns := [], harness := (true, "325985b111f9b1be5adb5a9504a07d319337c35dbf714df1a3dfbda2b538ab3e"), looks := false }, kinds := [], alts := [], laidByText := true, laidKinds := [.data], laidTests := true, laidLooks := .later }
def AutomatonQuotesCardSaid : Prop := Claim7.holds Tryd.pinned (.plain (OpenSpec.ofChange automatonQuotesSpec)) automatonQuotesCard

/-- THE TIED CARD OF 'ndjqlaw18.AutomatonBytes'. -/
def automatonBytesCard : Claim7 := { stood := { row := automatonBytesRow, standIns := [], harness := (true, "325985b111f9b1be5adb5a9504a07d319337c35dbf714df1a3dfbda2b538ab3e"), looks := false }, kinds := [], alts := [], laidByText := true, laidKinds := [.data], laidTests := true, laidLooks := .later }
def AutomatonBytesCardSaid : Prop := Claim7.holds Tryd.pinned (.plain (OpenSpec.ofChange automatonBytesSpec)) automatonBytesCard

/-- THE TIED CARD OF 'ndjqlaw18.AutomatonConcat'. -/
def automatonConcatCard : Claim7 := { stood := { row := automatonConcatRow, standIns := [], harness := (true, "325985b111f9b1be5adb5a9504a07d319337c35dbf714df1a3dfbda2b538ab3e"), looks := false }, kinds := [], alts := [], laidByText := true, laidKinds := [.data], laidTests := true, laidLooks := .later }
def AutomatonConcatCardSaid : Prop := Claim7.holds Tryd.pinned (.plain (OpenSpec.ofChange automatonConcatSpec)) automatonConcatCard

/-- THE TIED CARD OF 'ndjqlaw18.AutomatonMonoid'. -/
def automatonMonoidCard : Claim7 := { stood := { row := automatonMonoidRow, standIns := [], harness := (true, "325985b111f9b1be5adb5a9504a07d319337c35dbf714df1a3dfbda2b538ab3e"), looks := false }, kinds := [], alts := [], laidByText := true, laidKinds := [.data], laidTests := true, laidLooks := .later }
def AutomatonMonoidCardSaid : Prop := Claim7.holds Tryd.pinned (.plain (OpenSpec.ofChange automatonMonoidSpec)) automatonMonoidCard

/-- THE TIED CARD OF 'ndjqlaw18.AutomatonRaw'. -/
def automatonRawCard : Claim7 := { stood := { row := automatonRawRow, standIns := [], harness := (true, "325985b111f9b1be5adb5a9504a07d319337c35dbf714df1a3dfbda2b538ab3e"), looks := false }, kinds := [], alts := [], laidByText := true, laidKinds := [.data], laidTests := true, laidLooks := .later }
def AutomatonRawCardSaid : Prop := Claim7.holds Tryd.pinned (.plain (OpenSpec.ofChange automatonRawSpec)) automatonRawCard

/-- THE SECOND FORM's CARD OF 'ndjqlaw18.AutomatonStep'. -/
def automatonStepUptoCard : Claim7 := { stood := { row := automatonStepUptoRow, standIns := [], harness := (true, "325985b111f9b1be5adb5a9504a07d319337c35dbf714df1a3dfbda2b538ab3e"), looks := false }, kinds := [], alts := [], laidByText := true, laidKinds := [.data], laidTests := true, laidLooks := .later }
def AutomatonStepUptoCardSaid : Prop := Claim7.holds Tryd.pinned (.plain (OpenSpec.upto automatonStepSpec)) automatonStepUptoCard

/-- THE SECOND FORM's CARD OF 'ndjqlaw18.AutomatonQuotes'. -/
def automatonQuotesUptoCard : Claim7 := { stood := { row := automatonQuotesUptoRow, standIns := [], harness := (true, "325985b111f9b1be5adb5a9504a07d319337c35dbf714df1a3dfbda2b538ab3e"), looks := false }, kinds := [], alts := [], laidByText := true, laidKinds := [.data], laidTests := true, laidLooks := .later }
def AutomatonQuotesUptoCardSaid : Prop := Claim7.holds Tryd.pinned (.plain (OpenSpec.upto automatonQuotesSpec)) automatonQuotesUptoCard

/-- THE SECOND FORM's CARD OF 'ndjqlaw18.AutomatonBytes'. -/
def automatonBytesUptoCard : Claim7 := { stood := { row := automatonBytesUptoRow, standIns := [], harness := (true, "325985b111f9b1be5adb5a9504a07d319337c35dbf714df1a3dfbda2b538ab3e"), looks := false }, kinds := [], alts := [], laidByText := true, laidKinds := [.data], laidTests := true, laidLooks := .later }
def AutomatonBytesUptoCardSaid : Prop := Claim7.holds Tryd.pinned (.plain (OpenSpec.upto automatonBytesSpec)) automatonBytesUptoCard

/-- THE SECOND FORM's CARD OF 'ndjqlaw18.AutomatonConcat'. -/
def automatonConcatUptoCard : Claim7 := { stood := { row := automatonConcatUptoRow, standIns := [], harness := (true, "325985b111f9b1be5adb5a9504a07d319337c35dbf714df1a3dfbda2b538ab3e"), looks := false }, kinds := [], alts := [], laidByText := true, laidKinds := [.data], laidTests := true, laidLooks := .later }
def AutomatonConcatUptoCardSaid : Prop := Claim7.holds Tryd.pinned (.plain (OpenSpec.upto automatonConcatSpec)) automatonConcatUptoCard

/-- THE SECOND FORM's CARD OF 'ndjqlaw18.AutomatonMonoid'. -/
def automatonMonoidUptoCard : Claim7 := { stood := { row := automatonMonoidUptoRow, standIns := [], harness := (true, "325985b111f9b1be5adb5a9504a07d319337c35dbf714df1a3dfbda2b538ab3e"), looks := false }, kinds := [], alts := [], laidByText := true, laidKinds := [.data], laidTests := true, laidLooks := .later }
def AutomatonMonoidUptoCardSaid : Prop := Claim7.holds Tryd.pinned (.plain (OpenSpec.upto automatonMonoidSpec)) automatonMonoidUptoCard

/-- THE SECOND FORM's CARD OF 'ndjqlaw18.AutomatonRaw'. -/
def automatonRawUptoCard : Claim7 := { stood := { row := automatonRawUptoRow, standIns := [], harness := (true, "325985b111f9b1be5adb5a9504a07d319337c35dbf714df1a3dfbda2b538ab3e"), looks := false }, kinds := [], alts := [], laidByText := true, laidKinds := [.data], laidTests := true, laidLooks := .later }
def AutomatonRawUptoCardSaid : Prop := Claim7.holds Tryd.pinned (.plain (OpenSpec.upto automatonRawSpec)) automatonRawUptoCard
end Rows
end Go.Proofs.YtjejjhpmiinanaaDoor
