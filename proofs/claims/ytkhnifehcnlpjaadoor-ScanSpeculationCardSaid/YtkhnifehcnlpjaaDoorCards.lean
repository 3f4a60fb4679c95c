/-
  DERIVED. GIVEN WITH THE SEED: THE CARDS: each row of YtkhnifehcnlpjaaDoorRows.lean that lists a variable, with what it lists TIED to the program's text (the seventh form; the later family's looks); each row that meets fmt, with fmt's text TOLD by the authors' own Lean function (tested against real Go, not proved from fmt's source: count such statements apart). THE CARD IS WHAT COUNTS. Prove the row's statement (the work); the ties are given (YtkhnifehcnlpjaaDoorTie.lean); close each card by the builder's one call (the guide's Derived/Test/ToyasCard.lean, 'card_holds'). Laid BY PROGRAM, IN A SANDBOX (cutbox-door.mjs). By AI agents, Wed Nov 11 2026. No macro, syntax, notation, axiom, sorry.
-/
import Derived.Test.YtkhnifehcnlpjaaDoorRows
import GoSem.ClaimSeven
namespace Go.Proofs.YtkhnifehcnlpjaaDoor
namespace Rows

/-- THE TIED CARD OF 'ndjqlaw20.ScanResolve'. -/
def scanResolveCard : Claim7 := { stood := { row := scanResolveRow, standIns := [], harness := (true, "ccf6c3f928a31019562d61f7dfeb9bb7ac65cd4dcafcf2f45a6b6df5bdb7cda5"), looks := false }, kinds := [], alts := [], laidByText := true, laidKinds := [.data], laidTests := true, laidLooks := .later }
def ScanResolveCardSaid : Prop := Claim7.holds Tryd.pinned (.plain (OpenSpec.ofChange scanResolveSpec)) scanResolveCard

/-- THE TIED CARD OF 'ndjqlaw20.ScanChunks'. -/
def scanChunksCard : Claim7 := { stood := { row := scanChunksRow, standIns := [], harness := (true, "ccf6c3f928a31019562d61f7dfeb9bb7ac65cd4dcafcf2f45a6b6df5bdb7cda5"), looks := false }, kinds := [], alts := [], laidByText := true, laidKinds := [.data], laidTests := true, laidLooks := .later }
def ScanChunksCardSaid : Prop := Claim7.holds Tryd.pinned (.plain (OpenSpec.ofChange scanChunksSpec)) scanChunksCard

/-- THE TIED CARD OF 'ndjqlaw20.ScanRecords'. -/
def scanRecordsCard : Claim7 := { stood := { row := scanRecordsRow, standIns := [], harness := (true, "ccf6c3f928a31019562d61f7dfeb9bb7ac65cd4dcafcf2f45a6b6df5bdb7cda5"), looks := false }, kinds := [], alts := [], laidByText := true, laidKinds := [.data], laidTests := true, laidLooks := .later }
def ScanRecordsCardSaid : Prop := Claim7.holds Tryd.pinned (.plain (OpenSpec.ofChange scanRecordsSpec)) scanRecordsCard

/-- THE TIED CARD OF 'ndjqlaw20.ScanCarry'. -/
def scanCarryCard : Claim7 := { stood := { row := scanCarryRow, standIns := [], harness := (true, "ccf6c3f928a31019562d61f7dfeb9bb7ac65cd4dcafcf2f45a6b6df5bdb7cda5"), looks := false }, kinds := [], alts := [], laidByText := true, laidKinds := [.data], laidTests := true, laidLooks := .later }
def ScanCarryCardSaid : Prop := Claim7.holds Tryd.pinned (.plain (OpenSpec.ofChange scanCarrySpec)) scanCarryCard

/-- THE TIED CARD OF 'ndjqlaw20.ScanBracket'. -/
def scanBracketCard : Claim7 := { stood := { row := scanBracketRow, standIns := [], harness := (true, "ccf6c3f928a31019562d61f7dfeb9bb7ac65cd4dcafcf2f45a6b6df5bdb7cda5"), looks := false }, kinds := [], alts := [], laidByText := true, laidKinds := [.data], laidTests := true, laidLooks := .later }
def ScanBracketCardSaid : Prop := Claim7.holds Tryd.pinned (.plain (OpenSpec.ofChange scanBracketSpec)) scanBracketCard

/-- THE TIED CARD OF 'ndjqlaw20.ScanSpeculation'. -/
def scanSpeculationCard : Claim7 := { stood := { row := scanSpeculationRow, standIns := [], harness := (true, "ccf6c3f928a31019562d61f7dfeb9bb7ac65cd4dcafcf2f45a6b6df5bdb7cda5"), looks := false }, kinds := [], alts := [], laidByText := true, laidKinds := [.data], laidTests := true, laidLooks := .later }
def ScanSpeculationCardSaid : Prop := Claim7.holds Tryd.pinned (.plain (OpenSpec.ofChange scanSpeculationSpec)) scanSpeculationCard

/-- THE SECOND FORM's CARD OF 'ndjqlaw20.ScanResolve'. -/
def scanResolveUptoCard : Claim7 := { stood := { row := scanResolveUptoRow, standIns := [], harness := (true, "ccf6c3f928a31019562d61f7dfeb9bb7ac65cd4dcafcf2f45a6b6df5bdb7cda5"), looks := false }, kinds := [], alts := [], laidByText := true, laidKinds := [.data], laidTests := true, laidLooks := .later }
def ScanResolveUptoCardSaid : Prop := Claim7.holds Tryd.pinned (.plain (OpenSpec.upto scanResolveSpec)) scanResolveUptoCard

/-- THE SECOND FORM's CARD OF 'ndjqlaw20.ScanChunks'. -/
def scanChunksUptoCard : Claim7 := { stood := { row := scanChunksUptoRow, standIns := [], harness := (true, "ccf6c3f928a31019562d61f7dfeb9bb7ac65cd4dcafcf2f45a6b6df5bdb7cda5"), looks := false }, kinds := [], alts := [], laidByText := true, laidKinds := [.data], laidTests := true, laidLooks := .later }
def ScanChunksUptoCardSaid : Prop := Claim7.holds Tryd.pinned (.plain (OpenSpec.upto scanChunksSpec)) scanChunksUptoCard

/-- THE SECOND FORM's CARD OF 'ndjqlaw20.ScanRecords'. -/
def scanRecordsUptoCard : Claim7 := { stood := { row := scanRecordsUptoRow, standIns := [], harness := (true, "ccf6c3f928a31019562d61f7dfeb9bb7ac65cd4dcafcf2f45a6b6df5bdb7cda5"), looks := false }, kinds := [], alts := [], laidByText := true, laidKinds := [.data], laidTests := true, laidLooks := .later }
def ScanRecordsUptoCardSaid : Prop := Claim7.holds Tryd.pinned (.plain (OpenSpec.upto scanRecordsSpec)) scanRecordsUptoCard

/-- THE SECOND FORM's CARD OF 'ndjqlaw20.ScanCarry'. -/
def scanCarryUptoCard : Claim7 := { stood := { row := scanCarryUptoRow, standIns := [], harness := (true, "ccf6c3f928a31019562d61f7dfeb9bb7ac65cd4dcafcf2f45a6b6df5bdb7cda5"), looks := false }, kinds := [], alts := [], laidByText := true, laidKinds := [.data], laidTests := true, laidLooks := .later }
def ScanCarryUptoCardSaid : Prop := Claim7.holds Tryd.pinned (.plain (OpenSpec.upto scanCarrySpec)) scanCarryUptoCard

/-- THE SECOND FORM's CARD OF 'ndjqlaw20.ScanBracket'. -/
def scanBracketUptoCard : Claim7 := { stood := { row := scanBracketUptoRow, standIns := [], harness := (true, "ccf6c3f928a31019562d61f7dfeb9bb7ac65cd4dcafcf2f45a6b6df5bdb7cda5"), looks := false }, kinds := [], alts := [], laidByText := true, laidKinds := [.data], laidTests := true, laidLooks := .later }
def ScanBracketUptoCardSaid : Prop := Claim7.holds Tryd.pinned (.plain (OpenSpec.upto scanBracketSpec)) scanBracketUptoCard

/-- THE SECOND FORM's CARD OF 'ndjqlaw20.ScanSpeculation'. -/
def scanSpeculationUptoCard : Claim7 := { stood := { row := scanSpeculationUptoRow, standIns := [], harness := (true, "ccf6c3f928a31019562d61f7dfeb9bb7ac65cd4dcafcf2f45a6b6df5bdb7cda5"), looks := false }, kinds := [], alts := [], laidByText := true, laidKinds := [.data], laidTests := true, laidLooks := .later }
def ScanSpeculationUptoCardSaid : Prop := Claim7.holds Tryd.pinned (.plain (OpenSpec.upto scanSpeculationSpec)) scanSpeculationUptoCard
end Rows
end Go.Proofs.YtkhnifehcnlpjaaDoor
