/-
  DERIVED. GIVEN WITH THE SEED: THE CARDS: each row of YtfhfnehoaiegcaaGreatDoorRows.lean that lists a variable, with what it lists TIED to the program's text (the seventh form; the later family's looks); each row that meets fmt, with fmt's text TOLD by the authors' own Lean function (tested against real Go, not proved from fmt's source: count such statements apart). THE CARD IS WHAT COUNTS. Prove the row's statement (the work); the ties are given (YtfhfnehoaiegcaaGreatDoorTie.lean); close each card by the builder's one call (the guide's Derived/Test/ToyasCard.lean, 'card_holds'). Laid BY PROGRAM, IN A SANDBOX (cutbox-door.mjs). By AI agents, Wed Nov 11 2026. No macro, syntax, notation, axiom, sorry.
-/
import Derived.Test.YtfhfnehoaiegcaaGreatDoorRows
import GoSem.ClaimSeven
namespace Go.Proofs.YtfhfnehoaiegcaaGreatDoor
namespace Rows

/-- THE TIED CARD OF 'archivumlaw57.JournalCodes'. -/
def journalCodesCard : Claim7 := { stood := { row := journalCodesRow, standIns := [], harness := (true, "4fe4479a18d7c119b3f805da168ba0c2d7bce656589f93745938b64885f81bd2"), looks := true }, kinds := [], alts := [], laidByText := true, laidKinds := [.data, .data, .data, .data, .sentinel, .sentinel, .pinned], laidTests := true, laidLooks := .later }
def JournalCodesCardSaid : Prop := Claim7.holds Tryz.pinned (.plain (OpenSpec.ofChange journalCodesSpec)) journalCodesCard

/-- THE TIED CARD OF 'archivumlaw57.JournalReads'. -/
def journalReadsCard : Claim7 := { stood := { row := journalReadsRow, standIns := [], harness := (true, "4fe4479a18d7c119b3f805da168ba0c2d7bce656589f93745938b64885f81bd2"), looks := true }, kinds := [], alts := [], laidByText := true, laidKinds := [.data, .data, .data, .data, .sentinel, .sentinel, .pinned], laidTests := true, laidLooks := .later }
def JournalReadsCardSaid : Prop := Claim7.holds Tryz.pinned (.plain (OpenSpec.ofChange journalReadsSpec)) journalReadsCard

/-- THE TIED CARD OF 'archivumlaw57.JournalReturns'. -/
def journalReturnsCard : Claim7 := { stood := { row := journalReturnsRow, standIns := [], harness := (true, "4fe4479a18d7c119b3f805da168ba0c2d7bce656589f93745938b64885f81bd2"), looks := true }, kinds := [], alts := [], laidByText := true, laidKinds := [.data, .data, .data, .data, .sentinel, .sentinel, .pinned], laidTests := true, laidLooks := .later }
def JournalReturnsCardSaid : Prop := Claim7.holds Tryz.pinned (.plain (OpenSpec.ofChange journalReturnsSpec)) journalReturnsCard

/-- THE TIED CARD OF 'archivumlaw57.JournalTorn'. -/
def journalTornCard : Claim7 := { stood := { row := journalTornRow, standIns := [], harness := (true, "4fe4479a18d7c119b3f805da168ba0c2d7bce656589f93745938b64885f81bd2"), looks := true }, kinds := [], alts := [], laidByText := true, laidKinds := [.data, .data, .data, .data, .sentinel, .sentinel, .pinned], laidTests := true, laidLooks := .later }
def JournalTornCardSaid : Prop := Claim7.holds Tryz.pinned (.plain (OpenSpec.ofChange journalTornSpec)) journalTornCard

/-- THE TIED CARD OF 'archivumlaw57.JournalDamaged'. -/
def journalDamagedCard : Claim7 := { stood := { row := journalDamagedRow, standIns := [], harness := (true, "4fe4479a18d7c119b3f805da168ba0c2d7bce656589f93745938b64885f81bd2"), looks := true }, kinds := [], alts := [], laidByText := true, laidKinds := [.data, .data, .data, .data, .sentinel, .sentinel, .pinned], laidTests := true, laidLooks := .later }
def JournalDamagedCardSaid : Prop := Claim7.holds Tryz.pinned (.plain (OpenSpec.ofChange journalDamagedSpec)) journalDamagedCard

/-- THE TIED CARD OF 'archivumlaw57.JournalChained'. -/
def journalChainedCard : Claim7 := { stood := { row := journalChainedRow, standIns := [], harness := (true, "4fe4479a18d7c119b3f805da168ba0c2d7bce656589f93745938b64885f81bd2"), looks := true }, kinds := [], alts := [], laidByText := true, laidKinds := [.data, .data, .data, .data, .sentinel, .sentinel, .pinned], laidTests := true, laidLooks := .later }
def JournalChainedCardSaid : Prop := Claim7.holds Tryz.pinned (.plain (OpenSpec.ofChange journalChainedSpec)) journalChainedCard

/-- THE TIED CARD OF 'archivumlaw57.JournalAppends'. -/
def journalAppendsCard : Claim7 := { stood := { row := journalAppendsRow, standIns := [], harness := (true, "4fe4479a18d7c119b3f805da168ba0c2d7bce656589f93745938b64885f81bd2"), looks := true }, kinds := [], alts := [], laidByText := true, laidKinds := [.data, .data, .data, .data, .sentinel, .sentinel, .pinned], laidTests := true, laidLooks := .later }
def JournalAppendsCardSaid : Prop := Claim7.holds Tryz.pinned (.plain (OpenSpec.ofChange journalAppendsSpec)) journalAppendsCard

/-- THE SECOND FORM's CARD OF 'archivumlaw57.JournalCodes'. -/
def journalCodesUptoCard : Claim7 := { stood := { row := journalCodesUptoRow, standIns := [], harness := (true, "4fe4479a18d7c119b3f805da168ba0c2d7bce656589f93745938b64885f81bd2"), looks := true }, kinds := [], alts := [], laidByText := true, laidKinds := [.data, .data, .data, .data, .sentinel, .sentinel, .pinned], laidTests := true, laidLooks := .later }
def JournalCodesUptoCardSaid : Prop := Claim7.holds Tryz.pinned (.plain (OpenSpec.upto journalCodesSpec)) journalCodesUptoCard

/-- THE SECOND FORM's CARD OF 'archivumlaw57.JournalReads'. -/
def journalReadsUptoCard : Claim7 := { stood := { row := journalReadsUptoRow, standIns := [], harness := (true, "4fe4479a18d7c119b3f805da168ba0c2d7bce656589f93745938b64885f81bd2"), looks := true }, kinds := [], alts := [], laidByText := true, laidKinds := [.data, .data, .data, .data, .sentinel, .sentinel, .pinned], laidTests := true, laidLooks := .later }
def JournalReadsUptoCardSaid : Prop := Claim7.holds Tryz.pinned (.plain (OpenSpec.upto journalReadsSpec)) journalReadsUptoCard

/-- THE SECOND FORM's CARD OF 'archivumlaw57.JournalReturns'. -/
def journalReturnsUptoCard : Claim7 := { stood := { row := journalReturnsUptoRow, standIns := [], harness := (true, "4fe4479a18d7c119b3f805da168ba0c2d7bce656589f93745938b64885f81bd2"), looks := true }, kinds := [], alts := [], laidByText := true, laidKinds := [.data, .data, .data, .data, .sentinel, .sentinel, .pinned], laidTests := true, laidLooks := .later }
def JournalReturnsUptoCardSaid : Prop := Claim7.holds Tryz.pinned (.plain (OpenSpec.upto journalReturnsSpec)) journalReturnsUptoCard

/-- THE SECOND FORM's CARD OF 'archivumlaw57.JournalTorn'. -/
def journalTornUptoCard : Claim7 := { stood := { row := journalTornUptoRow, standIns := [], harness := (true, "4fe4479a18d7c119b3f805da168ba0c2d7bce656589f93745938b64885f81bd2"), looks := true }, kinds := [], alts := [], laidByText := true, laidKinds := [.data, .data, .data, .data, .sentinel, .sentinel, .pinned], laidTests := true, laidLooks := .later }
def JournalTornUptoCardSaid : Prop := Claim7.holds Tryz.pinned (.plain (OpenSpec.upto journalTornSpec)) journalTornUptoCard

/-- THE SECOND FORM's CARD OF 'archivumlaw57.JournalDamaged'. -/
def journalDamagedUptoCard : Claim7 := { stood := { row := journalDamagedUptoRow, standIns := [], harness := (true, "4fe4479a18d7c119b3f805da168ba0c2d7bce656589f93745938b64885f81bd2"), looks := true }, kinds := [], alts := [], laidByText := true, laidKinds := [.data, .data, .data, .data, .sentinel, .sentinel, .pinned], laidTests := true, laidLooks := .later }
def JournalDamagedUptoCardSaid : Prop := Claim7.holds Tryz.pinned (.plain (OpenSpec.upto journalDamagedSpec)) journalDamagedUptoCard

/-- THE SECOND FORM's CARD OF 'archivumlaw57.JournalChained'. -/
def journalChainedUptoCard : Claim7 := { stood := { row := journalChainedUptoRow, standIns := [], harness := (true, "4fe4479a18d7c119b3f805da168ba0c2d7bce656589f93745938b64885f81bd2"), looks := true }, kinds := [], alts := [], laidByText := true, laidKinds := [.data, .data, .data, .data, .sentinel, .sentinel, .pinned], laidTests := true, laidLooks := .later }
def JournalChainedUptoCardSaid : Prop := Claim7.holds Tryz.pinned (.plain (OpenSpec.upto journalChainedSpec)) journalChainedUptoCard

/-- THE SECOND FORM's CARD OF 'archivumlaw57.JournalAppends'. -/
def journalAppendsUptoCard : Claim7 := { stood := { row := journalAppendsUptoRow, standIns := [], harness := (true, "4fe4479a18d7c119b3f805da168ba0c2d7bce656589f93745938b64885f81bd2"), looks := true }, kinds := [], alts := [], laidByText := true, laidKinds := [.data, .data, .data, .data, .sentinel, .sentinel, .pinned], laidTests := true, laidLooks := .later }
def JournalAppendsUptoCardSaid : Prop := Claim7.holds Tryz.pinned (.plain (OpenSpec.upto journalAppendsSpec)) journalAppendsUptoCard
end Rows
end Go.Proofs.YtfhfnehoaiegcaaGreatDoor
