/-
  DERIVED. GIVEN WITH THE SEED: THE CARDS: each row of YtfgbpngakkhdcaaGreatDoorRows.lean that lists a variable, with what it lists TIED to the program's text (the seventh form; the later family's looks); each row that meets fmt, with fmt's text TOLD by the authors' own Lean function (tested against real Go, not proved from fmt's source: count such statements apart). THE CARD IS WHAT COUNTS. Prove the row's statement (the work); the ties are given (YtfgbpngakkhdcaaGreatDoorTie.lean); close each card by the builder's one call (the guide's Derived/Test/ToyasCard.lean, 'card_holds'). Laid BY PROGRAM, IN A SANDBOX (cutbox-door.mjs). By AI agents, Wed Nov 11 2026. No macro, syntax, notation, axiom, sorry.
-/
import Derived.Test.YtfgbpngakkhdcaaGreatDoorRows
import GoSem.ClaimSeven
namespace Go.Proofs.YtfgbpngakkhdcaaGreatDoor
namespace Rows

/-- THE TIED CARD OF 'archivumlaw52.UpdateMakes'. -/
def updateMakesCard : Claim7 := { stood := { row := updateMakesRow, standIns := [], harness := (true, "bc864bd0a8c2b8f6b20ac4e8beef91f8c59047e52b4a66b6b78ef8cb33364912"), looks := true }, kinds := [], alts := [], laidByText := true, laidKinds := [.data, .data, .data, .data, .sentinel, .sentinel, .listed, .data, .pinned], laidTests := true, laidLooks := .later }
def UpdateMakesCardSaid : Prop := Claim7.holds Tryz.pinned (.plain (OpenSpec.ofChange updateMakesSpec)) updateMakesCard

/-- THE TIED CARD OF 'archivumlaw52.UpdateUpdates'. -/
def updateUpdatesCard : Claim7 := { stood := { row := updateUpdatesRow, standIns := [], harness := (true, "bc864bd0a8c2b8f6b20ac4e8beef91f8c59047e52b4a66b6b78ef8cb33364912"), looks := true }, kinds := [], alts := [], laidByText := true, laidKinds := [.data, .data, .data, .data, .sentinel, .sentinel, .listed, .data, .pinned], laidTests := true, laidLooks := .later }
def UpdateUpdatesCardSaid : Prop := Claim7.holds Tryz.pinned (.plain (OpenSpec.ofChange updateUpdatesSpec)) updateUpdatesCard

/-- THE TIED CARD OF 'archivumlaw52.UpdateScratch'. -/
def updateScratchCard : Claim7 := { stood := { row := updateScratchRow, standIns := [], harness := (true, "bc864bd0a8c2b8f6b20ac4e8beef91f8c59047e52b4a66b6b78ef8cb33364912"), looks := true }, kinds := [], alts := [], laidByText := true, laidKinds := [.data, .data, .data, .data, .sentinel, .sentinel, .listed, .data, .pinned], laidTests := true, laidLooks := .later }
def UpdateScratchCardSaid : Prop := Claim7.holds Tryz.pinned (.plain (OpenSpec.ofChange updateScratchSpec)) updateScratchCard

/-- THE TIED CARD OF 'archivumlaw52.UpdateAnew'. -/
def updateAnewCard : Claim7 := { stood := { row := updateAnewRow, standIns := [], harness := (true, "bc864bd0a8c2b8f6b20ac4e8beef91f8c59047e52b4a66b6b78ef8cb33364912"), looks := true }, kinds := [], alts := [], laidByText := true, laidKinds := [.data, .data, .data, .data, .sentinel, .sentinel, .listed, .data, .pinned], laidTests := true, laidLooks := .later }
def UpdateAnewCardSaid : Prop := Claim7.holds Tryz.pinned (.plain (OpenSpec.ofChange updateAnewSpec)) updateAnewCard

/-- THE TIED CARD OF 'archivumlaw52.UpdateQuiet'. -/
def updateQuietCard : Claim7 := { stood := { row := updateQuietRow, standIns := [], harness := (true, "bc864bd0a8c2b8f6b20ac4e8beef91f8c59047e52b4a66b6b78ef8cb33364912"), looks := true }, kinds := [], alts := [], laidByText := true, laidKinds := [.data, .data, .data, .data, .sentinel, .sentinel, .listed, .data, .pinned], laidTests := true, laidLooks := .later }
def UpdateQuietCardSaid : Prop := Claim7.holds Tryz.pinned (.plain (OpenSpec.ofChange updateQuietSpec)) updateQuietCard

/-- THE TIED CARD OF 'archivumlaw52.UpdateNeeds'. -/
def updateNeedsCard : Claim7 := { stood := { row := updateNeedsRow, standIns := [], harness := (true, "bc864bd0a8c2b8f6b20ac4e8beef91f8c59047e52b4a66b6b78ef8cb33364912"), looks := true }, kinds := [], alts := [], laidByText := true, laidKinds := [.data, .data, .data, .data, .sentinel, .sentinel, .listed, .data, .pinned], laidTests := true, laidLooks := .later }
def UpdateNeedsCardSaid : Prop := Claim7.holds Tryz.pinned (.plain (OpenSpec.ofChange updateNeedsSpec)) updateNeedsCard

/-- THE SECOND FORM's CARD OF 'archivumlaw52.UpdateMakes'. -/
def updateMakesUptoCard : Claim7 := { stood := { row := updateMakesUptoRow, standIns := [], harness := (true, "bc864bd0a8c2b8f6b20ac4e8beef91f8c59047e52b4a66b6b78ef8cb33364912"), looks := true }, kinds := [], alts := [], laidByText := true, laidKinds := [.data, .data, .data, .data, .sentinel, .sentinel, .listed, .data, .pinned], laidTests := true, laidLooks := .later }
def UpdateMakesUptoCardSaid : Prop := Claim7.holds Tryz.pinned (.plain (OpenSpec.upto updateMakesSpec)) updateMakesUptoCard

/-- THE SECOND FORM's CARD OF 'archivumlaw52.UpdateUpdates'. -/
def updateUpdatesUptoCard : Claim7 := { stood := { row := updateUpdatesUptoRow, standIns := [], harness := (true, "bc864bd0a8c2b8f6b20ac4e8beef91f8c59047e52b4a66b6b78ef8cb33364912"), looks := true }, kinds := [], alts := [], laidByText := true, laidKinds := [.data, .data, .data, .data, .sentinel, .sentinel, .listed, .data, .pinned], laidTests := true, laidLooks := .later }
def UpdateUpdatesUptoCardSaid : Prop := Claim7.holds Tryz.pinned (.plain (OpenSpec.upto updateUpdatesSpec)) updateUpdatesUptoCard

/-- THE SECOND FORM's CARD OF 'archivumlaw52.UpdateScratch'. -/
def updateScratchUptoCard : Claim7 := { stood := { row := updateScratchUptoRow, standIns := [], harness := (true, "bc864bd0a8c2b8f6b20ac4e8beef91f8c59047e52b4a66b6b78ef8cb33364912"), looks := true }, kinds := [], alts := [], laidByText := true, laidKinds := [.data, .data, .data, .data, .sentinel, .sentinel, .listed, .data, .pinned], laidTests := true, laidLooks := .later }
def UpdateScratchUptoCardSaid : Prop := Claim7.holds Tryz.pinned (.plain (OpenSpec.upto updateScratchSpec)) updateScratchUptoCard

/-- THE SECOND FORM's CARD OF 'archivumlaw52.UpdateAnew'. -/
def updateAnewUptoCard : Claim7 := { stood := { row := updateAnewUptoRow, standIns := [], harness := (true, "bc864bd0a8c2b8f6b20ac4e8beef91f8c59047e52b4a66b6b78ef8cb33364912"), looks := true }, kinds := [], alts := [], laidByText := true, laidKinds := [.data, .data, .data, .data, .sentinel, .sentinel, .listed, .data, .pinned], laidTests := true, laidLooks := .later }
def UpdateAnewUptoCardSaid : Prop := Claim7.holds Tryz.pinned (.plain (OpenSpec.upto updateAnewSpec)) updateAnewUptoCard

/-- THE SECOND FORM's CARD OF 'archivumlaw52.UpdateQuiet'. -/
def updateQuietUptoCard : Claim7 := { stood := { row := updateQuietUptoRow, standIns := [], harness := (true, "bc864bd0a8c2b8f6b20ac4e8beef91f8c59047e52b4a66b6b78ef8cb33364912"), looks := true }, kinds := [], alts := [], laidByText := true, laidKinds := [.data, .data, .data, .data, .sentinel, .sentinel, .listed, .data, .pinned], laidTests := true, laidLooks := .later }
def UpdateQuietUptoCardSaid : Prop := Claim7.holds Tryz.pinned (.plain (OpenSpec.upto updateQuietSpec)) updateQuietUptoCard

/-- THE SECOND FORM's CARD OF 'archivumlaw52.UpdateNeeds'. -/
def updateNeedsUptoCard : Claim7 := { stood := { row := updateNeedsUptoRow, standIns := [], harness := (true, "bc864bd0a8c2b8f6b20ac4e8beef91f8c59047e52b4a66b6b78ef8cb33364912"), looks := true }, kinds := [], alts := [], laidByText := true, laidKinds := [.data, .data, .data, .data, .sentinel, .sentinel, .listed, .data, .pinned], laidTests := true, laidLooks := .later }
def UpdateNeedsUptoCardSaid : Prop := Claim7.holds Tryz.pinned (.plain (OpenSpec.upto updateNeedsSpec)) updateNeedsUptoCard
end Rows
end Go.Proofs.YtfgbpngakkhdcaaGreatDoor
