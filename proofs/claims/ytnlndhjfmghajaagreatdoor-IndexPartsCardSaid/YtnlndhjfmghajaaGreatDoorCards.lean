/-
  DERIVED. GIVEN WITH THE SEED: THE CARDS: each row of YtnlndhjfmghajaaGreatDoorRows.lean that lists a variable, with what it lists TIED to the program's text (the seventh form; the later family's looks); each row that meets fmt, with fmt's text TOLD by the authors' own Lean function (tested against real Go, not proved from fmt's source: count such statements apart). THE CARD IS WHAT COUNTS. Prove the row's statement (the work); the ties are given (YtnlndhjfmghajaaGreatDoorTie.lean); close each card by the builder's one call (the guide's Derived/Test/ToyasCard.lean, 'card_holds'). Laid BY PROGRAM, IN A SANDBOX (cutbox-door.mjs). By AI agents, Wed Nov 11 2026. No macro, syntax, notation, axiom, sorry.
-/
import Derived.Test.YtnlndhjfmghajaaGreatDoorRows
import GoSem.ClaimSeven
namespace Go.Proofs.YtnlndhjfmghajaaGreatDoor
namespace Rows

/-- THE TIED CARD OF 'archivumlaw48.IndexParts'. -/
def indexPartsCard : Claim7 := { stood := { row := indexPartsRow, standIns := [], harness := (true, "86109f79c576892cc3d9c56e4eafa7dd59a2e72d3c1a1b3eecf004c3e45cd174"), looks := true }, kinds := [], alts := [], laidByText := true, laidKinds := [.data, .data, .data, .data, .sentinel, .sentinel, .pinned], laidTests := true, laidLooks := .later }
def IndexPartsCardSaid : Prop := Claim7.holds Tryz.pinned (.plain (OpenSpec.ofChange indexPartsSpec)) indexPartsCard

/-- THE TIED CARD OF 'archivumlaw48.IndexBuilds'. -/
def indexBuildsCard : Claim7 := { stood := { row := indexBuildsRow, standIns := [], harness := (true, "86109f79c576892cc3d9c56e4eafa7dd59a2e72d3c1a1b3eecf004c3e45cd174"), looks := true }, kinds := [], alts := [], laidByText := true, laidKinds := [.data, .data, .data, .data, .sentinel, .sentinel, .pinned], laidTests := true, laidLooks := .later }
def IndexBuildsCardSaid : Prop := Claim7.holds Tryz.pinned (.plain (OpenSpec.ofChange indexBuildsSpec)) indexBuildsCard

/-- THE TIED CARD OF 'archivumlaw48.IndexComplete'. -/
def indexCompleteCard : Claim7 := { stood := { row := indexCompleteRow, standIns := [], harness := (true, "86109f79c576892cc3d9c56e4eafa7dd59a2e72d3c1a1b3eecf004c3e45cd174"), looks := true }, kinds := [], alts := [], laidByText := true, laidKinds := [.data, .data, .data, .data, .sentinel, .sentinel, .pinned], laidTests := true, laidLooks := .later }
def IndexCompleteCardSaid : Prop := Claim7.holds Tryz.pinned (.plain (OpenSpec.ofChange indexCompleteSpec)) indexCompleteCard

/-- THE TIED CARD OF 'archivumlaw48.IndexLists'. -/
def indexListsCard : Claim7 := { stood := { row := indexListsRow, standIns := [], harness := (true, "86109f79c576892cc3d9c56e4eafa7dd59a2e72d3c1a1b3eecf004c3e45cd174"), looks := true }, kinds := [], alts := [], laidByText := true, laidKinds := [.data, .data, .data, .data, .sentinel, .sentinel, .pinned], laidTests := true, laidLooks := .later }
def IndexListsCardSaid : Prop := Claim7.holds Tryz.pinned (.plain (OpenSpec.ofChange indexListsSpec)) indexListsCard

/-- THE TIED CARD OF 'archivumlaw48.IndexFinds'. -/
def indexFindsCard : Claim7 := { stood := { row := indexFindsRow, standIns := [], harness := (true, "86109f79c576892cc3d9c56e4eafa7dd59a2e72d3c1a1b3eecf004c3e45cd174"), looks := true }, kinds := [], alts := [], laidByText := true, laidKinds := [.data, .data, .data, .data, .sentinel, .sentinel, .pinned], laidTests := true, laidLooks := .later }
def IndexFindsCardSaid : Prop := Claim7.holds Tryz.pinned (.plain (OpenSpec.ofChange indexFindsSpec)) indexFindsCard

/-- THE TIED CARD OF 'archivumlaw48.IndexMerges'. -/
def indexMergesCard : Claim7 := { stood := { row := indexMergesRow, standIns := [], harness := (true, "86109f79c576892cc3d9c56e4eafa7dd59a2e72d3c1a1b3eecf004c3e45cd174"), looks := true }, kinds := [], alts := [], laidByText := true, laidKinds := [.data, .data, .data, .data, .sentinel, .sentinel, .pinned], laidTests := true, laidLooks := .later }
def IndexMergesCardSaid : Prop := Claim7.holds Tryz.pinned (.plain (OpenSpec.ofChange indexMergesSpec)) indexMergesCard

/-- THE TIED CARD OF 'archivumlaw48.IndexJoins'. -/
def indexJoinsCard : Claim7 := { stood := { row := indexJoinsRow, standIns := [], harness := (true, "86109f79c576892cc3d9c56e4eafa7dd59a2e72d3c1a1b3eecf004c3e45cd174"), looks := true }, kinds := [], alts := [], laidByText := true, laidKinds := [.data, .data, .data, .data, .sentinel, .sentinel, .pinned], laidTests := true, laidLooks := .later }
def IndexJoinsCardSaid : Prop := Claim7.holds Tryz.pinned (.plain (OpenSpec.ofChange indexJoinsSpec)) indexJoinsCard

/-- THE TIED CARD OF 'archivumlaw48.IndexKeys'. -/
def indexKeysCard : Claim7 := { stood := { row := indexKeysRow, standIns := [], harness := (true, "86109f79c576892cc3d9c56e4eafa7dd59a2e72d3c1a1b3eecf004c3e45cd174"), looks := true }, kinds := [], alts := [], laidByText := true, laidKinds := [.data, .data, .data, .data, .sentinel, .sentinel, .pinned], laidTests := true, laidLooks := .later }
def IndexKeysCardSaid : Prop := Claim7.holds Tryz.pinned (.plain (OpenSpec.ofChange indexKeysSpec)) indexKeysCard

/-- THE SECOND FORM's CARD OF 'archivumlaw48.IndexParts'. -/
def indexPartsUptoCard : Claim7 := { stood := { row := indexPartsUptoRow, standIns := [], harness := (true, "86109f79c576892cc3d9c56e4eafa7dd59a2e72d3c1a1b3eecf004c3e45cd174"), looks := true }, kinds := [], alts := [], laidByText := true, laidKinds := [.data, .data, .data, .data, .sentinel, .sentinel, .pinned], laidTests := true, laidLooks := .later }
def IndexPartsUptoCardSaid : Prop := Claim7.holds Tryz.pinned (.plain (OpenSpec.upto indexPartsSpec)) indexPartsUptoCard

/-- THE SECOND FORM's CARD OF 'archivumlaw48.IndexBuilds'. -/
def indexBuildsUptoCard : Claim7 := { stood := { row := indexBuildsUptoRow, standIns := [], harness := (true, "86109f79c576892cc3d9c56e4eafa7dd59a2e72d3c1a1b3eecf004c3e45cd174"), looks := true }, kinds := [], alts := [], laidByText := true, laidKinds := [.data, .data, .data, .data, .sentinel, .sentinel, .pinned], laidTests := true, laidLooks := .later }
def IndexBuildsUptoCardSaid : Prop := Claim7.holds Tryz.pinned (.plain (OpenSpec.upto indexBuildsSpec)) indexBuildsUptoCard

/-- THE SECOND FORM's CARD OF 'archivumlaw48.IndexComplete'. -/
def indexCompleteUptoCard : Claim7 := { stood := { row := indexCompleteUptoRow, standIns := [], harness := (true, "86109f79c576892cc3d9c56e4eafa7dd59a2e72d3c1a1b3eecf004c3e45cd174"), looks := true }, kinds := [], alts := [], laidByText := true, laidKinds := [.data, .data, .data, .data, .sentinel, .sentinel, .pinned], laidTests := true, laidLooks := .later }
def IndexCompleteUptoCardSaid : Prop := Claim7.holds Tryz.pinned (.plain (OpenSpec.upto indexCompleteSpec)) indexCompleteUptoCard

/-- THE SECOND FORM's CARD OF 'archivumlaw48.IndexLists'. -/
def indexListsUptoCard : Claim7 := { stood := { row := indexListsUptoRow, standIns := [], harness := (true, "86109f79c576892cc3d9c56e4eafa7dd59a2e72d3c1a1b3eecf004c3e45cd174"), looks := true }, kinds := [], alts := [], laidByText := true, laidKinds := [.data, .data, .data, .data, .sentinel, .sentinel, .pinned], laidTests := true, laidLooks := .later }
def IndexListsUptoCardSaid : Prop := Claim7.holds Tryz.pinned (.plain (OpenSpec.upto indexListsSpec)) indexListsUptoCard

/-- THE SECOND FORM's CARD OF 'archivumlaw48.IndexFinds'. -/
def indexFindsUptoCard : Claim7 := { stood := { row := indexFindsUptoRow, standIns := [], harness := (true, "86109f79c576892cc3d9c56e4eafa7dd59a2e72d3c1a1b3eecf004c3e45cd174"), looks := true }, kinds := [], alts := [], laidByText := true, laidKinds := [.data, .data, .data, .data, .sentinel, .sentinel, .pinned], laidTests := true, laidLooks := .later }
def IndexFindsUptoCardSaid : Prop := Claim7.holds Tryz.pinned (.plain (OpenSpec.upto indexFindsSpec)) indexFindsUptoCard

/-- THE SECOND FORM's CARD OF 'archivumlaw48.IndexMerges'. -/
def indexMergesUptoCard : Claim7 := { stood := { row := indexMergesUptoRow, standIns := [], harness := (true, "86109f79c576892cc3d9c56e4eafa7dd59a2e72d3c1a1b3eecf004c3e45cd174"), looks := true }, kinds := [], alts := [], laidByText := true, laidKinds := [.data, .data, .data, .data, .sentinel, .sentinel, .pinned], laidTests := true, laidLooks := .later }
def IndexMergesUptoCardSaid : Prop := Claim7.holds Tryz.pinned (.plain (OpenSpec.upto indexMergesSpec)) indexMergesUptoCard

/-- THE SECOND FORM's CARD OF 'archivumlaw48.IndexJoins'. -/
def indexJoinsUptoCard : Claim7 := { stood := { row := indexJoinsUptoRow, standIns := [], harness := (true, "86109f79c576892cc3d9c56e4eafa7dd59a2e72d3c1a1b3eecf004c3e45cd174"), looks := true }, kinds := [], alts := [], laidByText := true, laidKinds := [.data, .data, .data, .data, .sentinel, .sentinel, .pinned], laidTests := true, laidLooks := .later }
def IndexJoinsUptoCardSaid : Prop := Claim7.holds Tryz.pinned (.plain (OpenSpec.upto indexJoinsSpec)) indexJoinsUptoCard

/-- THE SECOND FORM's CARD OF 'archivumlaw48.IndexKeys'. -/
def indexKeysUptoCard : Claim7 := { stood := { row := indexKeysUptoRow, standIns := [], harness := (true, "86109f79c576892cc3d9c56e4eafa7dd59a2e72d3c1a1b3eecf004c3e45cd174"), looks := true }, kinds := [], alts := [], laidByText := true, laidKinds := [.data, .data, .data, .data, .sentinel, .sentinel, .pinned], laidTests := true, laidLooks := .later }
def IndexKeysUptoCardSaid : Prop := Claim7.holds Tryz.pinned (.plain (OpenSpec.upto indexKeysSpec)) indexKeysUptoCard
end Rows
end Go.Proofs.YtnlndhjfmghajaaGreatDoor
