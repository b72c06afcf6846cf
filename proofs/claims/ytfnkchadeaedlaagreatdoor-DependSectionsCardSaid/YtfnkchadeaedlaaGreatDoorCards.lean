/-
  DERIVED. GIVEN WITH THE SEED: THE CARDS: each row of YtfnkchadeaedlaaGreatDoorRows.lean that lists a variable, with what it lists TIED to the program's text (the seventh form; the later family's looks); each row that meets fmt, with fmt's text TOLD by the authors' own Lean function (tested against real Go, not proved from fmt's source: count such statements apart). THE CARD IS WHAT COUNTS. Prove the row's statement (the work); the ties are given (YtfnkchadeaedlaaGreatDoorTie.lean); close each card by the builder's one call (the guide's Derived/Test/ToyasCard.lean, 'card_holds'). Laid BY PROGRAM, IN A SANDBOX (cutbox-door.mjs). By AI agents, Wed Nov 11 2026. No macro, syntax, notation, axiom, sorry.
-/
import Derived.Test.YtfnkchadeaedlaaGreatDoorRows
import GoSem.ClaimSeven
namespace Go.Proofs.YtfnkchadeaedlaaGreatDoor
namespace Rows

/-- THE TIED CARD OF 'archivumlaw51.DependValues'. -/
def dependValuesCard : Claim7 := { stood := { row := dependValuesRow, standIns := [], harness := (true, "cb77caa43029141e3a9fbc37316bbe426664f4f9db7c666c9e2e9013af1b4ade"), looks := true }, kinds := [], alts := [], laidByText := true, laidKinds := [.data, .data, .data, .data, .sentinel, .sentinel, .listed, .data, .pinned], laidTests := true, laidLooks := .later }
def DependValuesCardSaid : Prop := Claim7.holds Tryz.pinned (.plain (OpenSpec.ofChange dependValuesSpec)) dependValuesCard

/-- THE TIED CARD OF 'archivumlaw51.DependEnough'. -/
def dependEnoughCard : Claim7 := { stood := { row := dependEnoughRow, standIns := [], harness := (true, "cb77caa43029141e3a9fbc37316bbe426664f4f9db7c666c9e2e9013af1b4ade"), looks := true }, kinds := [], alts := [], laidByText := true, laidKinds := [.data, .data, .data, .data, .sentinel, .sentinel, .listed, .data, .pinned], laidTests := true, laidLooks := .later }
def DependEnoughCardSaid : Prop := Claim7.holds Tryz.pinned (.plain (OpenSpec.ofChange dependEnoughSpec)) dependEnoughCard

/-- THE TIED CARD OF 'archivumlaw51.DependFresh'. -/
def dependFreshCard : Claim7 := { stood := { row := dependFreshRow, standIns := [], harness := (true, "cb77caa43029141e3a9fbc37316bbe426664f4f9db7c666c9e2e9013af1b4ade"), looks := true }, kinds := [], alts := [], laidByText := true, laidKinds := [.data, .data, .data, .data, .sentinel, .sentinel, .listed, .data, .pinned], laidTests := true, laidLooks := .later }
def DependFreshCardSaid : Prop := Claim7.holds Tryz.pinned (.plain (OpenSpec.ofChange dependFreshSpec)) dependFreshCard

/-- THE TIED CARD OF 'archivumlaw51.DependDiffers'. -/
def dependDiffersCard : Claim7 := { stood := { row := dependDiffersRow, standIns := [], harness := (true, "cb77caa43029141e3a9fbc37316bbe426664f4f9db7c666c9e2e9013af1b4ade"), looks := true }, kinds := [], alts := [], laidByText := true, laidKinds := [.data, .data, .data, .data, .sentinel, .sentinel, .listed, .data, .pinned], laidTests := true, laidLooks := .later }
def DependDiffersCardSaid : Prop := Claim7.holds Tryz.pinned (.plain (OpenSpec.ofChange dependDiffersSpec)) dependDiffersCard

/-- THE TIED CARD OF 'archivumlaw51.DependReads'. -/
def dependReadsCard : Claim7 := { stood := { row := dependReadsRow, standIns := [], harness := (true, "cb77caa43029141e3a9fbc37316bbe426664f4f9db7c666c9e2e9013af1b4ade"), looks := true }, kinds := [], alts := [], laidByText := true, laidKinds := [.data, .data, .data, .data, .sentinel, .sentinel, .listed, .data, .pinned], laidTests := true, laidLooks := .later }
def DependReadsCardSaid : Prop := Claim7.holds Tryz.pinned (.plain (OpenSpec.ofChange dependReadsSpec)) dependReadsCard

/-- THE TIED CARD OF 'archivumlaw51.DependSections'. -/
def dependSectionsCard : Claim7 := { stood := { row := dependSectionsRow, standIns := [], harness := (true, "cb77caa43029141e3a9fbc37316bbe426664f4f9db7c666c9e2e9013af1b4ade"), looks := true }, kinds := [], alts := [], laidByText := true, laidKinds := [.data, .data, .data, .data, .sentinel, .sentinel, .listed, .data, .pinned], laidTests := true, laidLooks := .later }
def DependSectionsCardSaid : Prop := Claim7.holds Tryz.pinned (.plain (OpenSpec.ofChange dependSectionsSpec)) dependSectionsCard

/-- THE TIED CARD OF 'archivumlaw51.DependCompares'. -/
def dependComparesCard : Claim7 := { stood := { row := dependComparesRow, standIns := [], harness := (true, "cb77caa43029141e3a9fbc37316bbe426664f4f9db7c666c9e2e9013af1b4ade"), looks := true }, kinds := [], alts := [], laidByText := true, laidKinds := [.data, .data, .data, .data, .sentinel, .sentinel, .listed, .data, .pinned], laidTests := true, laidLooks := .later }
def DependComparesCardSaid : Prop := Claim7.holds Tryz.pinned (.plain (OpenSpec.ofChange dependComparesSpec)) dependComparesCard

/-- THE SECOND FORM's CARD OF 'archivumlaw51.DependValues'. -/
def dependValuesUptoCard : Claim7 := { stood := { row := dependValuesUptoRow, standIns := [], harness := (true, "cb77caa43029141e3a9fbc37316bbe426664f4f9db7c666c9e2e9013af1b4ade"), looks := true }, kinds := [], alts := [], laidByText := true, laidKinds := [.data, .data, .data, .data, .sentinel, .sentinel, .listed, .data, .pinned], laidTests := true, laidLooks := .later }
def DependValuesUptoCardSaid : Prop := Claim7.holds Tryz.pinned (.plain (OpenSpec.upto dependValuesSpec)) dependValuesUptoCard

/-- THE SECOND FORM's CARD OF 'archivumlaw51.DependEnough'. -/
def dependEnoughUptoCard : Claim7 := { stood := { row := dependEnoughUptoRow, standIns := [], harness := (true, "cb77caa43029141e3a9fbc37316bbe426664f4f9db7c666c9e2e9013af1b4ade"), looks := true }, kinds := [], alts := [], laidByText := true, laidKinds := [.data, .data, .data, .data, .sentinel, .sentinel, .listed, .data, .pinned], laidTests := true, laidLooks := .later }
def DependEnoughUptoCardSaid : Prop := Claim7.holds Tryz.pinned (.plain (OpenSpec.upto dependEnoughSpec)) dependEnoughUptoCard

/-- THE SECOND FORM's CARD OF 'archivumlaw51.DependFresh'. -/
def dependFreshUptoCard : Claim7 := { stood := { row := dependFreshUptoRow, standIns := [], harness := (true, "cb77caa43029141e3a9fbc37316bbe426664f4f9db7c666c9e2e9013af1b4ade"), looks := true }, kinds := [], alts := [], laidByText := true, laidKinds := [.data, .data, .data, .data, .sentinel, .sentinel, .listed, .data, .pinned], laidTests := true, laidLooks := .later }
def DependFreshUptoCardSaid : Prop := Claim7.holds Tryz.pinned (.plain (OpenSpec.upto dependFreshSpec)) dependFreshUptoCard

/-- THE SECOND FORM's CARD OF 'archivumlaw51.DependDiffers'. -/
def dependDiffersUptoCard : Claim7 := { stood := { row := dependDiffersUptoRow, standIns := [], harness := (true, "cb77caa43029141e3a9fbc37316bbe426664f4f9db7c666c9e2e9013af1b4ade"), looks := true }, kinds := [], alts := [], laidByText := true, laidKinds := [.data, .data, .data, .data, .sentinel, .sentinel, .listed, .data, .pinned], laidTests := true, laidLooks := .later }
def DependDiffersUptoCardSaid : Prop := Claim7.holds Tryz.pinned (.plain (OpenSpec.upto dependDiffersSpec)) dependDiffersUptoCard

/-- THE SECOND FORM's CARD OF 'archivumlaw51.DependReads'. -/
def dependReadsUptoCard : Claim7 := { stood := { row := dependReadsUptoRow, standIns := [], harness := (true, "cb77caa43029141e3a9fbc37316bbe426664f4f9db7c666c9e2e9013af1b4ade"), looks := true }, kinds := [], alts := [], laidByText := true, laidKinds := [.data, .data, .data, .data, .sentinel, .sentinel, .listed, .data, .pinned], laidTests := true, laidLooks := .later }
def DependReadsUptoCardSaid : Prop := Claim7.holds Tryz.pinned (.plain (OpenSpec.upto dependReadsSpec)) dependReadsUptoCard

/-- THE SECOND FORM's CARD OF 'archivumlaw51.DependSections'. -/
def dependSectionsUptoCard : Claim7 := { stood := { row := dependSectionsUptoRow, standIns := [], harness := (true, "cb77caa43029141e3a9fbc37316bbe426664f4f9db7c666c9e2e9013af1b4ade"), looks := true }, kinds := [], alts := [], laidByText := true, laidKinds := [.data, .data, .data, .data, .sentinel, .sentinel, .listed, .data, .pinned], laidTests := true, laidLooks := .later }
def DependSectionsUptoCardSaid : Prop := Claim7.holds Tryz.pinned (.plain (OpenSpec.upto dependSectionsSpec)) dependSectionsUptoCard

/-- THE SECOND FORM's CARD OF 'archivumlaw51.DependCompares'. -/
def dependComparesUptoCard : Claim7 := { stood := { row := dependComparesUptoRow, standIns := [], harness := (true, "cb77caa43029141e3a9fbc37316bbe426664f4f9db7c666c9e2e9013af1b4ade"), looks := true }, kinds := [], alts := [], laidByText := true, laidKinds := [.data, .data, .data, .data, .sentinel, .sentinel, .listed, .data, .pinned], laidTests := true, laidLooks := .later }
def DependComparesUptoCardSaid : Prop := Claim7.holds Tryz.pinned (.plain (OpenSpec.upto dependComparesSpec)) dependComparesUptoCard
end Rows
end Go.Proofs.YtfnkchadeaedlaaGreatDoor
