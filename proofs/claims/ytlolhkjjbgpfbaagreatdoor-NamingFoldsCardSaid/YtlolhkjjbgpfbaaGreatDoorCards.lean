/-
  DERIVED. GIVEN WITH THE SEED: THE CARDS: each row of YtlolhkjjbgpfbaaGreatDoorRows.lean that lists a variable, with what it lists TIED to the program's text (the seventh form; the later family's looks); each row that meets fmt, with fmt's text TOLD by the authors' own Lean function (tested against real Go, not proved from fmt's source: count such statements apart). THE CARD IS WHAT COUNTS. Prove the row's statement (the work); the ties are given (YtlolhkjjbgpfbaaGreatDoorTie.lean); close each card by the builder's one call (the guide's Derived/Test/ToyasCard.lean, 'card_holds'). Laid BY PROGRAM, IN A SANDBOX (cutbox-door.mjs). By AI agents, Wed Nov 11 2026. No macro, syntax, notation, axiom, sorry.
-/
import Derived.Test.YtlolhkjjbgpfbaaGreatDoorRows
import GoSem.ClaimSeven
namespace Go.Proofs.YtlolhkjjbgpfbaaGreatDoor
namespace Rows

/-- THE TIED CARD OF 'archivumlaw24.NamingForms'. -/
def namingFormsCard : Claim7 := { stood := { row := namingFormsRow, standIns := [], harness := (true, "b5969763cd73637f79d20d58711c271fd9a0790c56011b2ee554320f03958a90"), looks := false }, kinds := [], alts := [], laidByText := true, laidKinds := [.data, .data, .data], laidTests := true, laidLooks := .later }
def NamingFormsCardSaid : Prop := Claim7.holds Tryz.pinned (.plain (OpenSpec.ofChange namingFormsSpec)) namingFormsCard

/-- THE TIED CARD OF 'archivumlaw24.NamingCompares'. -/
def namingComparesCard : Claim7 := { stood := { row := namingComparesRow, standIns := [], harness := (true, "b5969763cd73637f79d20d58711c271fd9a0790c56011b2ee554320f03958a90"), looks := false }, kinds := [], alts := [], laidByText := true, laidKinds := [.data, .data, .data], laidTests := true, laidLooks := .later }
def NamingComparesCardSaid : Prop := Claim7.holds Tryz.pinned (.plain (OpenSpec.ofChange namingComparesSpec)) namingComparesCard

/-- THE TIED CARD OF 'archivumlaw24.NamingHeadings'. -/
def namingHeadingsCard : Claim7 := { stood := { row := namingHeadingsRow, standIns := [], harness := (true, "b5969763cd73637f79d20d58711c271fd9a0790c56011b2ee554320f03958a90"), looks := false }, kinds := [], alts := [], laidByText := true, laidKinds := [.data, .data, .data], laidTests := true, laidLooks := .later }
def NamingHeadingsCardSaid : Prop := Claim7.holds Tryz.pinned (.plain (OpenSpec.ofChange namingHeadingsSpec)) namingHeadingsCard

/-- THE TIED CARD OF 'archivumlaw24.NamingInverts'. -/
def namingInvertsCard : Claim7 := { stood := { row := namingInvertsRow, standIns := [], harness := (true, "b5969763cd73637f79d20d58711c271fd9a0790c56011b2ee554320f03958a90"), looks := false }, kinds := [], alts := [], laidByText := true, laidKinds := [.data, .data, .data], laidTests := true, laidLooks := .later }
def NamingInvertsCardSaid : Prop := Claim7.holds Tryz.pinned (.plain (OpenSpec.ofChange namingInvertsSpec)) namingInvertsCard

/-- THE TIED CARD OF 'archivumlaw24.NamingUnlike'. -/
def namingUnlikeCard : Claim7 := { stood := { row := namingUnlikeRow, standIns := [], harness := (true, "b5969763cd73637f79d20d58711c271fd9a0790c56011b2ee554320f03958a90"), looks := false }, kinds := [], alts := [], laidByText := true, laidKinds := [.data, .data, .data], laidTests := true, laidLooks := .later }
def NamingUnlikeCardSaid : Prop := Claim7.holds Tryz.pinned (.plain (OpenSpec.ofChange namingUnlikeSpec)) namingUnlikeCard

/-- THE TIED CARD OF 'archivumlaw24.NamingFinds'. -/
def namingFindsCard : Claim7 := { stood := { row := namingFindsRow, standIns := [], harness := (true, "b5969763cd73637f79d20d58711c271fd9a0790c56011b2ee554320f03958a90"), looks := false }, kinds := [], alts := [], laidByText := true, laidKinds := [.data, .data, .data, .listed, .data], laidTests := true, laidLooks := .later }
def NamingFindsCardSaid : Prop := Claim7.holds Tryz.pinned (.plain (OpenSpec.ofChange namingFindsSpec)) namingFindsCard

/-- THE TIED CARD OF 'archivumlaw24.NamingOrder'. -/
def namingOrderCard : Claim7 := { stood := { row := namingOrderRow, standIns := [], harness := (true, "b5969763cd73637f79d20d58711c271fd9a0790c56011b2ee554320f03958a90"), looks := false }, kinds := [], alts := [], laidByText := true, laidKinds := [.data, .data, .data, .data, .pinned], laidTests := true, laidLooks := .later }
def NamingOrderCardSaid : Prop := Claim7.holds Tryz.pinned (.plain (OpenSpec.ofChange namingOrderSpec)) namingOrderCard

/-- THE TIED CARD OF 'archivumlaw24.NamingFolds'. -/
def namingFoldsCard : Claim7 := { stood := { row := namingFoldsRow, standIns := [], harness := (true, "b5969763cd73637f79d20d58711c271fd9a0790c56011b2ee554320f03958a90"), looks := false }, kinds := [], alts := [], laidByText := true, laidKinds := [.data, .data, .data, .data, .pinned], laidTests := true, laidLooks := .later }
def NamingFoldsCardSaid : Prop := Claim7.holds Tryz.pinned (.plain (OpenSpec.ofChange namingFoldsSpec)) namingFoldsCard

/-- THE SECOND FORM's CARD OF 'archivumlaw24.NamingForms'. -/
def namingFormsUptoCard : Claim7 := { stood := { row := namingFormsUptoRow, standIns := [], harness := (true, "b5969763cd73637f79d20d58711c271fd9a0790c56011b2ee554320f03958a90"), looks := false }, kinds := [], alts := [], laidByText := true, laidKinds := [.data, .data, .data], laidTests := true, laidLooks := .later }
def NamingFormsUptoCardSaid : Prop := Claim7.holds Tryz.pinned (.plain (OpenSpec.upto namingFormsSpec)) namingFormsUptoCard

/-- THE SECOND FORM's CARD OF 'archivumlaw24.NamingCompares'. -/
def namingComparesUptoCard : Claim7 := { stood := { row := namingComparesUptoRow, standIns := [], harness := (true, "b5969763cd73637f79d20d58711c271fd9a0790c56011b2ee554320f03958a90"), looks := false }, kinds := [], alts := [], laidByText := true, laidKinds := [.data, .data, .data], laidTests := true, laidLooks := .later }
def NamingComparesUptoCardSaid : Prop := Claim7.holds Tryz.pinned (.plain (OpenSpec.upto namingComparesSpec)) namingComparesUptoCard

/-- THE SECOND FORM's CARD OF 'archivumlaw24.NamingHeadings'. -/
def namingHeadingsUptoCard : Claim7 := { stood := { row := namingHeadingsUptoRow, standIns := [], harness := (true, "b5969763cd73637f79d20d58711c271fd9a0790c56011b2ee554320f03958a90"), looks := false }, kinds := [], alts := [], laidByText := true, laidKinds := [.data, .data, .data], laidTests := true, laidLooks := .later }
def NamingHeadingsUptoCardSaid : Prop := Claim7.holds Tryz.pinned (.plain (OpenSpec.upto namingHeadingsSpec)) namingHeadingsUptoCard

/-- THE SECOND FORM's CARD OF 'archivumlaw24.NamingInverts'. -/
def namingInvertsUptoCard : Claim7 := { stood := { row := namingInvertsUptoRow, standIns := [], harness := (true, "b5969763cd73637f79d20d58711c271fd9a0790c56011b2ee554320f03958a90"), looks := false }, kinds := [], alts := [], laidByText := true, laidKinds := [.data, .data, .data], laidTests := true, laidLooks := .later }
def NamingInvertsUptoCardSaid : Prop := Claim7.holds Tryz.pinned (.plain (OpenSpec.upto namingInvertsSpec)) namingInvertsUptoCard

/-- THE SECOND FORM's CARD OF 'archivumlaw24.NamingUnlike'. -/
def namingUnlikeUptoCard : Claim7 := { stood := { row := namingUnlikeUptoRow, standIns := [], harness := (true, "b5969763cd73637f79d20d58711c271fd9a0790c56011b2ee554320f03958a90"), looks := false }, kinds := [], alts := [], laidByText := true, laidKinds := [.data, .data, .data], laidTests := true, laidLooks := .later }
def NamingUnlikeUptoCardSaid : Prop := Claim7.holds Tryz.pinned (.plain (OpenSpec.upto namingUnlikeSpec)) namingUnlikeUptoCard

/-- THE SECOND FORM's CARD OF 'archivumlaw24.NamingFinds'. -/
def namingFindsUptoCard : Claim7 := { stood := { row := namingFindsUptoRow, standIns := [], harness := (true, "b5969763cd73637f79d20d58711c271fd9a0790c56011b2ee554320f03958a90"), looks := false }, kinds := [], alts := [], laidByText := true, laidKinds := [.data, .data, .data, .listed, .data], laidTests := true, laidLooks := .later }
def NamingFindsUptoCardSaid : Prop := Claim7.holds Tryz.pinned (.plain (OpenSpec.upto namingFindsSpec)) namingFindsUptoCard

/-- THE SECOND FORM's CARD OF 'archivumlaw24.NamingOrder'. -/
def namingOrderUptoCard : Claim7 := { stood := { row := namingOrderUptoRow, standIns := [], harness := (true, "b5969763cd73637f79d20d58711c271fd9a0790c56011b2ee554320f03958a90"), looks := false }, kinds := [], alts := [], laidByText := true, laidKinds := [.data, .data, .data, .data, .pinned], laidTests := true, laidLooks := .later }
def NamingOrderUptoCardSaid : Prop := Claim7.holds Tryz.pinned (.plain (OpenSpec.upto namingOrderSpec)) namingOrderUptoCard

/-- THE SECOND FORM's CARD OF 'archivumlaw24.NamingFolds'. -/
def namingFoldsUptoCard : Claim7 := { stood := { row := namingFoldsUptoRow, standIns := [], harness := (true, "b5969763cd73637f79d20d58711c271fd9a0790c56011b2ee554320f03958a90"), looks := false }, kinds := [], alts := [], laidByText := true, laidKinds := [.data, .data, .data, .data, .pinned], laidTests := true, laidLooks := .later }
def NamingFoldsUptoCardSaid : Prop := Claim7.holds Tryz.pinned (.plain (OpenSpec.upto namingFoldsSpec)) namingFoldsUptoCard
end Rows
end Go.Proofs.YtlolhkjjbgpfbaaGreatDoor
