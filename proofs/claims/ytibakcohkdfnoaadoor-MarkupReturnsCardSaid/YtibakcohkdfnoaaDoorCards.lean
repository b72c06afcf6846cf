/-
  DERIVED. GIVEN WITH THE SEED: THE CARDS: each row of YtibakcohkdfnoaaDoorRows.lean that lists a variable, with what it lists TIED to the program's text (the seventh form; the later family's looks); each row that meets fmt, with fmt's text TOLD by the authors' own Lean function (tested against real Go, not proved from fmt's source: count such statements apart). THE CARD IS WHAT COUNTS. Prove the row's statement (the work); the ties are given (YtibakcohkdfnoaaDoorTie.lean); close each card by the builder's one call (the guide's Derived/Test/ToyasCard.lean, 'card_holds'). Laid BY PROGRAM, IN A SANDBOX (cutbox-door.mjs). By AI agents, Wed Nov 11 2026. No macro, syntax, notation, axiom, sorry.
-/
import Derived.Test.YtibakcohkdfnoaaDoorRows
import GoSem.ClaimSeven
namespace Go.Proofs.YtibakcohkdfnoaaDoor
namespace Rows

/-- THE TIED CARD OF 'archivumlaw46.MarkupParses'. -/
def markupParsesCard : Claim7 := { stood := { row := markupParsesRow, standIns := [], harness := (true, "6ec8d6d732ca7582cdc1e3be9e8f6012886dd27fd7e0db3343a454aaafc0e293"), looks := false }, kinds := [], alts := [], laidByText := true, laidKinds := [.data, .pinned], laidTests := true, laidLooks := .later }
def MarkupParsesCardSaid : Prop := Claim7.holds Tryd.pinned (.plain (OpenSpec.ofChange markupParsesSpec)) markupParsesCard

/-- THE TIED CARD OF 'archivumlaw46.MarkupEscapes'. -/
def markupEscapesCard : Claim7 := { stood := { row := markupEscapesRow, standIns := [], harness := (true, "6ec8d6d732ca7582cdc1e3be9e8f6012886dd27fd7e0db3343a454aaafc0e293"), looks := false }, kinds := [], alts := [], laidByText := true, laidKinds := [.data, .pinned], laidTests := true, laidLooks := .later }
def MarkupEscapesCardSaid : Prop := Claim7.holds Tryd.pinned (.plain (OpenSpec.ofChange markupEscapesSpec)) markupEscapesCard

/-- THE TIED CARD OF 'archivumlaw46.MarkupUnique'. -/
def markupUniqueCard : Claim7 := { stood := { row := markupUniqueRow, standIns := [], harness := (true, "6ec8d6d732ca7582cdc1e3be9e8f6012886dd27fd7e0db3343a454aaafc0e293"), looks := false }, kinds := [], alts := [], laidByText := true, laidKinds := [.data, .pinned], laidTests := true, laidLooks := .later }
def MarkupUniqueCardSaid : Prop := Claim7.holds Tryd.pinned (.plain (OpenSpec.ofChange markupUniqueSpec)) markupUniqueCard

/-- THE TIED CARD OF 'archivumlaw46.MarkupPlain'. -/
def markupPlainCard : Claim7 := { stood := { row := markupPlainRow, standIns := [], harness := (true, "6ec8d6d732ca7582cdc1e3be9e8f6012886dd27fd7e0db3343a454aaafc0e293"), looks := false }, kinds := [], alts := [], laidByText := true, laidKinds := [.data, .pinned], laidTests := true, laidLooks := .later }
def MarkupPlainCardSaid : Prop := Claim7.holds Tryd.pinned (.plain (OpenSpec.ofChange markupPlainSpec)) markupPlainCard

/-- THE TIED CARD OF 'archivumlaw46.MarkupPieces'. -/
def markupPiecesCard : Claim7 := { stood := { row := markupPiecesRow, standIns := [], harness := (true, "6ec8d6d732ca7582cdc1e3be9e8f6012886dd27fd7e0db3343a454aaafc0e293"), looks := false }, kinds := [], alts := [], laidByText := true, laidKinds := [.data, .pinned], laidTests := true, laidLooks := .later }
def MarkupPiecesCardSaid : Prop := Claim7.holds Tryd.pinned (.plain (OpenSpec.ofChange markupPiecesSpec)) markupPiecesCard

/-- THE TIED CARD OF 'archivumlaw46.MarkupTexts'. -/
def markupTextsCard : Claim7 := { stood := { row := markupTextsRow, standIns := [], harness := (true, "6ec8d6d732ca7582cdc1e3be9e8f6012886dd27fd7e0db3343a454aaafc0e293"), looks := false }, kinds := [], alts := [], laidByText := true, laidKinds := [.data, .pinned], laidTests := true, laidLooks := .later }
def MarkupTextsCardSaid : Prop := Claim7.holds Tryd.pinned (.plain (OpenSpec.ofChange markupTextsSpec)) markupTextsCard

/-- THE TIED CARD OF 'archivumlaw46.MarkupTree'. -/
def markupTreeCard : Claim7 := { stood := { row := markupTreeRow, standIns := [], harness := (true, "6ec8d6d732ca7582cdc1e3be9e8f6012886dd27fd7e0db3343a454aaafc0e293"), looks := false }, kinds := [], alts := [], laidByText := true, laidKinds := [.data, .pinned], laidTests := true, laidLooks := .later }
def MarkupTreeCardSaid : Prop := Claim7.holds Tryd.pinned (.plain (OpenSpec.ofChange markupTreeSpec)) markupTreeCard

/-- THE TIED CARD OF 'archivumlaw46.MarkupReturns'. -/
def markupReturnsCard : Claim7 := { stood := { row := markupReturnsRow, standIns := [], harness := (true, "6ec8d6d732ca7582cdc1e3be9e8f6012886dd27fd7e0db3343a454aaafc0e293"), looks := false }, kinds := [], alts := [], laidByText := true, laidKinds := [.data, .pinned], laidTests := true, laidLooks := .later }
def MarkupReturnsCardSaid : Prop := Claim7.holds Tryd.pinned (.plain (OpenSpec.ofChange markupReturnsSpec)) markupReturnsCard

/-- THE SECOND FORM's CARD OF 'archivumlaw46.MarkupParses'. -/
def markupParsesUptoCard : Claim7 := { stood := { row := markupParsesUptoRow, standIns := [], harness := (true, "6ec8d6d732ca7582cdc1e3be9e8f6012886dd27fd7e0db3343a454aaafc0e293"), looks := false }, kinds := [], alts := [], laidByText := true, laidKinds := [.data, .pinned], laidTests := true, laidLooks := .later }
def MarkupParsesUptoCardSaid : Prop := Claim7.holds Tryd.pinned (.plain (OpenSpec.upto markupParsesSpec)) markupParsesUptoCard

/-- THE SECOND FORM's CARD OF 'archivumlaw46.MarkupEscapes'. -/
def markupEscapesUptoCard : Claim7 := { stood := { row := markupEscapesUptoRow, standIns := [], harness := (true, "6ec8d6d732ca7582cdc1e3be9e8f6012886dd27fd7e0db3343a454aaafc0e293"), looks := false }, kinds := [], alts := [], laidByText := true, laidKinds := [.data, .pinned], laidTests := true, laidLooks := .later }
def MarkupEscapesUptoCardSaid : Prop := Claim7.holds Tryd.pinned (.plain (OpenSpec.upto markupEscapesSpec)) markupEscapesUptoCard

/-- THE SECOND FORM's CARD OF 'archivumlaw46.MarkupUnique'. -/
def markupUniqueUptoCard : Claim7 := { stood := { row := markupUniqueUptoRow, standIns := [], harness := (true, "6ec8d6d732ca7582cdc1e3be9e8f6012886dd27fd7e0db3343a454aaafc0e293"), looks := false }, kinds := [], alts := [], laidByText := true, laidKinds := [.data, .pinned], laidTests := true, laidLooks := .later }
def MarkupUniqueUptoCardSaid : Prop := Claim7.holds Tryd.pinned (.plain (OpenSpec.upto markupUniqueSpec)) markupUniqueUptoCard

/-- THE SECOND FORM's CARD OF 'archivumlaw46.MarkupPlain'. -/
def markupPlainUptoCard : Claim7 := { stood := { row := markupPlainUptoRow, standIns := [], harness := (true, "6ec8d6d732ca7582cdc1e3be9e8f6012886dd27fd7e0db3343a454aaafc0e293"), looks := false }, kinds := [], alts := [], laidByText := true, laidKinds := [.data, .pinned], laidTests := true, laidLooks := .later }
def MarkupPlainUptoCardSaid : Prop := Claim7.holds Tryd.pinned (.plain (OpenSpec.upto markupPlainSpec)) markupPlainUptoCard

/-- THE SECOND FORM's CARD OF 'archivumlaw46.MarkupPieces'. -/
def markupPiecesUptoCard : Claim7 := { stood := { row := markupPiecesUptoRow, standIns := [], harness := (true, "6ec8d6d732ca7582cdc1e3be9e8f6012886dd27fd7e0db3343a454aaafc0e293"), looks := false }, kinds := [], alts := [], laidByText := true, laidKinds := [.data, .pinned], laidTests := true, laidLooks := .later }
def MarkupPiecesUptoCardSaid : Prop := Claim7.holds Tryd.pinned (.plain (OpenSpec.upto markupPiecesSpec)) markupPiecesUptoCard

/-- THE SECOND FORM's CARD OF 'archivumlaw46.MarkupTexts'. -/
def markupTextsUptoCard : Claim7 := { stood := { row := markupTextsUptoRow, standIns := [], harness := (true, "6ec8d6d732ca7582cdc1e3be9e8f6012886dd27fd7e0db3343a454aaafc0e293"), looks := false }, kinds := [], alts := [], laidByText := true, laidKinds := [.data, .pinned], laidTests := true, laidLooks := .later }
def MarkupTextsUptoCardSaid : Prop := Claim7.holds Tryd.pinned (.plain (OpenSpec.upto markupTextsSpec)) markupTextsUptoCard

/-- THE SECOND FORM's CARD OF 'archivumlaw46.MarkupTree'. -/
def markupTreeUptoCard : Claim7 := { stood := { row := markupTreeUptoRow, standIns := [], harness := (true, "6ec8d6d732ca7582cdc1e3be9e8f6012886dd27fd7e0db3343a454aaafc0e293"), looks := false }, kinds := [], alts := [], laidByText := true, laidKinds := [.data, .pinned], laidTests := true, laidLooks := .later }
def MarkupTreeUptoCardSaid : Prop := Claim7.holds Tryd.pinned (.plain (OpenSpec.upto markupTreeSpec)) markupTreeUptoCard

/-- THE SECOND FORM's CARD OF 'archivumlaw46.MarkupReturns'. -/
def markupReturnsUptoCard : Claim7 := { stood := { row := markupReturnsUptoRow, standIns := [], harness := (true, "6ec8d6d732ca7582cdc1e3be9e8f6012886dd27fd7e0db3343a454aaafc0e293"), looks := false }, kinds := [], alts := [], laidByText := true, laidKinds := [.data, .pinned], laidTests := true, laidLooks := .later }
def MarkupReturnsUptoCardSaid : Prop := Claim7.holds Tryd.pinned (.plain (OpenSpec.upto markupReturnsSpec)) markupReturnsUptoCard
end Rows
end Go.Proofs.YtibakcohkdfnoaaDoor
