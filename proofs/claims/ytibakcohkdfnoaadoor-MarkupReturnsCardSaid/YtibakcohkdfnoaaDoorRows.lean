/-
  NARROWER THAN 'FOR EVERY INPUT', by the rows' own cells (each row's printed sentence says how): MarkupParses: laid · MarkupEscapes: laid · MarkupUnique: laid · MarkupPlain: laid · MarkupPieces: laid · MarkupTexts: laid · MarkupTree: laid · MarkupReturns: laid.
  DERIVED. THE GIVEN ROWS OF THIS SEAT. 8 by the template 'for every input the law returns true; each argument reads behind the call as it read before'; 0 by the template 'total and deterministic' (their statements: YtibakcohkdfnoaaDoorTotals.lean).
  GIVEN WITH THE SEED: the statements are not yours to turn. If you find one false, say at which input.
  Laid BY PROGRAM, IN A SANDBOX (cutbox-rows.mjs): the forced cells as the released guide's own fill.sh prints them over the translation 3257fd8bfb431069… (all of the seat's roots in one cut). By AI agents, Wed Nov 11 2026. No macro, syntax, notation, axiom, sorry.
-/
import Derived.Test.YtibakcohkdfnoaaDoorChecked
import GoSem.PinnedTables
import GoSem.Claim
import GoSem.ClaimJoined
import GoSem.ClaimMapViews
import Derived.JoinedTies
import Derived.KernelRfl
namespace Go.Proofs.YtibakcohkdfnoaaDoor
/- THE CELL 'sum', in the pinned program and in every row, IS THE sha256 OF THE DUMP (.gsa) THAT YtibakcohkdfnoaaDoorProg.lean LOADS. Nothing in Lean hashes anything: it is a label: what it is worth is what the hold of that sum in a sandbox is worth. -/
noncomputable def Tryd.pinned : Pinned := { name := "ytibakcohkdfnoaadoor", sum := "3257fd8bfb43106984629f4f823a84a956af3572973f28bf609cacd329be0db5", checked := Tryd.checked }
namespace Rows
def none {H : Type} : Left H := { results := [], args := [] }

/- WHAT THE LISTED PACKAGE-LEVEL VARIABLES READ AS WHEN THE CALL BEGINS. Each datum BY PROGRAM (the guide's laid-datum.mjs) off the statement by which the dump's own 'gosem.cut.vars' lays the variable. In a bare row this is a premise. The card (YtibakcohkdfnoaaDoorCards.lean) ties it to the program's text. -/
def laid_unicode_utf8_acceptRanges {H : Type} : DataW H := .agg [.agg [.lit (.int .u8 128), .lit (.int .u8 191)], .agg [.lit (.int .u8 160), .lit (.int .u8 191)], .agg [.lit (.int .u8 128), .lit (.int .u8 159)], .agg [.lit (.int .u8 144), .lit (.int .u8 191)], .agg [.lit (.int .u8 128), .lit (.int .u8 143)], .agg [.lit (.int .u8 0), .lit (.int .u8 0)], .agg [.lit (.int .u8 0), .lit (.int .u8 0)], .agg [.lit (.int .u8 0), .lit (.int .u8 0)], .agg [.lit (.int .u8 0), .lit (.int .u8 0)], .agg [.lit (.int .u8 0), .lit (.int .u8 0)], .agg [.lit (.int .u8 0), .lit (.int .u8 0)], .agg [.lit (.int .u8 0), .lit (.int .u8 0)], .agg [.lit (.int .u8 0), .lit (.int .u8 0)], .agg [.lit (.int .u8 0), .lit (.int .u8 0)], .agg [.lit (.int .u8 0), .lit (.int .u8 0)], .agg [.lit (.int .u8 0), .lit (.int .u8 0)]]
/-- One of Go's own tables, pinned by name: the form's constant. -/
def laid_unicode_utf8_first : DataW Unit := Go.Pinned.utf8First

/-- 'archivumlaw46.MarkupParses': WHATEVER THE INPUT: true; the input reads as it did. -/
def markupParsesSpec : ChangeSpec := { name := "markupParses", fn := fun _ => fun
  | [d] => { results := [.lit (.bool true)], args := [d] }
  | _ => none }
def markupParsesRow : OpenClaim := { program := "ytibakcohkdfnoaadoor", sum := "3257fd8bfb43106984629f4f823a84a956af3572973f28bf609cacd329be0db5", func := "archivum/archivumlaw46.MarkupParses", spec := "markupParses", inPlace := ["internal/abi.NoEscape", "internal/bytealg.MakeNoZero", "internal/bytealg.IndexByteString", "internal/bytealg.IndexString"], unfollowed := true, recurses := true, named := ["internal/bytealg.MaxLen", "unicode/utf8.first", "unicode/utf8.acceptRanges"], apart := false, laid := [("unicode/utf8.acceptRanges", laid_unicode_utf8_acceptRanges), ("unicode/utf8.first", laid_unicode_utf8_first)] }
def MarkupParsesSaid : Prop := markupParsesRow.holds Tryd.pinned (OpenSpec.ofChange markupParsesSpec)

/-- ITS FALSE NEIGHBOUR: 'it returns false'. Refute it at one input. -/
def markupParsesWrong : ChangeSpec := { name := "markupParses", fn := fun _ => fun
  | [d] => { results := [.lit (.bool false)], args := [d] }
  | _ => none }
def MarkupParsesWrongFalsely : Prop := markupParsesRow.holds Tryd.pinned (OpenSpec.ofChange markupParsesWrong)

/-- 'archivumlaw46.MarkupEscapes': WHATEVER THE INPUT: true; the input reads as it did. -/
def markupEscapesSpec : ChangeSpec := { name := "markupEscapes", fn := fun _ => fun
  | [d] => { results := [.lit (.bool true)], args := [d] }
  | _ => none }
def markupEscapesRow : OpenClaim := { program := "ytibakcohkdfnoaadoor", sum := "3257fd8bfb43106984629f4f823a84a956af3572973f28bf609cacd329be0db5", func := "archivum/archivumlaw46.MarkupEscapes", spec := "markupEscapes", inPlace := ["internal/abi.NoEscape", "internal/bytealg.MakeNoZero", "internal/bytealg.IndexByteString", "internal/bytealg.IndexString"], unfollowed := true, recurses := true, named := ["internal/bytealg.MaxLen", "unicode/utf8.first", "unicode/utf8.acceptRanges"], apart := false, laid := [("unicode/utf8.acceptRanges", laid_unicode_utf8_acceptRanges), ("unicode/utf8.first", laid_unicode_utf8_first)] }
def MarkupEscapesSaid : Prop := markupEscapesRow.holds Tryd.pinned (OpenSpec.ofChange markupEscapesSpec)

/-- ITS FALSE NEIGHBOUR: 'it returns false'. Refute it at one input. -/
def markupEscapesWrong : ChangeSpec := { name := "markupEscapes", fn := fun _ => fun
  | [d] => { results := [.lit (.bool false)], args := [d] }
  | _ => none }
def MarkupEscapesWrongFalsely : Prop := markupEscapesRow.holds Tryd.pinned (OpenSpec.ofChange markupEscapesWrong)

/-- 'archivumlaw46.MarkupUnique': WHATEVER THE INPUT: true; the input reads as it did. -/
def markupUniqueSpec : ChangeSpec := { name := "markupUnique", fn := fun _ => fun
  | [d] => { results := [.lit (.bool true)], args := [d] }
  | _ => none }
def markupUniqueRow : OpenClaim := { program := "ytibakcohkdfnoaadoor", sum := "3257fd8bfb43106984629f4f823a84a956af3572973f28bf609cacd329be0db5", func := "archivum/archivumlaw46.MarkupUnique", spec := "markupUnique", inPlace := ["internal/abi.NoEscape", "internal/bytealg.MakeNoZero", "internal/bytealg.IndexByteString", "internal/bytealg.IndexString"], unfollowed := true, recurses := true, named := ["internal/bytealg.MaxLen", "unicode/utf8.first", "unicode/utf8.acceptRanges"], apart := false, laid := [("unicode/utf8.acceptRanges", laid_unicode_utf8_acceptRanges), ("unicode/utf8.first", laid_unicode_utf8_first)] }
def MarkupUniqueSaid : Prop := markupUniqueRow.holds Tryd.pinned (OpenSpec.ofChange markupUniqueSpec)

/-- ITS FALSE NEIGHBOUR: 'it returns false'. Refute it at one input. -/
def markupUniqueWrong : ChangeSpec := { name := "markupUnique", fn := fun _ => fun
  | [d] => { results := [.lit (.bool false)], args := [d] }
  | _ => none }
def MarkupUniqueWrongFalsely : Prop := markupUniqueRow.holds Tryd.pinned (OpenSpec.ofChange markupUniqueWrong)

/-- 'archivumlaw46.MarkupPlain': WHATEVER THE INPUT: true; the input reads as it did. -/
def markupPlainSpec : ChangeSpec := { name := "markupPlain", fn := fun _ => fun
  | [d] => { results := [.lit (.bool true)], args := [d] }
  | _ => none }
def markupPlainRow : OpenClaim := { program := "ytibakcohkdfnoaadoor", sum := "3257fd8bfb43106984629f4f823a84a956af3572973f28bf609cacd329be0db5", func := "archivum/archivumlaw46.MarkupPlain", spec := "markupPlain", inPlace := ["internal/abi.NoEscape", "internal/bytealg.MakeNoZero", "internal/bytealg.IndexByteString", "internal/bytealg.IndexString"], unfollowed := true, recurses := true, named := ["internal/bytealg.MaxLen", "unicode/utf8.first", "unicode/utf8.acceptRanges"], apart := false, laid := [("unicode/utf8.acceptRanges", laid_unicode_utf8_acceptRanges), ("unicode/utf8.first", laid_unicode_utf8_first)] }
def MarkupPlainSaid : Prop := markupPlainRow.holds Tryd.pinned (OpenSpec.ofChange markupPlainSpec)

/-- ITS FALSE NEIGHBOUR: 'it returns false'. Refute it at one input. -/
def markupPlainWrong : ChangeSpec := { name := "markupPlain", fn := fun _ => fun
  | [d] => { results := [.lit (.bool false)], args := [d] }
  | _ => none }
def MarkupPlainWrongFalsely : Prop := markupPlainRow.holds Tryd.pinned (OpenSpec.ofChange markupPlainWrong)

/-- 'archivumlaw46.MarkupPieces': WHATEVER THE INPUT: true; the input reads as it did. -/
def markupPiecesSpec : ChangeSpec := { name := "markupPieces", fn := fun _ => fun
  | [d1, d2] => { results := [.lit (.bool true)], args := [d1, d2] }
  | _ => none }
def markupPiecesRow : OpenClaim := { program := "ytibakcohkdfnoaadoor", sum := "3257fd8bfb43106984629f4f823a84a956af3572973f28bf609cacd329be0db5", func := "archivum/archivumlaw46.MarkupPieces", spec := "markupPieces", inPlace := ["internal/abi.NoEscape", "internal/bytealg.MakeNoZero", "internal/bytealg.IndexByteString", "internal/bytealg.IndexString"], unfollowed := true, recurses := true, named := ["internal/bytealg.MaxLen", "unicode/utf8.first", "unicode/utf8.acceptRanges"], apart := false, laid := [("unicode/utf8.acceptRanges", laid_unicode_utf8_acceptRanges), ("unicode/utf8.first", laid_unicode_utf8_first)] }
def MarkupPiecesSaid : Prop := markupPiecesRow.holds Tryd.pinned (OpenSpec.ofChange markupPiecesSpec)

/-- ITS FALSE NEIGHBOUR: 'it returns false'. Refute it at one input. -/
def markupPiecesWrong : ChangeSpec := { name := "markupPieces", fn := fun _ => fun
  | [d1, d2] => { results := [.lit (.bool false)], args := [d1, d2] }
  | _ => none }
def MarkupPiecesWrongFalsely : Prop := markupPiecesRow.holds Tryd.pinned (OpenSpec.ofChange markupPiecesWrong)

/-- 'archivumlaw46.MarkupTexts': WHATEVER THE INPUT: true; the input reads as it did. -/
def markupTextsSpec : ChangeSpec := { name := "markupTexts", fn := fun _ => fun
  | [d] => { results := [.lit (.bool true)], args := [d] }
  | _ => none }
def markupTextsRow : OpenClaim := { program := "ytibakcohkdfnoaadoor", sum := "3257fd8bfb43106984629f4f823a84a956af3572973f28bf609cacd329be0db5", func := "archivum/archivumlaw46.MarkupTexts", spec := "markupTexts", inPlace := ["internal/abi.NoEscape", "internal/bytealg.MakeNoZero", "internal/bytealg.IndexByteString", "internal/bytealg.IndexString"], unfollowed := true, recurses := true, named := ["internal/bytealg.MaxLen", "unicode/utf8.first", "unicode/utf8.acceptRanges"], apart := false, laid := [("unicode/utf8.acceptRanges", laid_unicode_utf8_acceptRanges), ("unicode/utf8.first", laid_unicode_utf8_first)] }
def MarkupTextsSaid : Prop := markupTextsRow.holds Tryd.pinned (OpenSpec.ofChange markupTextsSpec)

/-- ITS FALSE NEIGHBOUR: 'it returns false'. Refute it at one input. -/
def markupTextsWrong : ChangeSpec := { name := "markupTexts", fn := fun _ => fun
  | [d] => { results := [.lit (.bool false)], args := [d] }
  | _ => none }
def MarkupTextsWrongFalsely : Prop := markupTextsRow.holds Tryd.pinned (OpenSpec.ofChange markupTextsWrong)

/-- 'archivumlaw46.MarkupTree': WHATEVER THE INPUT: true; the input reads as it did. -/
def markupTreeSpec : ChangeSpec := { name := "markupTree", fn := fun _ => fun
  | [d1, d2] => { results := [.lit (.bool true)], args := [d1, d2] }
  | _ => none }
def markupTreeRow : OpenClaim := { program := "ytibakcohkdfnoaadoor", sum := "3257fd8bfb43106984629f4f823a84a956af3572973f28bf609cacd329be0db5", func := "archivum/archivumlaw46.MarkupTree", spec := "markupTree", inPlace := ["internal/abi.NoEscape", "internal/bytealg.MakeNoZero", "internal/bytealg.IndexByteString", "internal/bytealg.IndexString"], unfollowed := true, recurses := true, named := ["internal/bytealg.MaxLen", "unicode/utf8.first", "unicode/utf8.acceptRanges"], apart := false, laid := [("unicode/utf8.acceptRanges", laid_unicode_utf8_acceptRanges), ("unicode/utf8.first", laid_unicode_utf8_first)] }
def MarkupTreeSaid : Prop := markupTreeRow.holds Tryd.pinned (OpenSpec.ofChange markupTreeSpec)

/-- ITS FALSE NEIGHBOUR: 'it returns false'. Refute it at one input. -/
def markupTreeWrong : ChangeSpec := { name := "markupTree", fn := fun _ => fun
  | [d1, d2] => { results := [.lit (.bool false)], args := [d1, d2] }
  | _ => none }
def MarkupTreeWrongFalsely : Prop := markupTreeRow.holds Tryd.pinned (OpenSpec.ofChange markupTreeWrong)

/-- 'archivumlaw46.MarkupReturns': WHATEVER THE INPUT: true; the input reads as it did. -/
def markupReturnsSpec : ChangeSpec := { name := "markupReturns", fn := fun _ => fun
  | [d] => { results := [.lit (.bool true)], args := [d] }
  | _ => none }
def markupReturnsRow : OpenClaim := { program := "ytibakcohkdfnoaadoor", sum := "3257fd8bfb43106984629f4f823a84a956af3572973f28bf609cacd329be0db5", func := "archivum/archivumlaw46.MarkupReturns", spec := "markupReturns", inPlace := ["internal/abi.NoEscape", "internal/bytealg.MakeNoZero", "internal/bytealg.IndexByteString", "internal/bytealg.IndexString"], unfollowed := true, recurses := true, named := ["internal/bytealg.MaxLen", "unicode/utf8.first", "unicode/utf8.acceptRanges"], apart := false, laid := [("unicode/utf8.acceptRanges", laid_unicode_utf8_acceptRanges), ("unicode/utf8.first", laid_unicode_utf8_first)] }
def MarkupReturnsSaid : Prop := markupReturnsRow.holds Tryd.pinned (OpenSpec.ofChange markupReturnsSpec)

/-- ITS FALSE NEIGHBOUR: 'it returns false'. Refute it at one input. -/
def markupReturnsWrong : ChangeSpec := { name := "markupReturns", fn := fun _ => fun
  | [d] => { results := [.lit (.bool false)], args := [d] }
  | _ => none }
def MarkupReturnsWrongFalsely : Prop := markupReturnsRow.holds Tryd.pinned (OpenSpec.ofChange markupReturnsWrong)

/- THE SECOND FORM. 'bulk': how many values and letters a reading holds, each counted each time it is reached (what is shared counts as often as it is met; a slice's spare places count too). A statement '..UptoSaid' is the law's where the arguments, and the package variables that the reading takes, are together of bulk at most 1048576: NARROWER than '..Said'. Prove '..Said' where nothing that the law and all that it calls make is longer than what came in: it says more and counts as full. Else prove '..UptoSaid'. A law counts once. -/
mutual
def uptoBulk {H : Type} : DataW H → Nat
  | .lit (.string bytes) => bytes.length + 1
  | .lit _ => 1
  | .nil => 1
  | .ptr d => uptoBulk d + 1
  | .slice elems spare => uptoBulkAll elems + uptoBulkAll spare + 1
  | .agg parts => uptoBulkAll parts + 1
  | .iface _ d => uptoBulk d + 1
  | .map entries => uptoBulkEntries entries + 1
  | .held _ => 1
def uptoBulkAll {H : Type} : List (DataW H) → Nat
  | [] => 0
  | d :: r => uptoBulk d + uptoBulkAll r
def uptoBulkEntries {H : Type} : List (Lit × DataW H) → Nat
  | [] => 0
  | x :: r => uptoBulkEntry x + uptoBulkEntries r
def uptoBulkEntry {H : Type} : Lit × DataW H → Nat
  | (.string bytes, d) => bytes.length + uptoBulk d + 1
  | (_, d) => uptoBulk d + 1
 end
def uptoSmall : (H : Type) → List (DataW H) → Bool := fun _ ds => decide (uptoBulkAll ds ≤ 1048576)
def OpenSpec.upto (s : _root_.Go.ChangeSpec) : _root_.Go.OpenSpec := { _root_.Go.OpenSpec.ofChange s with cond := some uptoSmall }

/-- 'archivumlaw46.MarkupParses', WHERE WHAT IT READS IS OF BULK AT MOST 1048576: true; the input reads as it did. -/
def markupParsesUptoRow : OpenClaim := { program := "ytibakcohkdfnoaadoor", sum := "3257fd8bfb43106984629f4f823a84a956af3572973f28bf609cacd329be0db5", func := "archivum/archivumlaw46.MarkupParses", spec := "markupParses", inPlace := ["internal/abi.NoEscape", "internal/bytealg.MakeNoZero", "internal/bytealg.IndexByteString", "internal/bytealg.IndexString"], unfollowed := true, recurses := true, named := ["internal/bytealg.MaxLen", "unicode/utf8.first", "unicode/utf8.acceptRanges"], apart := false, laid := [("unicode/utf8.acceptRanges", laid_unicode_utf8_acceptRanges), ("unicode/utf8.first", laid_unicode_utf8_first)], narrowed := true }
def MarkupParsesUptoSaid : Prop := markupParsesUptoRow.holds Tryd.pinned (OpenSpec.upto markupParsesSpec)

/-- 'archivumlaw46.MarkupEscapes', WHERE WHAT IT READS IS OF BULK AT MOST 1048576: true; the input reads as it did. -/
def markupEscapesUptoRow : OpenClaim := { program := "ytibakcohkdfnoaadoor", sum := "3257fd8bfb43106984629f4f823a84a956af3572973f28bf609cacd329be0db5", func := "archivum/archivumlaw46.MarkupEscapes", spec := "markupEscapes", inPlace := ["internal/abi.NoEscape", "internal/bytealg.MakeNoZero", "internal/bytealg.IndexByteString", "internal/bytealg.IndexString"], unfollowed := true, recurses := true, named := ["internal/bytealg.MaxLen", "unicode/utf8.first", "unicode/utf8.acceptRanges"], apart := false, laid := [("unicode/utf8.acceptRanges", laid_unicode_utf8_acceptRanges), ("unicode/utf8.first", laid_unicode_utf8_first)], narrowed := true }
def MarkupEscapesUptoSaid : Prop := markupEscapesUptoRow.holds Tryd.pinned (OpenSpec.upto markupEscapesSpec)

/-- 'archivumlaw46.MarkupUnique', WHERE WHAT IT READS IS OF BULK AT MOST 1048576: true; the input reads as it did. -/
def markupUniqueUptoRow : OpenClaim := { program := "ytibakcohkdfnoaadoor", sum := "3257fd8bfb43106984629f4f823a84a956af3572973f28bf609cacd329be0db5", func := "archivum/archivumlaw46.MarkupUnique", spec := "markupUnique", inPlace := ["internal/abi.NoEscape", "internal/bytealg.MakeNoZero", "internal/bytealg.IndexByteString", "internal/bytealg.IndexString"], unfollowed := true, recurses := true, named := ["internal/bytealg.MaxLen", "unicode/utf8.first", "unicode/utf8.acceptRanges"], apart := false, laid := [("unicode/utf8.acceptRanges", laid_unicode_utf8_acceptRanges), ("unicode/utf8.first", laid_unicode_utf8_first)], narrowed := true }
def MarkupUniqueUptoSaid : Prop := markupUniqueUptoRow.holds Tryd.pinned (OpenSpec.upto markupUniqueSpec)

/-- 'archivumlaw46.MarkupPlain', WHERE WHAT IT READS IS OF BULK AT MOST 1048576: true; the input reads as it did. -/
def markupPlainUptoRow : OpenClaim := { program := "ytibakcohkdfnoaadoor", sum := "3257fd8bfb43106984629f4f823a84a956af3572973f28bf609cacd329be0db5", func := "archivum/archivumlaw46.MarkupPlain", spec := "markupPlain", inPlace := ["internal/abi.NoEscape", "internal/bytealg.MakeNoZero", "internal/bytealg.IndexByteString", "internal/bytealg.IndexString"], unfollowed := true, recurses := true, named := ["internal/bytealg.MaxLen", "unicode/utf8.first", "unicode/utf8.acceptRanges"], apart := false, laid := [("unicode/utf8.acceptRanges", laid_unicode_utf8_acceptRanges), ("unicode/utf8.first", laid_unicode_utf8_first)], narrowed := true }
def MarkupPlainUptoSaid : Prop := markupPlainUptoRow.holds Tryd.pinned (OpenSpec.upto markupPlainSpec)

/-- 'archivumlaw46.MarkupPieces', WHERE WHAT IT READS IS OF BULK AT MOST 1048576: true; the input reads as it did. -/
def markupPiecesUptoRow : OpenClaim := { program := "ytibakcohkdfnoaadoor", sum := "3257fd8bfb43106984629f4f823a84a956af3572973f28bf609cacd329be0db5", func := "archivum/archivumlaw46.MarkupPieces", spec := "markupPieces", inPlace := ["internal/abi.NoEscape", "internal/bytealg.MakeNoZero", "internal/bytealg.IndexByteString", "internal/bytealg.IndexString"], unfollowed := true, recurses := true, named := ["internal/bytealg.MaxLen", "unicode/utf8.first", "unicode/utf8.acceptRanges"], apart := false, laid := [("unicode/utf8.acceptRanges", laid_unicode_utf8_acceptRanges), ("unicode/utf8.first", laid_unicode_utf8_first)], narrowed := true }
def MarkupPiecesUptoSaid : Prop := markupPiecesUptoRow.holds Tryd.pinned (OpenSpec.upto markupPiecesSpec)

/-- 'archivumlaw46.MarkupTexts', WHERE WHAT IT READS IS OF BULK AT MOST 1048576: true; the input reads as it did. -/
def markupTextsUptoRow : OpenClaim := { program := "ytibakcohkdfnoaadoor", sum := "3257fd8bfb43106984629f4f823a84a956af3572973f28bf609cacd329be0db5", func := "archivum/archivumlaw46.MarkupTexts", spec := "markupTexts", inPlace := ["internal/abi.NoEscape", "internal/bytealg.MakeNoZero", "internal/bytealg.IndexByteString", "internal/bytealg.IndexString"], unfollowed := true, recurses := true, named := ["internal/bytealg.MaxLen", "unicode/utf8.first", "unicode/utf8.acceptRanges"], apart := false, laid := [("unicode/utf8.acceptRanges", laid_unicode_utf8_acceptRanges), ("unicode/utf8.first", laid_unicode_utf8_first)], narrowed := true }
def MarkupTextsUptoSaid : Prop := markupTextsUptoRow.holds Tryd.pinned (OpenSpec.upto markupTextsSpec)

/-- 'archivumlaw46.MarkupTree', WHERE WHAT IT READS IS OF BULK AT MOST 1048576: true; the input reads as it did. -/
def markupTreeUptoRow : OpenClaim := { program := "ytibakcohkdfnoaadoor", sum := "3257fd8bfb43106984629f4f823a84a956af3572973f28bf609cacd329be0db5", func := "archivum/archivumlaw46.MarkupTree", spec := "markupTree", inPlace := ["internal/abi.NoEscape", "internal/bytealg.MakeNoZero", "internal/bytealg.IndexByteString", "internal/bytealg.IndexString"], unfollowed := true, recurses := true, named := ["internal/bytealg.MaxLen", "unicode/utf8.first", "unicode/utf8.acceptRanges"], apart := false, laid := [("unicode/utf8.acceptRanges", laid_unicode_utf8_acceptRanges), ("unicode/utf8.first", laid_unicode_utf8_first)], narrowed := true }
def MarkupTreeUptoSaid : Prop := markupTreeUptoRow.holds Tryd.pinned (OpenSpec.upto markupTreeSpec)

/-- 'archivumlaw46.MarkupReturns', WHERE WHAT IT READS IS OF BULK AT MOST 1048576: true; the input reads as it did. -/
def markupReturnsUptoRow : OpenClaim := { program := "ytibakcohkdfnoaadoor", sum := "3257fd8bfb43106984629f4f823a84a956af3572973f28bf609cacd329be0db5", func := "archivum/archivumlaw46.MarkupReturns", spec := "markupReturns", inPlace := ["internal/abi.NoEscape", "internal/bytealg.MakeNoZero", "internal/bytealg.IndexByteString", "internal/bytealg.IndexString"], unfollowed := true, recurses := true, named := ["internal/bytealg.MaxLen", "unicode/utf8.first", "unicode/utf8.acceptRanges"], apart := false, laid := [("unicode/utf8.acceptRanges", laid_unicode_utf8_acceptRanges), ("unicode/utf8.first", laid_unicode_utf8_first)], narrowed := true }
def MarkupReturnsUptoSaid : Prop := markupReturnsUptoRow.holds Tryd.pinned (OpenSpec.upto markupReturnsSpec)

end Rows
end Go.Proofs.YtibakcohkdfnoaaDoor
