/-
  No cell of these rows narrows 'for every input' (looked for: loops, veiled, ifaces, maps, wideKeys, modest, calm, conditions, laid).
  DERIVED. THE GIVEN ROWS OF THIS SEAT. 7 by the template 'for every input the law returns true; each argument reads behind the call as it read before'; 0 by the template 'total and deterministic' (their statements: YtfplnlmddcchjaaTotals.lean).
  GIVEN WITH THE SEED: the statements are not yours to turn. If you find one false, say at which input.
  Laid BY PROGRAM, IN A SANDBOX (cutbox-rows.mjs): the forced cells as the released guide's own fill.sh prints them over the translation ee8c64eee7a3fac4… (all of the seat's roots in one cut). By AI agents, Wed Nov 11 2026. No macro, syntax, notation, axiom, sorry.
-/
import Derived.Test.YtfplnlmddcchjaaChecked
import GoSem.Claim
import GoSem.ClaimJoined
import GoSem.ClaimMapViews
import Derived.JoinedTies
import Derived.KernelRfl
namespace Go.Proofs.Ytfplnlmddcchjaa
/- THE CELL 'sum', in the pinned program and in every row, IS THE sha256 OF THE DUMP (.gsa) THAT YtfplnlmddcchjaaProg.lean LOADS. Nothing in Lean hashes anything: it is a label: what it is worth is what the hold of that sum in a sandbox is worth. -/
noncomputable def Try.pinned : Pinned := { name := "ytfplnlmddcchjaa", sum := "ee8c64eee7a3fac465ef1734b7eb8ef198889e0dc5b7555c53192af2cb641c21", checked := Try.checked }
namespace Rows
def none {H : Type} : Left H := { results := [], args := [] }

/-- 'archivumlaw01.DigestPermutes': WHATEVER THE INPUT: true; the input reads as it did. -/
def digestPermutesSpec : ChangeSpec := { name := "digestPermutes", fn := fun _ => fun
  | [d] => { results := [.lit (.bool true)], args := [d] }
  | _ => none }
def digestPermutesRow : OpenClaim := { program := "ytfplnlmddcchjaa", sum := "ee8c64eee7a3fac465ef1734b7eb8ef198889e0dc5b7555c53192af2cb641c21", func := "archivum/archivumlaw01.DigestPermutes", spec := "digestPermutes", inPlace := ["internal/abi.NoEscape", "internal/bytealg.MakeNoZero", "internal/bytealg.IndexByteString"], apart := false }
def DigestPermutesSaid : Prop := digestPermutesRow.holds Try.pinned (OpenSpec.ofChange digestPermutesSpec)

/-- ITS FALSE NEIGHBOUR: 'it returns false'. Refute it at one input. -/
def digestPermutesWrong : ChangeSpec := { name := "digestPermutes", fn := fun _ => fun
  | [d] => { results := [.lit (.bool false)], args := [d] }
  | _ => none }
def DigestPermutesWrongFalsely : Prop := digestPermutesRow.holds Try.pinned (OpenSpec.ofChange digestPermutesWrong)

/-- 'archivumlaw01.DigestSums': WHATEVER THE INPUT: true; the input reads as it did. -/
def digestSumsSpec : ChangeSpec := { name := "digestSums", fn := fun _ => fun
  | [d] => { results := [.lit (.bool true)], args := [d] }
  | _ => none }
def digestSumsRow : OpenClaim := { program := "ytfplnlmddcchjaa", sum := "ee8c64eee7a3fac465ef1734b7eb8ef198889e0dc5b7555c53192af2cb641c21", func := "archivum/archivumlaw01.DigestSums", spec := "digestSums", inPlace := ["internal/abi.NoEscape", "internal/bytealg.MakeNoZero", "internal/bytealg.IndexByteString"], apart := false }
def DigestSumsSaid : Prop := digestSumsRow.holds Try.pinned (OpenSpec.ofChange digestSumsSpec)

/-- ITS FALSE NEIGHBOUR: 'it returns false'. Refute it at one input. -/
def digestSumsWrong : ChangeSpec := { name := "digestSums", fn := fun _ => fun
  | [d] => { results := [.lit (.bool false)], args := [d] }
  | _ => none }
def DigestSumsWrongFalsely : Prop := digestSumsRow.holds Try.pinned (OpenSpec.ofChange digestSumsWrong)

/-- 'archivumlaw01.DigestTexts': WHATEVER THE INPUT: true; the input reads as it did. -/
def digestTextsSpec : ChangeSpec := { name := "digestTexts", fn := fun _ => fun
  | [d1, d2] => { results := [.lit (.bool true)], args := [d1, d2] }
  | _ => none }
def digestTextsRow : OpenClaim := { program := "ytfplnlmddcchjaa", sum := "ee8c64eee7a3fac465ef1734b7eb8ef198889e0dc5b7555c53192af2cb641c21", func := "archivum/archivumlaw01.DigestTexts", spec := "digestTexts", inPlace := ["internal/abi.NoEscape", "internal/bytealg.MakeNoZero", "internal/bytealg.IndexByteString"], apart := false }
def DigestTextsSaid : Prop := digestTextsRow.holds Try.pinned (OpenSpec.ofChange digestTextsSpec)

/-- ITS FALSE NEIGHBOUR: 'it returns false'. Refute it at one input. -/
def digestTextsWrong : ChangeSpec := { name := "digestTexts", fn := fun _ => fun
  | [d1, d2] => { results := [.lit (.bool false)], args := [d1, d2] }
  | _ => none }
def DigestTextsWrongFalsely : Prop := digestTextsRow.holds Try.pinned (OpenSpec.ofChange digestTextsWrong)

/-- 'archivumlaw01.DigestDiffers': WHATEVER THE INPUT: true; the input reads as it did. -/
def digestDiffersSpec : ChangeSpec := { name := "digestDiffers", fn := fun _ => fun
  | [d1, d2] => { results := [.lit (.bool true)], args := [d1, d2] }
  | _ => none }
def digestDiffersRow : OpenClaim := { program := "ytfplnlmddcchjaa", sum := "ee8c64eee7a3fac465ef1734b7eb8ef198889e0dc5b7555c53192af2cb641c21", func := "archivum/archivumlaw01.DigestDiffers", spec := "digestDiffers", inPlace := ["internal/abi.NoEscape", "internal/bytealg.MakeNoZero", "internal/bytealg.IndexByteString"], apart := false }
def DigestDiffersSaid : Prop := digestDiffersRow.holds Try.pinned (OpenSpec.ofChange digestDiffersSpec)

/-- ITS FALSE NEIGHBOUR: 'it returns false'. Refute it at one input. -/
def digestDiffersWrong : ChangeSpec := { name := "digestDiffers", fn := fun _ => fun
  | [d1, d2] => { results := [.lit (.bool false)], args := [d1, d2] }
  | _ => none }
def DigestDiffersWrongFalsely : Prop := digestDiffersRow.holds Try.pinned (OpenSpec.ofChange digestDiffersWrong)

/-- 'archivumlaw01.DigestStreams': WHATEVER THE INPUT: true; the input reads as it did. -/
def digestStreamsSpec : ChangeSpec := { name := "digestStreams", fn := fun _ => fun
  | [d] => { results := [.lit (.bool true)], args := [d] }
  | _ => none }
def digestStreamsRow : OpenClaim := { program := "ytfplnlmddcchjaa", sum := "ee8c64eee7a3fac465ef1734b7eb8ef198889e0dc5b7555c53192af2cb641c21", func := "archivum/archivumlaw01.DigestStreams", spec := "digestStreams", inPlace := ["internal/abi.NoEscape", "internal/bytealg.MakeNoZero", "internal/bytealg.IndexByteString"], apart := false }
def DigestStreamsSaid : Prop := digestStreamsRow.holds Try.pinned (OpenSpec.ofChange digestStreamsSpec)

/-- ITS FALSE NEIGHBOUR: 'it returns false'. Refute it at one input. -/
def digestStreamsWrong : ChangeSpec := { name := "digestStreams", fn := fun _ => fun
  | [d] => { results := [.lit (.bool false)], args := [d] }
  | _ => none }
def DigestStreamsWrongFalsely : Prop := digestStreamsRow.holds Try.pinned (OpenSpec.ofChange digestStreamsWrong)

/-- 'archivumlaw01.DigestBack': WHATEVER THE INPUT: true; the input reads as it did. -/
def digestBackSpec : ChangeSpec := { name := "digestBack", fn := fun _ => fun
  | [d] => { results := [.lit (.bool true)], args := [d] }
  | _ => none }
def digestBackRow : OpenClaim := { program := "ytfplnlmddcchjaa", sum := "ee8c64eee7a3fac465ef1734b7eb8ef198889e0dc5b7555c53192af2cb641c21", func := "archivum/archivumlaw01.DigestBack", spec := "digestBack", inPlace := ["internal/abi.NoEscape", "internal/bytealg.MakeNoZero", "internal/bytealg.IndexByteString"], apart := false }
def DigestBackSaid : Prop := digestBackRow.holds Try.pinned (OpenSpec.ofChange digestBackSpec)

/-- ITS FALSE NEIGHBOUR: 'it returns false'. Refute it at one input. -/
def digestBackWrong : ChangeSpec := { name := "digestBack", fn := fun _ => fun
  | [d] => { results := [.lit (.bool false)], args := [d] }
  | _ => none }
def DigestBackWrongFalsely : Prop := digestBackRow.holds Try.pinned (OpenSpec.ofChange digestBackWrong)

/-- 'archivumlaw01.DigestClones': WHATEVER THE INPUT: true; the input reads as it did. -/
def digestClonesSpec : ChangeSpec := { name := "digestClones", fn := fun _ => fun
  | [d1, d2, d3] => { results := [.lit (.bool true)], args := [d1, d2, d3] }
  | _ => none }
def digestClonesRow : OpenClaim := { program := "ytfplnlmddcchjaa", sum := "ee8c64eee7a3fac465ef1734b7eb8ef198889e0dc5b7555c53192af2cb641c21", func := "archivum/archivumlaw01.DigestClones", spec := "digestClones", inPlace := ["internal/abi.NoEscape", "internal/bytealg.MakeNoZero", "internal/bytealg.IndexByteString"], apart := false }
def DigestClonesSaid : Prop := digestClonesRow.holds Try.pinned (OpenSpec.ofChange digestClonesSpec)

/-- ITS FALSE NEIGHBOUR: 'it returns false'. Refute it at one input. -/
def digestClonesWrong : ChangeSpec := { name := "digestClones", fn := fun _ => fun
  | [d1, d2, d3] => { results := [.lit (.bool false)], args := [d1, d2, d3] }
  | _ => none }
def DigestClonesWrongFalsely : Prop := digestClonesRow.holds Try.pinned (OpenSpec.ofChange digestClonesWrong)

/- THE SECOND FORM. 'bulk': how many values and letters a reading holds, each counted each time it is reached (what is shared counts as often as it is met; a slice's spare places count too). A statement '..UptoSaid' is the law's where the arguments, and the package variables that the reading takes, are together of bulk at most 1048576: NARROWER than '..Said'. Prove '..Said' where nothing that the law and all that it calls make is longer than what came in: it says more and counts as full. Else prove '..UptoSaid'. A law counts once. -/
mutual
def uptoBulk {H : Type} : DataW H → Nat
  | .lit (.string bytes) => bytes.length + 1
  | .lit _ => 1
  | .nil => 1
  | .ptr d => uptoBulk d + 1
  | .slice elems spare => uptoBulkAll elems + uptoBulkAll spare + 1
  | .agg parts => uptoBulkAll parts + 1
  | .iface _ d => uptoBulk d + 1
  | .map entries => uptoBulkEntries entries + 1
  | .held _ => 1
def uptoBulkAll {H : Type} : List (DataW H) → Nat
  | [] => 0
  | d :: r => uptoBulk d + uptoBulkAll r
def uptoBulkEntries {H : Type} : List (Lit × DataW H) → Nat
  | [] => 0
  | x :: r => uptoBulkEntry x + uptoBulkEntries r
def uptoBulkEntry {H : Type} : Lit × DataW H → Nat
  | (.string bytes, d) => bytes.length + uptoBulk d + 1
  | (_, d) => uptoBulk d + 1
 end
def uptoSmall : (H : Type) → List (DataW H) → Bool := fun _ ds => decide (uptoBulkAll ds ≤ 1048576)
def OpenSpec.upto (s : _root_.Go.ChangeSpec) : _root_.Go.OpenSpec := { _root_.Go.OpenSpec.ofChange s with cond := some uptoSmall }

/-- 'archivumlaw01.DigestPermutes', WHERE WHAT IT READS IS OF BULK AT MOST 1048576: true; the input reads as it did. -/
def digestPermutesUptoRow : OpenClaim := { program := "ytfplnlmddcchjaa", sum := "ee8c64eee7a3fac465ef1734b7eb8ef198889e0dc5b7555c53192af2cb641c21", func := "archivum/archivumlaw01.DigestPermutes", spec := "digestPermutes", inPlace := ["internal/abi.NoEscape", "internal/bytealg.MakeNoZero", "internal/bytealg.IndexByteString"], apart := false, narrowed := true }
def DigestPermutesUptoSaid : Prop := digestPermutesUptoRow.holds Try.pinned (OpenSpec.upto digestPermutesSpec)

/-- 'archivumlaw01.DigestSums', WHERE WHAT IT READS IS OF BULK AT MOST 1048576: true; the input reads as it did. -/
def digestSumsUptoRow : OpenClaim := { program := "ytfplnlmddcchjaa", sum := "ee8c64eee7a3fac465ef1734b7eb8ef198889e0dc5b7555c53192af2cb641c21", func := "archivum/archivumlaw01.DigestSums", spec := "digestSums", inPlace := ["internal/abi.NoEscape", "internal/bytealg.MakeNoZero", "internal/bytealg.IndexByteString"], apart := false, narrowed := true }
def DigestSumsUptoSaid : Prop := digestSumsUptoRow.holds Try.pinned (OpenSpec.upto digestSumsSpec)

/-- 'archivumlaw01.DigestTexts', WHERE WHAT IT READS IS OF BULK AT MOST 1048576: true; the input reads as it did. -/
def digestTextsUptoRow : OpenClaim := { program := "ytfplnlmddcchjaa", sum := "ee8c64eee7a3fac465ef1734b7eb8ef198889e0dc5b7555c53192af2cb641c21", func := "archivum/archivumlaw01.DigestTexts", spec := "digestTexts", inPlace := ["internal/abi.NoEscape", "internal/bytealg.MakeNoZero", "internal/bytealg.IndexByteString"], apart := false, narrowed := true }
def DigestTextsUptoSaid : Prop := digestTextsUptoRow.holds Try.pinned (OpenSpec.upto digestTextsSpec)

/-- 'archivumlaw01.DigestDiffers', WHERE WHAT IT READS IS OF BULK AT MOST 1048576: true; the input reads as it did. -/
def digestDiffersUptoRow : OpenClaim := { program := "ytfplnlmddcchjaa", sum := "ee8c64eee7a3fac465ef1734b7eb8ef198889e0dc5b7555c53192af2cb641c21", func := "archivum/archivumlaw01.DigestDiffers", spec := "digestDiffers", inPlace := ["internal/abi.NoEscape", "internal/bytealg.MakeNoZero", "internal/bytealg.IndexByteString"], apart := false, narrowed := true }
def DigestDiffersUptoSaid : Prop := digestDiffersUptoRow.holds Try.pinned (OpenSpec.upto digestDiffersSpec)

/-- 'archivumlaw01.DigestStreams', WHERE WHAT IT READS IS OF BULK AT MOST 1048576: true; the input reads as it did. -/
def digestStreamsUptoRow : OpenClaim := { program := "ytfplnlmddcchjaa", sum := "ee8c64eee7a3fac465ef1734b7eb8ef198889e0dc5b7555c53192af2cb641c21", func := "archivum/archivumlaw01.DigestStreams", spec := "digestStreams", inPlace := ["internal/abi.NoEscape", "internal/bytealg.MakeNoZero", "internal/bytealg.IndexByteString"], apart := false, narrowed := true }
def DigestStreamsUptoSaid : Prop := digestStreamsUptoRow.holds Try.pinned (OpenSpec.upto digestStreamsSpec)

/-- 'archivumlaw01.DigestBack', WHERE WHAT IT READS IS OF BULK AT MOST 1048576: true; the input reads as it did. -/
def digestBackUptoRow : OpenClaim := { program := "ytfplnlmddcchjaa", sum := "ee8c64eee7a3fac465ef1734b7eb8ef198889e0dc5b7555c53192af2cb641c21", func := "archivum/archivumlaw01.DigestBack", spec := "digestBack", inPlace := ["internal/abi.NoEscape", "internal/bytealg.MakeNoZero", "internal/bytealg.IndexByteString"], apart := false, narrowed := true }
def DigestBackUptoSaid : Prop := digestBackUptoRow.holds Try.pinned (OpenSpec.upto digestBackSpec)

/-- 'archivumlaw01.DigestClones', WHERE WHAT IT READS IS OF BULK AT MOST 1048576: true; the input reads as it did. -/
def digestClonesUptoRow : OpenClaim := { program := "ytfplnlmddcchjaa", sum := "ee8c64eee7a3fac465ef1734b7eb8ef198889e0dc5b7555c53192af2cb641c21", func := "archivum/archivumlaw01.DigestClones", spec := "digestClones", inPlace := ["internal/abi.NoEscape", "internal/bytealg.MakeNoZero", "internal/bytealg.IndexByteString"], apart := false, narrowed := true }
def DigestClonesUptoSaid : Prop := digestClonesUptoRow.holds Try.pinned (OpenSpec.upto digestClonesSpec)

end Rows
end Go.Proofs.Ytfplnlmddcchjaa
