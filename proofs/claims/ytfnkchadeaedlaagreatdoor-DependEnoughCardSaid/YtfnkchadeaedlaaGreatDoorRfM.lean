/-
 The reference's Check, part by part: Has, letters, before, languages. The reference's labels of a catalog, and facts of a sheet. The reference's facts of a sheet. The reference's way among sheets: Index, Chain, in. The reference's choices: prefer, fact, choose, name, cite. The reference's check of sheets, and Check. The reference's pieces, numbers and tags. The reference's numbers of sections, and what it answers for catalogs that are right: Choose, Name, Cite, Number. What the reference answers: Number, Choose, Name, Cite. The reference's sections and Compile. The reference's Compile.
-/
import Derived.Test.YtfnkchadeaedlaaGreatDoorAdM
import Derived.Test.YtfnkchadeaedlaaGreatDoorCatM
set_option linter.all false
namespace Go.Proofs.YtfnkchadeaedlaaGreatDoor
open Go.Am
set_option maxRecDepth 10000
set_option maxHeartbeats 4000000
theorem IB (p:Nat→Bool): ∀n,xu p n≤n
 | 0=>Nat.le_refl _
 | n+1=>by
  have:=IB p n;rw [xu];split <;> omega
set_option maxHeartbeats 8000000
end Go.Proofs.YtfnkchadeaedlaaGreatDoor
