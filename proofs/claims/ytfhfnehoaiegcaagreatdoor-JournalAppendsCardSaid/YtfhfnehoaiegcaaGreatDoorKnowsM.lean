/-
  What a row's condition says about Go's own variables, as the abstract machine's blocks that are known.
-/
import Derived.Test.YtfhfnehoaiegcaaGreatDoorSeat
import Derived.Test.YtfhfnehoaiegcaaGreatDoorRows
import Derived.LaidLaws
import Derived.Stop.LaidErr
import Derived.MakeChecks
import Derived.Lib.LaidTab
set_option linter.all false
namespace Go.Proofs.YtfhfnehoaiegcaaGreatDoor
open Go.Am Go.RowKit

theorem var_block {P : Program} {w : World} {n : String} {g : Nat} {cs : Array Value} (hg : P.globalNamed n = some g) (h : w.var? P n = some cs) : ∃ t z, w.heap[g]? = some (.cells cs t z) := by
  unfold World.var? at h
  rw [hg] at h
  simp only [Option.bind_some] at h
  split at h
  · rename_i c t z hc
    cases h
    exact ⟨t, z, hc⟩
  · cases h

theorem starErr : "*" ++ "errors.errorString" = "*errors.errorString" := by decide
theorem ptrErr (u : TypeId) (h : Tryz.prog.typeName? 3 u = some "*errors.errorString") : u = 172 :=
  typeName_ptr_named (nm := "errors.errorString") (by rw [starErr]; kernel_rfl) (by kernel_rfl) (by decide) u (by rw [starErr]; exact h)
theorem gSyn : Tryz.prog.globalNamed "strconv.ErrSyntax" = some 0 := by kernel_rfl
theorem gRng : Tryz.prog.globalNamed "strconv.ErrRange" = some 1 := by kernel_rfl
theorem gPow : Tryz.prog.globalNamed "internal/strconv.uint64pow10" = some 2 := by kernel_rfl

theorem knows {w : World} (h : laidMetH Tryz.prog [("math/bits.deBruijn32tab", Rows.laid_math_bits_deBruijn32tab), ("math/bits.deBruijn64tab", Rows.laid_math_bits_deBruijn64tab), ("internal/strconv.uint64pow10", Rows.laid_internal_strconv_uint64pow10), ("unicode/utf8.acceptRanges", Rows.laid_unicode_utf8_acceptRanges), ("strconv.ErrRange", Rows.laid_strconv_ErrRange), ("strconv.ErrSyntax", Rows.laid_strconv_ErrSyntax), ("unicode/utf8.first", Rows.laid_unicode_utf8_first)] w) :
    ∃ K : Kn, @Known K ∧ ∀ p ∈ K.ks, w.heap[p.1]? = some p.2 := by
  rw [MakeChecks.laidMetH_plain _ _ _ (by kernel_rfl)] at h
  have h2 := h.tail.tail
  have h4 := h2.tail.tail
  have h5 := h4.tail
  have hp : Lib.TabIs Tryz.prog w "internal/strconv.uint64pow10" .u64 Lib.pow10Tab := Lib.tabIs_of_head (t := 169) (e := 115) (n := 20) gPow (by kernel_rfl) (by kernel_rfl) (by kernel_rfl) (by kernel_rfl) (by kernel_rfl) h2
  obtain ⟨a1, s1, v1, _⟩ := laid_sentinel (tp := 172) (te := 174) (ts := 9) h4 gRng (ti := 71) (by kernel_rfl) Tryz.underlying71 ptrErr Tryz.underlying172 Tryz.underlying174 rfl rfl Tryz.underlying9 (by kernel_rfl) (by kernel_rfl)
  obtain ⟨a2, s2, v2, _⟩ := laid_sentinel (tp := 172) (te := 174) (ts := 9) h5 gSyn (ti := 71) (by kernel_rfl) Tryz.underlying71 ptrErr Tryz.underlying172 Tryz.underlying174 rfl rfl Tryz.underlying9 (by kernel_rfl) (by kernel_rfl)
  obtain ⟨t0, z0, b0⟩ := var_block gPow hp
  obtain ⟨t1, z1, b1⟩ := var_block gRng v1
  obtain ⟨t2, z2, b2⟩ := var_block gSyn v2
  let K : Kn := ⟨[(2, Obj.cells (Lib.pow10Tab.map fun z => Value.int .u64 z).toArray t0 z0), (1, Obj.cells #[.iface 172 (.pointer (some a1))] t1 z1), (0, Obj.cells #[.iface 172 (.pointer (some a2))] t2 z2)], fun p hp => by
    simp only [List.mem_cons, List.not_mem_nil, or_false] at hp
    rcases hp with rfl | rfl | rfl
    · exact ⟨_, _, _, rfl⟩
    · exact ⟨_, _, _, rfl⟩
    · exact ⟨_, _, _, rfl⟩⟩
  refine ⟨K, @Known.mk K ⟨_, _, .head _⟩ ⟨_, _, _, _, .tail _ (.tail _ (.head _))⟩ ⟨_, _, _, _, .tail _ (.head _)⟩, ?_⟩
  intro p hp
  have hp : p ∈ [(2, Obj.cells (Lib.pow10Tab.map fun z => Value.int .u64 z).toArray t0 z0), (1, Obj.cells #[.iface 172 (.pointer (some a1))] t1 z1), (0, Obj.cells #[.iface 172 (.pointer (some a2))] t2 z2)] := hp
  simp only [List.mem_cons, List.not_mem_nil, or_false] at hp
  rcases hp with rfl | rfl | rfl
  · exact b0
  · exact b1
  · exact b2
end Go.Proofs.YtfhfnehoaiegcaaGreatDoor
