/-
  Slices of a row's arguments as lists.
-/
import Derived.Test.YtlolhkjjbgpfbaaGreatDoorAmShape
set_option linter.all false
namespace Go.Am
open Go.ChangeShapes Go.WideShapes Go.RowKit

/-- a list of which each member has a source is the image of a list -/
theorem map_of_all {α β : Type} (f : α → β) (p : α → Prop) : ∀ (l : List β), (∀ x ∈ l, ∃ a, p a ∧ x = f a) → ∃ m : List α, l = m.map f ∧ ∀ a ∈ m, p a
  | [], _ => ⟨[], rfl, fun _ h => by cases h⟩
  | x :: l, h => by
    obtain ⟨a, pa, rfl⟩ := h x List.mem_cons_self
    obtain ⟨m, rfl, hm⟩ := map_of_all f p l fun y hy => h y (List.mem_cons_of_mem _ hy)
    exact ⟨a :: m, rfl, fun b hb => by
      rcases List.mem_cons.1 hb with rfl | hb
      · exact pa
      · exact hm b hb⟩

/-- a slice that came in: nil, or its elements -/
theorem Shp.sliceMap {P : Program} {n : Nat} {t e : TypeId} {xs : List AV} {α : Type} (f : α → AV) (p : α → Prop) (h : Shp P n t xs) (hu : P.underlying t = some (.slice e)) (sz : Nat) (hs : P.cellsOf e = sz) (hz : sz ≠ 0)
    (hf : ∀ m cs, Shp P m e cs → ∃ a, p a ∧ elemOfCells (aggU (P.underlying e)) cs = f a) :
    ∃ (nl : Bool) (z : Nat) (l : List α), xs = [.lst (some nl) z (l.map f)] ∧ (∀ i, i < l.length → z = sz) ∧ (nl = true → z = 0 ∧ l = []) ∧ l.length ≤ maxLen ∧ ∀ a ∈ l, p a := by
  obtain ⟨nl, z, es, rfl, h1, h2, h3, h4⟩ := h.slice hu (by rw [hs]; exact hz)
  obtain ⟨l, rfl, hp⟩ := map_of_all f p es fun x hx => by
    obtain ⟨m, cs, rfl, hc⟩ := h4 x hx
    obtain ⟨a, pa, ha⟩ := hf m cs hc
    exact ⟨a, pa, ha⟩
  rw [List.length_map] at h3
  refine ⟨nl, z, l, rfl, fun i hi => ?_, fun hn => ?_, h3, hp⟩
  · cases nl with
    | true => obtain ⟨_, he⟩ := h1 rfl; rw [List.map_eq_nil_iff] at he; rw [he] at hi; exact absurd hi (Nat.not_lt_zero _)
    | false => rw [h2 rfl, hs]
  · obtain ⟨a, b⟩ := h1 hn
    exact ⟨a, List.map_eq_nil_iff.1 b⟩
end Go.Am
