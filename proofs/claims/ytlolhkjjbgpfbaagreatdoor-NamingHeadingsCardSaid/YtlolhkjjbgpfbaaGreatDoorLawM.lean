/-
  The law NamingForms.
-/
import Derived.Test.YtlolhkjjbgpfbaaGreatDoorRefM
set_option linter.all false
namespace Go.Proofs.YtlolhkjjbgpfbaaGreatDoor
open Go.Am
set_option maxRecDepth 10000
set_option maxHeartbeats 4000000
theorem args_str {xs : List AV} (h : ShpArgs Tryz.prog [9] xs) : ∃ s : Str, xs = [.str s] := by
  obtain ⟨n, cs, r, rfl, h1, rfl⟩ := h
  obtain ⟨s, rfl, _⟩ := h1.str (by kernel_rfl)
  exact ⟨s, rfl⟩
theorem ansFormsS (s : Str) : ansF cfg 3 [.str s] [] = some (.bool true, []) := by
  have hL := ansLong none [s] (by simp)
  refine ans_of_wp fn3 low3 ?_
  cases hl : longB [s] with
  | true =>
    rw [hl] at hL
    simp only [strA, List.map_cons, List.map_nil] at hL
    simp (config := { maxSteps := 1000000 }) (disch := omega) [-List.map_replicate, -List.map_set, -List.getD_eq_getElem?_getD, -getElem?_pos, -getElem?_neg, om, ir3, awake, hL]
  | false =>
    have hs := long_not hl s (by simp)
    rw [hl] at hL
    simp only [strA, List.map_cons, List.map_nil] at hL
    have a1 := foldOk s (by omega)
    have a2 := ansFoldR s (by omega)
    have b1 := keyRun s (by omega)
    have b2 := ansKeyR s (by omega)
    have c1 := ansInverted s (by omega)
    have c2 := ansInvR s (by omega)
    generalize foldS s = x at *
    generalize keyS s = y at *
    generalize invS s = z at *
    simp (config := { maxSteps := 1000000 }) (disch := omega) [-List.map_replicate, -List.map_set, -List.getD_eq_getElem?_getD, -getElem?_pos, -getElem?_neg, om, ir3, awake, hL, a1, a2, b1, b2, c1, c2]
theorem ansForms {xs : List AV} (h : ShpArgs Tryz.prog [9] xs) : ansF cfg 3 xs [] = some (.bool true, []) := by
  obtain ⟨s, rfl⟩ := args_str h
  exact ansFormsS s
end Go.Proofs.YtlolhkjjbgpfbaaGreatDoor
