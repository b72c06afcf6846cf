/-
  The law NamingFolds.
-/
import Derived.Test.YtlolhkjjbgpfbaaGreatDoorLgM
import Derived.Test.YtlolhkjjbgpfbaaGreatDoorAweM
set_option linter.all false
namespace Go.Proofs.YtlolhkjjbgpfbaaGreatDoor
open Go.Am
set_option maxRecDepth 10000
set_option maxHeartbeats 4000000
theorem foldS_len (s : Str) : (foldS s).length ≤ s.length + 1 := by
  have h1 := words_tot s
  have h3 := join_tot (wordsL s)
  unfold foldS
  omega
theorem foldS_all (s : Str) : ((foldS s).all fun b => decide (b.toNat < 128)) = true := by
  rw [List.all_eq_true]
  intro b hb
  obtain ⟨j, hj⟩ := List.mem_iff_getElem?.1 hb
  simpa using fold_ascii s j b hj
theorem wrap32 (c : UInt8) : IntKind.i32.wrap (c.toNat : Int) = (c.toNat : Int) := by
  have := c.toNat_lt
  simp only [IntKind.wrap, IntKind.signed, IntKind.bits]
  simp
  omega
theorem ansFoldsS (s : Str) (n : Nat) (hn : n < 256) : ansF cfg 10 [.str s, .int .u8 n] [] = some (.bool true, []) := by
  have hL := ansLong none [s] (by simp)
  refine ans_of_wp fn10 low10 ?_
  cases hl : longB [s] with
  | true =>
    rw [hl] at hL
    simp only [strA, List.map_cons, List.map_nil] at hL
    simp (config := { maxSteps := 1000000 }) (disch := omega) [-List.map_replicate, -List.map_set, -List.getD_eq_getElem?_getD, -getElem?_pos, -getElem?_neg, om, ir10, awake, hL]
  | false =>
    have hs := long_not hl s (by simp)
    rw [hl] at hL
    simp only [strA, List.map_cons, List.map_nil] at hL
    have hfl := foldS_len s
    have a1 := foldOk s (by omega)
    have a2 := foldOk (foldS s) (by omega)
    rw [foldS_fold] at a2
    have a3 := foldOk (46 :: (s ++ [32, 45])) (by simp; omega)
    rw [foldS_round] at a3
    have a4 : trimG [.str (foldS s), .str cutS] = some (.str []) := by
      have hc : (foldS s).length ≤ 9223372036854775807 ∧ cutS.length < 4294967281 ∧ (cutS.all fun b => decide (b.toNat < 128)) = true := ⟨by omega, by decide, by decide⟩
      simp only [trimG]
      rw [if_pos hc, trim_fold]
    simp only [cutS] at a4
    have a5 := ansContains (foldS s) [32, 32] (by omega)
    rw [fold_no2] at a5
    have hi : (n % (s.length + 1) : Nat) ≤ s.length := by have := Nat.mod_lt n (show 0 < s.length + 1 by omega); omega
    have hmod : (n : Int).tmod ((s.length : Int) + 1) = ((n % (s.length + 1) : Nat) : Int) := by
      rw [Int.tmod_eq_emod_of_nonneg (by omega), Int.natCast_emod]; rfl
    by_cases h1 : n % (s.length + 1) < s.length
    · have r := ansRune (s.getD (n % (s.length + 1)) 0)
      simp only [runeS] at r
      have hc := foldS_cut s (n % (s.length + 1)) h1
      have hwr := wrap32 (s.getD (n % (s.length + 1)) 0)
      have hg : s[n % (s.length + 1)]? = some (s.getD (n % (s.length + 1)) 0) := by rw [List.getD_eq_getElem?_getD, List.getElem?_eq_getElem h1]; rfl
      generalize hk : n % (s.length + 1) = k at *
      cases hp : partB (s.getD k 0) with
      | true =>
        rw [hp] at r
        generalize foldS s = f at *
        simp (config := { maxSteps := 1000000 }) (disch := omega) [-List.map_replicate, -List.map_set, -List.getD_eq_getElem?_getD, -getElem?_pos, -getElem?_neg, om, ir10, awake, hL, a1, a2, a3, a4, a5, hmod, h1, hg, hwr, r]
      | false =>
        rw [hp] at r
        have a6 := foldOk (s.take k ++ 33 :: s.drop k) (by simp [List.length_take, List.length_drop]; omega)
        rw [hc hp] at a6
        generalize foldS s = f at *
        simp (config := { maxSteps := 1000000 }) (disch := omega) [-List.map_replicate, -List.map_set, -List.getD_eq_getElem?_getD, -getElem?_pos, -getElem?_neg, om, ir10, awake, hL, a1, a2, a3, a4, a5, hmod, h1, hg, hwr, r, a6]
    · generalize hk : n % (s.length + 1) = k at *
      generalize foldS s = f at *
      simp (config := { maxSteps := 1000000 }) (disch := omega) [-List.map_replicate, -List.map_set, -List.getD_eq_getElem?_getD, -getElem?_pos, -getElem?_neg, om, ir10, awake, hL, a1, a2, a3, a4, a5, hmod, h1]
theorem args_folds {xs : List AV} (h : ShpArgs Tryz.prog [9, 5] xs) : ∃ (s : Str) (n : Nat), xs = [.str s, .int .u8 n] ∧ n < 256 := by
  obtain ⟨n, cs, r, rfl, h1, n2, cs2, r2, rfl, h2, h6⟩ := h
  subst h6
  obtain ⟨s, rfl, _⟩ := h1.str (by kernel_rfl)
  obtain ⟨a, rfl, ha⟩ := h2.int (k := .u8) (by kernel_rfl)
  simp [Lit.wf, IntKind.min, IntKind.max, IntKind.signed, IntKind.bits] at ha
  obtain ⟨a, rfl⟩ := Int.eq_ofNat_of_zero_le ha.1
  exact ⟨s, a, rfl, by omega⟩
theorem ansFolds {xs : List AV} (h : ShpArgs Tryz.prog [9, 5] xs) : ansF cfg 10 xs [] = some (.bool true, []) := by
  obtain ⟨s, n, rfl, hn⟩ := args_folds h
  exact ansFoldsS s n hn
end Go.Proofs.YtlolhkjjbgpfbaaGreatDoor
