/-
  The law NamingInverts.
-/
import Derived.Test.YtlolhkjjbgpfbaaGreatDoorCmpM
set_option linter.all false
namespace Go.Proofs.YtlolhkjjbgpfbaaGreatDoor
open Go.Am
set_option maxRecDepth 10000
set_option maxHeartbeats 4000000
theorem contains_one (s : Str) (c : UInt8) : Lib.contains s [c] = s.any (· == c) := by
  unfold Lib.contains
  rw [Lib.index_one, ← Lib.contains_iff_indexByte]
  induction s with
  | nil => rfl
  | cons a r ih => simp only [List.contains_cons, List.any_cons, ih]; rw [Bool.beq_comm]
theorem index_sep : ∀ (l f : Str), (∀ x ∈ l, x ≠ 44) → Lib.index (l ++ 44 :: 32 :: f) [44, 32] = (l.length : Int)
  | [], f, _ => by simp [Lib.index, List.isPrefixOf]
  | b :: l, f, h => by
    have hb : b ≠ 44 := h b (by simp)
    have ih := index_sep l f (fun x hx => h x (by simp [hx]))
    have hb' : (44 == b) = false := by simpa using fun h => hb h.symm
    simp only [List.cons_append, Lib.index, List.isPrefixOf, hb', Bool.false_and, Bool.false_eq_true, if_false, ih, List.length_cons]
    rw [if_neg (by simp)]
    omega
theorem lastAt_spec (s : Str) (c : UInt8) : ∀ i, (lastAt s c i = -1 ∧ ∀ j, j < i → s.getD j 0 ≠ c) ∨ ∃ n, n < i ∧ lastAt s c i = (n : Nat) ∧ s.getD n 0 = c ∧ ∀ j, n < j → j < i → s.getD j 0 ≠ c
  | 0 => .inl ⟨rfl, fun j h => absurd h (by omega)⟩
  | i + 1 => by
    have hl : lastAt s c (i + 1) = if s.getD i 0 == c then (i : Int) else lastAt s c i := rfl
    by_cases h : s.getD i 0 = c
    · right
      refine ⟨i, by omega, ?_, h, fun j h1 h2 => absurd h1 (by omega)⟩
      rw [hl, h]; simp
    · have hb : (s.getD i 0 == c) = false := by simpa using h
      rw [hb] at hl
      simp only [Bool.false_eq_true, if_false] at hl
      rw [hl]
      rcases lastAt_spec s c i with ⟨h1, h2⟩ | ⟨n, h1, h2, h3, h4⟩
      · left
        refine ⟨h1, fun j hj => ?_⟩
        by_cases hji : j = i
        · rw [hji]; exact h
        · exact h2 j (by omega)
      · right
        refine ⟨n, by omega, h2, h3, fun j h5 h6 => ?_⟩
        by_cases hji : j = i
        · rw [hji]; exact h
        · exact h4 j h5 (by omega)
theorem invS_cases (s : Str) : (invS s = s ∧ (s.any (· == 32) = false ∨ s.any (· == 44) = true)) ∨
    ∃ f l : Str, s = f ++ 32 :: l ∧ l.any (· == 32) = false ∧ s.any (· == 44) = false ∧ invS s = l ++ 44 :: 32 :: f := by
  unfold invS
  rw [contains_one]
  rcases lastAt_spec s 32 s.length with ⟨h1, h2⟩ | ⟨n, h1, h2, h3, h4⟩
  · left
    refine ⟨by rw [if_pos (.inl (by omega))], .inl ?_⟩
    rw [List.any_eq_false]
    intro x hx
    obtain ⟨j, hj, rfl⟩ := List.getElem_of_mem hx
    have := h2 j hj
    rw [List.getD_eq_getElem?_getD, List.getElem?_eq_getElem hj] at this
    simpa using this
  · cases hc : s.any (· == 44) with
    | true => left; exact ⟨by rw [if_pos (.inr rfl)], .inr rfl⟩
    | false =>
      right
      rw [h2, if_neg (fun h => h.elim (fun h => absurd h (by omega)) (fun h => absurd h (by decide)))]
      have hd := drop_get s h1
      rw [h3] at hd
      refine ⟨s.take n, s.drop (n + 1), ?_, ?_, rfl, ?_⟩
      · rw [← hd, List.take_append_drop]
      · rw [List.any_eq_false]
        intro x hx
        obtain ⟨j, hj, rfl⟩ := List.getElem_of_mem hx
        rw [List.length_drop] at hj
        have := h4 (n + 1 + j) (by omega) (by omega)
        rw [List.getD_eq_getElem?_getD, List.getElem?_eq_getElem (by omega)] at this
        rw [List.getElem_drop]
        simpa using this
      · rw [show ((n : Int)).toNat + 1 = n + 1 by omega, show ((n : Int)).toNat = n by omega]
        simp
theorem wordsGo_app : ∀ (a : Str) (c : UInt8) (b w : Str), partB c = false → wordsGo (a ++ c :: b) w = wordsGo a w ++ wordsL b
  | [], c, b, w, hc => by
    simp only [List.nil_append, wordsGo, hc, Bool.false_eq_true, if_false]
    unfold wordsL
    by_cases hw : w = []
    · rw [if_pos hw, if_pos hw]; rfl
    · rw [if_neg hw, if_neg hw]; rfl
  | x :: a, c, b, w, hc => by
    simp only [List.cons_append, wordsGo]
    split
    · exact wordsGo_app a c b _ hc
    · split
      · exact wordsGo_app a c b _ hc
      · rw [wordsGo_app a c b _ hc]; rfl
theorem wordsL_app (a : Str) (c : UInt8) (b : Str) (hc : partB c = false) : wordsL (a ++ c :: b) = wordsL a ++ wordsL b := wordsGo_app a c b [] hc
theorem preB_self (w : Str) : preB w w = true := by simp [preB]
theorem found_of_sub (a b : Str) (h : ∀ w ∈ wordsL b, w ∈ wordsL a) : foundB a b = true := by
  unfold foundB
  rw [List.all_eq_true]
  intro w hw
  unfold hasB
  rw [List.any_eq_true]
  exact ⟨w, h w hw, preB_self w⟩
theorem wordsL_sep (l f : Str) : wordsL (l ++ 44 :: 32 :: f) = wordsL l ++ wordsL f := by
  rw [wordsL_app l 44 _ (by decide), show (32 :: f : Str) = [] ++ 32 :: f from rfl, wordsL_app [] 32 f (by decide)]
  rfl
theorem invS_found (f l : Str) : foundB (l ++ 44 :: 32 :: f) (f ++ 32 :: l) = true ∧ foundB (f ++ 32 :: l) (l ++ 44 :: 32 :: f) = true := by
  constructor
  all_goals
    apply found_of_sub
    rw [wordsL_sep, wordsL_app f 32 l (by decide)]
    intro w hw
    simp only [List.mem_append] at hw ⊢
    exact hw.symm
theorem invS_twice (s : Str) : invS (invS s) = invS s := by
  rcases invS_cases s with ⟨h, _⟩ | ⟨f, l, _, _, _, h⟩
  · rw [h, h]
  · rw [h]
    have : Lib.contains (l ++ 44 :: 32 :: f) [44] = true := by rw [contains_one]; simp
    unfold invS
    rw [if_pos (.inr this)]
theorem ansCut (s t : Str) (hs : s.length < 1000000) (ht : t.length < 1000000) (k : Nat) (hk : Lib.index s t = (k : Int)) (hb : k + t.length ≤ s.length) : ansF cfg 34 [.str s, .str t] [] = some (.tup [.str (s.take k), .str (s.drop (k + t.length)), .bool true], []) := by
  have h : ansF cfg 76 [.str s, .str t] [] = some (.tup [.str (s.take k), .str (s.drop (k + t.length)), .bool true], []) := by
    have hi : s.length < 4294967281 := by omega
    refine ans_of_wp fn76 low76 ?_
    have e1 : ((k : Int) + (t.length : Int)).toNat = k + t.length := by omega
    have e2 : s.take s.length = s := List.take_length
    simp (config := { maxSteps := 1000000 }) (disch := omega) [-List.map_replicate, -List.map_set, -List.getD_eq_getElem?_getD, -getElem?_pos, -getElem?_neg, om, ir76, findG, hi, hk, e1, e2]
  refine ans_of_wp fn34 low34 ?_
  simp (config := { maxSteps := 1000000 }) (disch := omega) [-List.map_replicate, -List.map_set, -List.getD_eq_getElem?_getD, -getElem?_pos, -getElem?_neg, om, ir34, h]
theorem ansInvertsS (s : Str) : ansF cfg 6 [.str s] [] = some (.bool true, []) := by
  have hL := ansLong none [s] (by simp)
  refine ans_of_wp fn6 low6 ?_
  cases hl : longB [s] with
  | true =>
    rw [hl] at hL
    simp only [strA, List.map_cons, List.map_nil] at hL
    simp (config := { maxSteps := 1000000 }) (disch := omega) [-List.map_replicate, -List.map_set, -List.getD_eq_getElem?_getD, -getElem?_pos, -getElem?_neg, om, ir6, awake, hL]
  | false =>
    have hs := long_not hl s (by simp)
    rw [hl] at hL
    simp only [strA, List.map_cons, List.map_nil] at hL
    have a1 := ansInverted s (by omega)
    have c1 := ansContains s [32] (by omega)
    have c2 := ansContains s [44] (by omega)
    rw [contains_one] at c1 c2
    rcases invS_cases s with ⟨h, h' | h'⟩ | ⟨f, l, h1, h2, h3, h4⟩
    · rw [h] at a1
      rw [h'] at c1
      simp (config := { maxSteps := 1000000 }) (disch := omega) [-List.map_replicate, -List.map_set, -List.getD_eq_getElem?_getD, -getElem?_pos, -getElem?_neg, om, ir6, awake, hL, a1, c1]
    · rw [h] at a1
      rw [h'] at c2
      cases h5 : s.any (· == 32) with
      | true =>
        rw [h5] at c1
        simp (config := { maxSteps := 1000000 }) (disch := omega) [-List.map_replicate, -List.map_set, -List.getD_eq_getElem?_getD, -getElem?_pos, -getElem?_neg, om, ir6, awake, hL, a1, c1, c2]
      | false =>
        rw [h5] at c1
        simp (config := { maxSteps := 1000000 }) (disch := omega) [-List.map_replicate, -List.map_set, -List.getD_eq_getElem?_getD, -getElem?_pos, -getElem?_neg, om, ir6, awake, hL, a1, c1, c2]
    · have hn : f.length + 1 + l.length ≤ 300 := by rw [h1] at hs; simp at hs; omega
      have htw := invS_twice s
      have h5 : s.any (· == 32) = true := by rw [h1]; simp
      have h6 : ∀ x ∈ l, x ≠ 44 := fun x hx e => by
        rw [List.any_eq_false] at h3
        exact h3 x (by rw [h1]; simp [hx]) (by simp [e])
      have f1 := (invS_found f l).1
      have f2 := (invS_found f l).2
      rw [h4] at a1 htw
      rw [h5] at c1
      rw [h3] at c2
      have hc := ansCut (l ++ 44 :: 32 :: f) [44, 32] (by simp; omega) (by simp) l.length (index_sep l f h6) (by simp)
      rw [List.take_left' rfl, show l.length + ([44, 32] : Str).length = l.length + 2 from rfl, show (l ++ 44 :: 32 :: f).drop (l.length + 2) = f by rw [← List.drop_drop, List.drop_left' rfl]; rfl] at hc
      have a2 := ansInverted (l ++ 44 :: 32 :: f) (by simp; omega)
      rw [htw] at a2
      have c3 := ansContains l [32] (by omega)
      rw [contains_one, h2] at c3
      have g1 := ansFound (l ++ 44 :: 32 :: f) s (by simp; omega) (by omega)
      have g2 := ansFound s (l ++ 44 :: 32 :: f) (by omega) (by simp; omega)
      rw [h1] at g1 g2
      rw [f1, ← h1] at g1
      rw [f2, ← h1] at g2
      generalize l ++ 44 :: 32 :: f = t at *
      have h1' := h1.symm
      simp (config := { maxSteps := 1000000 }) (disch := omega) [-List.map_replicate, -List.map_set, -List.getD_eq_getElem?_getD, -getElem?_pos, -getElem?_neg, om, ir6, awake, hL, a1, a2, c1, c2, hc, c3, g1, g2, h1']
theorem ansInverts {xs : List AV} (h : ShpArgs Tryz.prog [9] xs) : ansF cfg 6 xs [] = some (.bool true, []) := by
  obtain ⟨s, rfl⟩ := args_str h
  exact ansInvertsS s
end Go.Proofs.YtlolhkjjbgpfbaaGreatDoor
