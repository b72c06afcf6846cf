/-
  Compare and Found of the reference; the law NamingCompares.
-/
import Derived.Test.YtlolhkjjbgpfbaaGreatDoorLawM
set_option linter.all false
namespace Go.Proofs.YtlolhkjjbgpfbaaGreatDoor
open Go.Am
set_option maxRecDepth 10000
set_option maxHeartbeats 4000000
theorem cb_facts : ∀ a b : Str, Op.bytesLess a b = decide (Lib.compareBytes a b = -1) ∧ (Lib.compareBytes a b = 0 ↔ a = b) ∧ (Lib.compareBytes a b = -1 ∨ Lib.compareBytes a b = 0 ∨ Lib.compareBytes a b = 1)
  | [], [] => by simp [Op.bytesLess, Lib.compareBytes]
  | [], _ :: _ => by simp [Op.bytesLess, Lib.compareBytes]
  | _ :: _, [] => by simp [Op.bytesLess, Lib.compareBytes]
  | a :: x, b :: y => by
    obtain ⟨h1, h2, h3⟩ := cb_facts x y
    rw [Op.bytesLess]
    unfold Lib.compareBytes
    by_cases l1 : a < b
    · have hne : a ≠ b := fun h => by subst h; exact UInt8.lt_irrefl a l1
      simp [l1, hne]
    · by_cases l2 : b < a
      · have hne : a ≠ b := fun h => by subst h; exact UInt8.lt_irrefl a l2
        simp [l1, l2, hne]
      · have he : a = b := by
          have n1 : ¬ a.toNat < b.toNat := fun h => l1 (UInt8.lt_iff_toNat_lt.2 h)
          have n2 : ¬ b.toNat < a.toNat := fun h => l2 (UInt8.lt_iff_toNat_lt.2 h)
          exact UInt8.toNat_inj.1 (by omega)
        subst he
        have h2' : a :: x = a :: y ↔ x = y := by simp
        rw [if_neg l1, if_neg l1, h2', ← h2]
        refine ⟨?_, Iff.rfl, h3⟩
        simp [l1, h1]
theorem cb_eq (a b : Str) : (a == b) = decide (Lib.compareBytes a b = 0) := by
  rw [Bool.eq_iff_iff, beq_iff_eq, decide_eq_true_eq, (cb_facts a b).2.1]
theorem ansCompareR (a b : Str) (ha : a.length < 900000) (hb : b.length < 900000) : ansF cfg 20 [.str a, .str b] [] = some (.int .i64 (cmpS a b), []) := by
  have h1 := ansKeyR a ha
  have h2 := ansKeyR b hb
  unfold cmpS orI
  generalize keyS a = x at *
  generalize keyS b = y at *
  obtain ⟨p1, p2, p3⟩ := cb_facts x y
  obtain ⟨q1, q2, q3⟩ := cb_facts a b
  generalize Lib.compareBytes x y = c at *
  generalize Lib.compareBytes a b = d at *
  refine ans_of_wp fn20 low20 ?_
  rcases p3 with rfl | rfl | rfl
  · have e1 : ¬ x = y := fun h => absurd (p2.2 h) (by decide)
    simp (config := { maxSteps := 1000000 }) (disch := omega) [-List.map_replicate, -List.map_set, -List.getD_eq_getElem?_getD, -getElem?_pos, -getElem?_neg, om, ir20, h1, h2, p1, e1]
  · have e1 : x = y := p2.1 rfl
    rcases q3 with rfl | rfl | rfl
    · have e2 : ¬ a = b := fun h => absurd (q2.2 h) (by decide)
      simp (config := { maxSteps := 1000000 }) (disch := omega) [-List.map_replicate, -List.map_set, -List.getD_eq_getElem?_getD, -getElem?_pos, -getElem?_neg, om, ir20, h1, h2, p1, e1, q1, e2]
    · have e2 : a = b := q2.1 rfl
      subst e2
      simp (config := { maxSteps := 1000000 }) (disch := omega) [-List.map_replicate, -List.map_set, -List.getD_eq_getElem?_getD, -getElem?_pos, -getElem?_neg, om, ir20, h1, h2, p1, e1, q1]
    · have e2 : ¬ a = b := fun h => absurd (q2.2 h) (by decide)
      simp (config := { maxSteps := 1000000 }) (disch := omega) [-List.map_replicate, -List.map_set, -List.getD_eq_getElem?_getD, -getElem?_pos, -getElem?_neg, om, ir20, h1, h2, p1, e1, q1, e2]
  · have e1 : ¬ x = y := fun h => absurd (p2.2 h) (by decide)
    simp (config := { maxSteps := 1000000 }) (disch := omega) [-List.map_replicate, -List.map_set, -List.getD_eq_getElem?_getD, -getElem?_pos, -getElem?_neg, om, ir20, h1, h2, p1, e1]
theorem ansBegins (l : List Str) (hl : l.length < 1000000) (q : Str) : ansF cfg 60 [.lst none 1 (strA l), .str q] [] = some (.bool (hasB l q), []) := by
  have hA := strA_len l
  refine ans_of_wp fn60 low60 ?_
  simp (config := { maxSteps := 1000000 }) (disch := omega) [-List.map_replicate, -List.map_set, -List.getD_eq_getElem?_getD, -getElem?_pos, -getElem?_neg, om, ir60]
  refine Wp.loopM (fun (i : Nat) => l.length - i) (fun i => [some (.lst none 1 (strA l)), some (.str q), none, some (.int .i64 i), none, none]) (fun _ => []) (fun i => hasB l q = hasB (l.drop i) q) ?_ 0 rfl (by simp) rfl
  intro i hr
  rw [hr]
  by_cases h1 : i < l.length
  · have hg := get_strA l h1
    have hd := dropL l h1
    rw [hd] at hr ⊢
    unfold hasB at *
    simp only [List.any_cons, preB] at hr ⊢
    generalize l.getD i [] = w at *
    by_cases h2 : q.length ≤ w.length
    · cases h3 : w.take q.length == q with
      | true => simp (config := { maxSteps := 1000000 }) (disch := omega) [-List.map_replicate, -List.map_set, -List.getD_eq_getElem?_getD, -getElem?_pos, -getElem?_neg, om, h1, hg, hA, h2, h3]
      | false =>
        rw [h3] at hr
        simp (config := { maxSteps := 1000000 }) (disch := omega) [-List.map_replicate, -List.map_set, -List.getD_eq_getElem?_getD, -getElem?_pos, -getElem?_neg, om, h1, hg, hA, h2, h3]
        exact ⟨i + 1, by simpa using hr, by omega, by simp⟩
    · have h2' : decide (q.length ≤ w.length) = false := by simpa using h2
      rw [h2'] at hr ⊢
      simp (config := { maxSteps := 1000000 }) (disch := omega) [-List.map_replicate, -List.map_set, -List.getD_eq_getElem?_getD, -getElem?_pos, -getElem?_neg, om, h1, hg, hA, h2]
      exact ⟨i + 1, by simpa using hr, by omega, by simp⟩
  · rw [List.drop_eq_nil_of_le (by omega)]
    unfold hasB
    simp (config := { maxSteps := 1000000 }) (disch := omega) [-List.map_replicate, -List.map_set, -List.getD_eq_getElem?_getD, -getElem?_pos, -getElem?_neg, om, h1, hA]
theorem ansFoundRef (text query : Str) (ht : text.length < 900000) (hq : query.length < 900000) : ansF cfg 22 [.str text, .str query] [] = some (.bool (foundB text query), []) := by
  have h1 := ansWordsR text (by omega)
  have h2 := ansWordsR query (by omega)
  have t1 := words_tot text
  have t2 := words_tot query
  have n1 := tot_length (wordsL text)
  have n2 := tot_length (wordsL query)
  unfold foundB
  generalize wordsL text = l at *
  generalize wordsL query = q at *
  have hA := strA_len q
  refine ans_of_wp fn22 low22 ?_
  simp (config := { maxSteps := 1000000 }) (disch := omega) [-List.map_replicate, -List.map_set, -List.getD_eq_getElem?_getD, -getElem?_pos, -getElem?_neg, om, ir22, h1, h2]
  refine Wp.loopM (fun (i : Nat) => q.length - i) (fun i => [none, none, none, some (.lst none 1 (strA l)), some (.lst none 1 (strA q)), some (.int .i64 i), none, none, none, none, none]) (fun _ => []) (fun i => q.all (hasB l) = (q.drop i).all (hasB l)) ?_ 0 rfl (by simp) rfl
  intro i hr
  rw [hr]
  by_cases h3 : i < q.length
  · have hg := get_strA q h3
    have hb := ansBegins l (by omega) (q.getD i [])
    rw [dropL q h3] at hr ⊢
    simp only [List.all_cons] at hr ⊢
    generalize q.getD i [] = w at *
    cases h4 : hasB l w with
    | false =>
      rw [h4] at hb
      simp (config := { maxSteps := 1000000 }) (disch := omega) [-List.map_replicate, -List.map_set, -List.getD_eq_getElem?_getD, -getElem?_pos, -getElem?_neg, om, h3, hg, hA, hb]
    | true =>
      rw [h4] at hb hr
      simp (config := { maxSteps := 1000000 }) (disch := omega) [-List.map_replicate, -List.map_set, -List.getD_eq_getElem?_getD, -getElem?_pos, -getElem?_neg, om, h3, hg, hA, hb]
      exact ⟨i + 1, by simpa using hr, by omega, by simp⟩
  · rw [List.drop_eq_nil_of_le (by omega)]
    simp (config := { maxSteps := 1000000 }) (disch := omega) [-List.map_replicate, -List.map_set, -List.getD_eq_getElem?_getD, -getElem?_pos, -getElem?_neg, om, h3, hA]
theorem args_str2 {xs : List AV} (h : ShpArgs Tryz.prog [9, 9] xs) : ∃ s t : Str, xs = [.str s, .str t] := by
  obtain ⟨n, cs, r, rfl, h1, h2⟩ := h
  obtain ⟨t, rfl⟩ := args_str h2
  obtain ⟨s, rfl, _⟩ := h1.str (by kernel_rfl)
  exact ⟨s, t, rfl⟩
theorem ansComparesS (a b : Str) : ansF cfg 4 [.str a, .str b] [] = some (.bool true, []) := by
  have hL := ansLong none [a, b] (by simp)
  refine ans_of_wp fn4 low4 ?_
  cases hl : longB [a, b] with
  | true =>
    rw [hl] at hL
    simp only [strA, List.map_cons, List.map_nil] at hL
    simp (config := { maxSteps := 1000000 }) (disch := omega) [-List.map_replicate, -List.map_set, -List.getD_eq_getElem?_getD, -getElem?_pos, -getElem?_neg, om, ir4, awake, hL]
  | false =>
    have hs := long_not hl a (by simp)
    have ht := long_not hl b (by simp)
    rw [hl] at hL
    simp only [strA, List.map_cons, List.map_nil] at hL
    have a1 := ansCompare a b (by omega) (by omega)
    have a2 := ansCompareR a b (by omega) (by omega)
    have b1 := ansFound a b (by omega) (by omega)
    have b2 := ansFoundRef a b (by omega) (by omega)
    generalize cmpS a b = x at *
    generalize foundB a b = z at *
    simp (config := { maxSteps := 1000000 }) (disch := omega) [-List.map_replicate, -List.map_set, -List.getD_eq_getElem?_getD, -getElem?_pos, -getElem?_neg, om, ir4, awake, hL, a1, a2, b1, b2]
theorem ansCompares {xs : List AV} (h : ShpArgs Tryz.prog [9, 9] xs) : ansF cfg 4 xs [] = some (.bool true, []) := by
  obtain ⟨s, t, rfl⟩ := args_str2 h
  exact ansComparesS s t
end Go.Proofs.YtlolhkjjbgpfbaaGreatDoor
