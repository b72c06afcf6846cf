/-
  The last law of markup, for the abstract machine: what is below a node is in one piece.
-/
import Derived.Test.YtibakcohkdfnoaaDoorLawsM
set_option linter.unusedSimpArgs false
set_option linter.unusedVariables false
namespace Go.Proofs.YtibakcohkdfnoaaDoor
open Go.Am Go.RowKit
set_option maxRecDepth 10000
set_option maxHeartbeats 4000000

theorem cnt_in (d : Int) : ∀ (l : List Nd) (j : Nat), j < cnt d l → dp l j > d
  | [], j, h => by simp [cnt] at h
  | n :: l, j, h => by
    simp only [cnt] at h
    split at h
    · cases j with
      | zero => assumption
      | succ j => exact cnt_in d l j (by omega)
    · omega
theorem cnt_out (d : Int) : ∀ (l : List Nd), cnt d l < l.length → ¬ dp l (cnt d l) > d
  | [], h => by simp at h
  | n :: l, h => by
    simp only [cnt] at h ⊢
    split
    · rename_i h1
      rw [if_pos h1] at h
      exact cnt_out d l (by simpa using h)
    · rename_i h1; exact h1

/-- what is below a node: all up to there is deeper -/
theorem below_iff {l : List Nd} {i k : Nat} (hk : k < l.length) : (i < k ∧ k ≤ i + cnt (dp l i) (l.drop (i + 1))) ↔ (i < k ∧ ∀ j, i < j → j ≤ k → dp l j > dp l i) := by
  constructor
  · rintro ⟨h1, h2⟩
    refine ⟨h1, fun j j1 j2 => ?_⟩
    have := cnt_in (dp l i) (l.drop (i + 1)) (j - (i + 1)) (by omega)
    rw [dp_drop] at this
    have e : i + 1 + (j - (i + 1)) = j := by omega
    rwa [e] at this
  · rintro ⟨h1, h2⟩
    refine ⟨h1, ?_⟩
    rcases Nat.lt_or_ge (i + cnt (dp l i) (l.drop (i + 1))) k with h3 | h3
    · have h4 := h2 (i + 1 + cnt (dp l i) (l.drop (i + 1))) (by omega) (by omega)
      have h5 := cnt_out (dp l i) (l.drop (i + 1)) (by rw [List.length_drop]; omega)
      rw [dp_drop] at h5
      exact absurd h4 h5
    · exact h3

theorem path_last (l : List Nd) (i : Nat) : (pathL l i)[(pathL l i).length - 1]? = some (i : Int) := by
  by_cases h : 0 ≤ pr l i
  · rw [pathL_step h]; simp
  · rw [pathL_root h]; simp
theorem path_ne (l : List Nd) (i : Nat) : 1 ≤ (pathL l i).length := by
  by_cases h : 0 ≤ pr l i
  · rw [pathL_step h]; simp
  · rw [pathL_root h]; simp
theorem path_get {l : List Nd} : ∀ (i : Nat), i < l.length → ∀ m, m < (pathL l i).length → ∃ a : Nat, (pathL l i)[m]? = some (a : Int) ∧ a < l.length ∧ (0 < m → (pathL l i)[m - 1]? = some (pr l a)) := by
  intro i
  induction i using Nat.strongRecOn with
  | _ i ih =>
    intro hi m hm
    by_cases h : 0 ≤ pr l i
    · have hlt := pr_lt l i
      rw [pathL_step h] at hm ⊢
      by_cases h2 : m < (pathL l (pr l i).toNat).length
      · obtain ⟨a, a1, a2, a3⟩ := ih (pr l i).toNat (by omega) (by omega) m h2
        refine ⟨a, by rw [List.getElem?_append_left h2]; exact a1, a2, fun h3 => ?_⟩
        rw [List.getElem?_append_left (by omega)]
        exact a3 h3
      · have h3 : m = (pathL l (pr l i).toNat).length := by simp at hm; omega
        subst h3
        refine ⟨i, by simp, hi, fun h4 => ?_⟩
        rw [List.getElem?_append_left (by omega), path_last]
        congr 1
        omega
    · rw [pathL_root h] at hm ⊢
      have : m = 0 := by simpa using hm
      subst this
      exact ⟨i, by simp, hi, fun h => absurd h (by omega)⟩

theorem Val.deep {l : List Nd} (v : Val l) {k : Nat} (hk : k < l.length) (h : dp l k ≠ 0) : ∀ j : Nat, pr l k < j → j ≤ k → dp l j ≥ dp l k := by
  intro j h1 h2
  rcases Int.lt_or_le (dp l j) (dp l k) with h3 | h3
  · obtain ⟨j', k1, k2, k3⟩ := v.between (t := dp l k - 1) (a := j) (by omega) k h2 hk (by omega)
    have h4 := up_max l (dp l k - 1) k j' k2 k3
    have h5 : pr l k = up l (dp l k - 1) k := by simp [pr, h]
    omega
  · exact h3

theorem path_iff {l : List Nd} (v : Val l) {i : Nat} (hi : i < l.length) : ∀ k, k < l.length →
    (((pathL l k).length > (pathL l i).length ∧ (pathL l k).take (pathL l i).length = pathL l i) ↔ (i < k ∧ ∀ j, i < j → j ≤ k → dp l j > dp l i)) := by
  intro k
  induction k using Nat.strongRecOn with
  | _ k ih =>
    intro hk
    have li := pathL_length v i hi
    have lk := pathL_length v k hk
    have di := v.ge i hi
    by_cases h : dp l k = 0
    · constructor
      · rintro ⟨h1, _⟩; omega
      · rintro ⟨h1, h2⟩
        have := h2 k h1 (Nat.le_refl k)
        omega
    · obtain ⟨p0, p1⟩ := v.pr_nonneg hk h
      have plt := pr_lt l k
      obtain ⟨p, hp⟩ := Int.eq_ofNat_of_zero_le p0
      have hpp : (pr l k).toNat = p := by omega
      rw [hpp] at p1
      have lp := pathL_length v p (by omega)
      have hst := pathL_step p0
      rw [hpp] at hst
      have hdeep : ∀ j, p < j → j ≤ k → dp l j ≥ dp l k := fun j h1 h2 => v.deep hk h j (by omega) h2
      have hih := ih p (by omega) (by omega)
      rw [hst, List.length_append, List.length_singleton]
      constructor
      · rintro ⟨h1, h2⟩
        rw [List.take_append_of_le_length (by omega)] at h2
        by_cases h3 : (pathL l i).length = (pathL l p).length
        · rw [h3, List.take_length] at h2
          have e1 := path_last l p
          have e2 := path_last l i
          rw [h2, e2] at e1
          have e4 : (i : Int) = p := by simpa using e1
          have e3 : i = p := by omega
          subst e3
          refine ⟨by omega, fun j j1 j2 => ?_⟩
          have := hdeep j j1 j2
          omega
        · obtain ⟨q1, q2⟩ := hih.1 ⟨by omega, h2⟩
          refine ⟨by omega, fun j j1 j2 => ?_⟩
          rcases Nat.lt_or_ge p j with h4 | h4
          · have := hdeep j h4 j2; omega
          · exact q2 j j1 h4
      · rintro ⟨h1, h2⟩
        have hk2 := h2 k h1 (Nat.le_refl k)
        refine ⟨by omega, ?_⟩
        rw [List.take_append_of_le_length (by omega)]
        rcases Nat.lt_trichotomy p i with h3 | h3 | h3
        · have := hdeep i h3 (by omega); omega
        · subst h3; rw [List.take_length]
        · exact (hih.2 ⟨h3, fun j j1 j2 => h2 j j1 (by omega)⟩).2

theorem ansPieces {xs : List AV} (h : ShpArgs Tryd.prog [23, 3] xs) : ansF cfg 7 xs [] = some (.bool true, []) := by
  obtain ⟨nl, z, l, r, rfl, hz, hnl, hlen, hin, hr⟩ := args_doc h
  obtain ⟨i, rfl, hi⟩ := args_int hr
  refine ans_of_wp fn7 low7 ?_
  have hlen' : l.length < 9223372036854775808 := by have : maxLen = 9223372036854775807 := rfl; omega
  have h1 := ansFew (some nl) z l hz hlen'
  by_cases h20 : l.length > 20
  · simp (config := { maxSteps := 1000000 }) (disch := omega) [-List.map_replicate, -List.map_set, -List.getD_eq_getElem?_getD, -getElem?_pos, -getElem?_neg, wrap_i64, le_strLim, le_sliceLim, le_buildLim, le_sliceLimI, Int.tmod_eq_emod_of_nonneg, Int.tdiv_eq_ediv_of_nonneg, omLe, omLeN, omLt, omLtN, omEq, omEqN, onLe, onLeN, onLt, onLtN, onEq, onEqN, ir7, ansAwake, h20]
  cases hf : fewOf l with
  | false =>
    rw [hf] at h1
    simp (config := { maxSteps := 1000000 }) (disch := omega) [-List.map_replicate, -List.map_set, -List.getD_eq_getElem?_getD, -getElem?_pos, -getElem?_neg, wrap_i64, le_strLim, le_sliceLim, le_buildLim, le_sliceLimI, Int.tmod_eq_emod_of_nonneg, Int.tdiv_eq_ediv_of_nonneg, omLe, omLeN, omLt, omLtN, omEq, omEqN, onLe, onLeN, onLt, onLtN, onEq, onEqN, ir7, ansAwake, h20, h1]
  | true =>
    rw [hf] at h1
    obtain ⟨hl, hok⟩ := few_ok hf hin
    have h2 := ansCheckP (some nl) z l hz hok (by omega)
    by_cases k : (faultOf l).2 = 0
    case neg => simp (config := { maxSteps := 1000000 }) (disch := omega) [-List.map_replicate, -List.map_set, -List.getD_eq_getElem?_getD, -getElem?_pos, -getElem?_neg, wrap_i64, le_strLim, le_sliceLim, le_buildLim, le_sliceLimI, Int.tmod_eq_emod_of_nonneg, Int.tdiv_eq_ediv_of_nonneg, omLe, omLeN, omLt, omLtN, omEq, omEqN, onLe, onLeN, onLt, onLtN, onEq, onEqN, ir7, ansAwake, h20, h1, h2, k]
    rw [k] at h2
    by_cases k1 : i < 0
    · simp (config := { maxSteps := 1000000 }) (disch := omega) [-List.map_replicate, -List.map_set, -List.getD_eq_getElem?_getD, -getElem?_pos, -getElem?_neg, wrap_i64, le_strLim, le_sliceLim, le_buildLim, le_sliceLimI, Int.tmod_eq_emod_of_nonneg, Int.tdiv_eq_ediv_of_nonneg, omLe, omLeN, omLt, omLtN, omEq, omEqN, onLe, onLeN, onLt, onLtN, onEq, onEqN, ir7, ansAwake, h20, h1, h2, k1]
    by_cases k2 : (l.length : Int) ≤ i
    · simp (config := { maxSteps := 1000000 }) (disch := omega) [-List.map_replicate, -List.map_set, -List.getD_eq_getElem?_getD, -getElem?_pos, -getElem?_neg, wrap_i64, le_strLim, le_sliceLim, le_buildLim, le_sliceLimI, Int.tmod_eq_emod_of_nonneg, Int.tdiv_eq_ediv_of_nonneg, omLe, omLeN, omLt, omLtN, omEq, omEqN, onLe, onLeN, onLt, onLtN, onEq, onEqN, ir7, ansAwake, h20, h1, h2, k1, k2]
    obtain ⟨i, rfl⟩ := Int.eq_ofNat_of_zero_le (show 0 ≤ i by omega)
    have hil : i < l.length := by omega
    obtain rfl : z = 3 := hz (by rintro rfl; simp at hil)
    have hins : ∀ k : Nat, k < l.length → inside l k = true := fun k' hk => by simp only [inside, k]; simp; omega
    obtain ⟨v, _⟩ := fault_val k
    have h3 := ansPathP (some nl) 3 l (fun _ => rfl) hok (by omega) i (hins i hil)
    have h4 := ansBelP (some nl) 3 l (fun _ => rfl) hok (by omega) i (by omega)
    have hb : belowOf l i = (cnt (dp l i) (l.drop (i + 1)) : Int) := by simp [belowOf, hins i hil]
    rw [hb] at h4
    have hcl := cnt_le (dp l i) (l.drop (i + 1))
    rw [List.length_drop] at hcl
    have hpl := pathL_length v i hil
    have hpd := v.le i hil
    have hpg := v.ge i hil
    have hlast := path_last l i
    have hget := path_get i hil
    have hbi := fun k hk => below_iff (l := l) (i := i) (k := k) hk
    have hpi := path_iff v hil
    obtain ⟨t, u, hg⟩ := get_dp hil
    generalize cnt (dp l i) (l.drop (i + 1)) = C at *
    generalize pathL l i = P at *
    have tl : ((P.length : Int) - 1).toNat = P.length - 1 := by omega
    simp (config := { maxSteps := 1000000 }) (disch := omega) [-List.map_replicate, -List.map_set, -List.getD_eq_getElem?_getD, -getElem?_pos, -getElem?_neg, wrap_i64, le_strLim, le_sliceLim, le_buildLim, le_sliceLimI, Int.tmod_eq_emod_of_nonneg, Int.tdiv_eq_ediv_of_nonneg, omLe, omLeN, omLt, omLtN, omEq, omEqN, onLe, onLeN, onLt, onLtN, onEq, onEqN, ir7, ansAwake, h20, h1, h2, k1, k2, h3, h4, hg, tl, hlast]
    refine Wp.loopM (fun (a : Nat × Option AV) => P.length - a.1) (fun a => [some (.lst (some nl) 3 (l.map ndA)), some (.int .i64 i), none, some (.lst none 1 (P.map (AV.int .i64))), some (.int .i64 C), some (.int .i64 a.1), none, none, none, none, none, none, none, none, none, none, none, none, none, none, a.2, none, none, none, none, none, none, none, none, none]) (fun _ => [])
      (fun a => 1 ≤ a.1 ∧ a.1 ≤ P.length) ?_ (1, none) ⟨by simp, by simp only; omega⟩ (by simp) rfl
    rintro ⟨m, x⟩ ⟨hm1, hm2⟩
    simp only at hm1 hm2 ⊢
    by_cases q0 : m < P.length
    · obtain ⟨a, a1, a2, a3⟩ := hget m q0
      have a4 := a3 (by omega)
      have a5 := ansParP (some nl) 3 l (fun _ => rfl) hok (by omega) a (by omega)
      have a6 : parOf l a = pr l a := by simp [parOf, hins a a2]
      rw [a6] at a5
      have tm : ((m : Int) - 1).toNat = m - 1 := by omega
      simp (config := { maxSteps := 1000000 }) (disch := omega) [-List.map_replicate, -List.map_set, -List.getD_eq_getElem?_getD, -getElem?_pos, -getElem?_neg, wrap_i64, le_strLim, le_sliceLim, le_buildLim, le_sliceLimI, Int.tmod_eq_emod_of_nonneg, Int.tdiv_eq_ediv_of_nonneg, omLe, omLeN, omLt, omLtN, omEq, omEqN, onLe, onLeN, onLt, onLtN, onEq, onEqN, a1, a4, a5, tm]
      exact ⟨m + 1, by omega, by omega, by omega⟩
    · obtain rfl : m = P.length := by omega
      simp (config := { maxSteps := 1000000 }) (disch := omega) [-List.map_replicate, -List.map_set, -List.getD_eq_getElem?_getD, -getElem?_pos, -getElem?_neg, wrap_i64, le_strLim, le_sliceLim, le_buildLim, le_sliceLimI, Int.tmod_eq_emod_of_nonneg, Int.tdiv_eq_ediv_of_nonneg, omLe, omLeN, omLt, omLtN, omEq, omEqN, onLe, onLeN, onLt, onLtN, onEq, onEqN]
      refine Wp.loopM (fun (b : Nat × Option AV × Option AV) => l.length - b.1) (fun b => [some (.lst (some nl) 3 (l.map ndA)), some (.int .i64 i), none, some (.lst none 1 (P.map (AV.int .i64))), some (.int .i64 C), none, none, none, none, none, none, none, none, none, none, none, none, none, none, none, none, none, some (.int .i64 l.length), some (.int .i64 b.1), none, none, none, b.2.1, b.2.2, none]) (fun _ => [])
        (fun b => b.1 ≤ l.length) ?_ (0, none, none) (by simp) (by simp) rfl
      rintro ⟨n, y, w⟩ hn
      simp only at hn ⊢
      by_cases q1 : n < l.length
      · have b1 := ansPathP (some nl) 3 l (fun _ => rfl) hok (by omega) n (hins n q1)
        have hlk := pathL_length v n q1
        have hdk := v.le n q1
        have hbn := hbi n q1
        have hpn := hpi n q1
        generalize pathL l n = R at *
        by_cases q2 : R.length > P.length
        · have b2 := ansEqI none none 1 1 (R.take P.length) P (fun _ => rfl) (fun _ => rfl) (by simp; omega) (by omega)
          by_cases q3 : R.take P.length = P
          · have q4 := hbn.2 (hpn.1 ⟨q2, q3⟩)
            rw [decide_eq_true q3, List.map_take] at b2
            simp (config := { maxSteps := 1000000 }) (disch := omega) [-List.map_replicate, -List.map_set, -List.getD_eq_getElem?_getD, -getElem?_pos, -getElem?_neg, wrap_i64, le_strLim, le_sliceLim, le_buildLim, le_sliceLimI, Int.tmod_eq_emod_of_nonneg, Int.tdiv_eq_ediv_of_nonneg, omLe, omLeN, omLt, omLtN, omEq, omEqN, onLe, onLeN, onLt, onLtN, onEq, onEqN, b1, b2, q2]
            exact ⟨n + 1, by omega, by omega, by omega⟩
          · have q4 : ¬ (i < n ∧ n ≤ i + C) := fun hh => q3 (hpn.2 (hbn.1 hh)).2
            have q5 : ((i : Int) < n ∧ (n : Int) ≤ i + C) = False := eq_false (by omega)
            rw [decide_eq_false q3, List.map_take] at b2
            simp (config := { maxSteps := 1000000 }) (disch := omega) [-List.map_replicate, -List.map_set, -List.getD_eq_getElem?_getD, -getElem?_pos, -getElem?_neg, wrap_i64, le_strLim, le_sliceLim, le_buildLim, le_sliceLimI, Int.tmod_eq_emod_of_nonneg, Int.tdiv_eq_ediv_of_nonneg, omLe, omLeN, omLt, omLtN, omEq, omEqN, onLe, onLeN, onLt, onLtN, onEq, onEqN, b1, b2, q2, q5]
            exact ⟨fun hh => by omega, n + 1, by omega, by omega, by omega⟩
        · have q4 : ¬ (i < n ∧ n ≤ i + C) := fun hh => q2 (hpn.2 (hbn.1 hh)).1
          have q5 : ((i : Int) < n ∧ (n : Int) ≤ i + C) = False := eq_false (by omega)
          simp (config := { maxSteps := 1000000 }) (disch := omega) [-List.map_replicate, -List.map_set, -List.getD_eq_getElem?_getD, -getElem?_pos, -getElem?_neg, wrap_i64, le_strLim, le_sliceLim, le_buildLim, le_sliceLimI, Int.tmod_eq_emod_of_nonneg, Int.tdiv_eq_ediv_of_nonneg, omLe, omLeN, omLt, omLtN, omEq, omEqN, onLe, onLeN, onLt, onLtN, onEq, onEqN, b1, q2, q5]
          exact ⟨fun hh => by omega, n + 1, by omega, by omega, by omega⟩
      · obtain rfl : n = l.length := by omega
        simp (config := { maxSteps := 1000000 }) (disch := omega) [-List.map_replicate, -List.map_set, -List.getD_eq_getElem?_getD, -getElem?_pos, -getElem?_neg, wrap_i64, le_strLim, le_sliceLim, le_buildLim, le_sliceLimI, Int.tmod_eq_emod_of_nonneg, Int.tdiv_eq_ediv_of_nonneg, omLe, omLeN, omLt, omLtN, omEq, omEqN, onLe, onLeN, onLt, onLtN, onEq, onEqN]
end Go.Proofs.YtibakcohkdfnoaaDoor
