/-
  Parent, Below and Path of markup: program and reference. Path of markup: program and reference.
-/
import Derived.Test.YtibakcohkdfnoaaDoorNodeM
set_option linter.unusedSimpArgs false
set_option linter.unusedVariables false
namespace Go.Proofs.YtibakcohkdfnoaaDoor
open Go.Am
set_option maxRecDepth 10000
set_option maxHeartbeats 4000000

/-! ### Depths -/

/-- the depth of a node -/
def dp (l : List Nd) (k : Nat) : Int := match l[k]? with
  | some n => n.d
  | none => -1
theorem get_dp {l : List Nd} {k : Nat} (h : k < l.length) : ∃ t u, l[k]? = some ⟨dp l k, t, u⟩ := by
  refine ⟨(l[k]).tag, (l[k]).text, ?_⟩
  rw [List.getElem?_eq_getElem h]
  simp [dp, List.getElem?_eq_getElem h]
theorem dp_get {l : List Nd} {k : Nat} (h : k < l.length) : (l[k]).d = dp l k := by
  simp [dp, List.getElem?_eq_getElem h]
theorem dp_cons_zero (n : Nd) (l : List Nd) : dp (n :: l) 0 = n.d := rfl
theorem dp_cons_succ (n : Nd) (l : List Nd) (k : Nat) : dp (n :: l) (k + 1) = dp l k := rfl
theorem dp_drop (l : List Nd) (a k : Nat) : dp (l.drop a) k = dp l (a + k) := by simp [dp]

/-- a document whose depths are right -/
structure Val (l : List Nd) : Prop where
  ge : ∀ j, j < l.length → 0 ≤ dp l j
  le : ∀ j, j < l.length → dp l j ≤ 12
  zero : 0 < l.length → dp l 0 = 0
  step : ∀ j, j + 1 < l.length → dp l (j + 1) ≤ dp l j + 1

theorem findErr_dp : ∀ (l : List Nd) (i : Nat) (b : Int), (findErr i b l).2 = 0 → (∀ j, j < l.length → 0 ≤ dp l j ∧ dp l j ≤ 12) ∧ (0 < l.length → dp l 0 ≤ b + 1) ∧ ∀ j, j + 1 < l.length → dp l (j + 1) ≤ dp l j + 1
  | [], _, _, _ => ⟨fun j h => by simp at h, fun h => by simp at h, fun j h => by simp at h⟩
  | n :: l, i, b, h => by
    simp only [findErr] at h
    split at h
    · rename_i h1; exact absurd h h1
    · rename_i h1
      have h2 := nodeErr_zero (by simpa using h1)
      obtain ⟨h3, h4, h5⟩ := findErr_dp l (i + 1) n.d h
      refine ⟨fun j hj => ?_, fun _ => h2.2.1, fun j hj => ?_⟩
      · cases j with
        | zero => exact ⟨h2.1, h2.2.2.1⟩
        | succ j => exact h3 j (by simpa using hj)
      · cases j with
        | zero => exact h4 (by simpa using hj)
        | succ j => exact h5 j (by simpa using hj)
theorem fault_val {l : List Nd} (h : (faultOf l).2 = 0) : Val l ∧ l.length ≤ 512 := by
  unfold faultOf at h
  split at h
  · cases h
  · obtain ⟨h1, h2, h3⟩ := findErr_dp l 0 (-1) h
    refine ⟨⟨fun j hj => (h1 j hj).1, fun j hj => (h1 j hj).2, fun hl => ?_, h3⟩, by omega⟩
    have := h2 hl
    have := (h1 0 hl).1
    omega

/-- depths that rise pass each one between -/
theorem Val.between {l : List Nd} (v : Val l) {t : Int} {a : Nat} (ha : dp l a ≤ t) : ∀ i, a ≤ i → i < l.length → t < dp l i → ∃ j, a ≤ j ∧ j < i ∧ dp l j = t
  | 0, h1, _, h3 => by
    obtain rfl : a = 0 := by omega
    omega
  | i + 1, h1, h2, h3 => by
    by_cases h4 : a = i + 1
    · subst h4; omega
    · have h5 := v.step i h2
      by_cases h6 : dp l i = t
      · exact ⟨i, by omega, by omega, h6⟩
      · obtain ⟨j, j1, j2, j3⟩ := v.between ha i (by omega) (by omega) (by omega)
        exact ⟨j, j1, by omega, j3⟩

/-- the last node of this depth ahead of a place -/
def up (l : List Nd) (d : Int) : Nat → Int
  | 0 => -1
  | k + 1 => if dp l k = d then (k : Int) else up l d k
theorem up_lt (l : List Nd) (d : Int) : ∀ k, -1 ≤ up l d k ∧ up l d k < k
  | 0 => by simp [up]
  | k + 1 => by
    have := up_lt l d k
    simp only [up]
    split <;> omega
theorem up_dp (l : List Nd) (d : Int) : ∀ k, 0 ≤ up l d k → dp l (up l d k).toNat = d
  | 0, h => by simp [up] at h
  | k + 1, h => by
    simp only [up] at h ⊢
    split
    · rename_i h1; rw [Int.toNat_natCast]; exact h1
    · rename_i h1
      rw [if_neg h1] at h
      exact up_dp l d k h
theorem up_max (l : List Nd) (d : Int) : ∀ k j, j < k → dp l j = d → (j : Int) ≤ up l d k
  | 0, j, h, _ => by omega
  | k + 1, j, h, hd => by
    simp only [up]
    split
    · omega
    · rename_i h1
      have : j ≠ k := by rintro rfl; exact h1 hd
      exact up_max l d k j (by omega) hd

def inside (l : List Nd) (i : Int) : Bool := decide (0 ≤ i ∧ i < l.length ∧ (faultOf l).2 = 0)

/-- the parent of a node -/
def pr (l : List Nd) (i : Nat) : Int := if dp l i = 0 then -1 else up l (dp l i - 1) i
theorem pr_lt (l : List Nd) (i : Nat) : -1 ≤ pr l i ∧ pr l i < i := by
  unfold pr
  have := up_lt l (dp l i - 1) i
  split <;> omega
theorem Val.pr_nonneg {l : List Nd} (v : Val l) {i : Nat} (hi : i < l.length) (h : dp l i ≠ 0) : 0 ≤ pr l i ∧ dp l (pr l i).toNat = dp l i - 1 := by
  have h0 := v.ge i hi
  have hz := v.zero (by omega)
  obtain ⟨j, _, j2, j3⟩ := v.between (t := dp l i - 1) (a := 0) (by omega) i (by omega) hi (by omega)
  have hm := up_max l (dp l i - 1) i j j2 j3
  unfold pr
  rw [if_neg h]
  exact ⟨by omega, up_dp l _ i (by omega)⟩
def parOf (l : List Nd) (i : Int) : Int := if inside l i = true then pr l i.toNat else -1

/-- how many nodes are deeper, from the beginning on -/
def cnt (d : Int) : List Nd → Nat
  | [] => 0
  | n :: l => if n.d > d then cnt d l + 1 else 0
theorem cnt_le (d : Int) : ∀ l : List Nd, cnt d l ≤ l.length
  | [] => Nat.le_refl _
  | n :: l => by
    have := cnt_le d l
    simp only [cnt, List.length_cons]
    split <;> omega
theorem cnt_step (d : Int) : ∀ (l : List Nd) (n : Nat), n ≤ cnt d l → n < l.length → (dp l n > d ∧ n + 1 ≤ cnt d l) ∨ (¬ dp l n > d ∧ cnt d l = n)
  | [], n, _, h => by simp at h
  | c :: s, 0, _, _ => by
    simp only [cnt, dp_cons_zero]
    split
    · exact .inl ⟨by assumption, by omega⟩
    · exact .inr ⟨by assumption, rfl⟩
  | c :: s, n + 1, h1, h2 => by
    simp only [cnt] at h1 ⊢
    split at h1
    · rename_i hc
      rw [if_pos hc]
      rw [dp_cons_succ]
      rcases cnt_step d s n (by omega) (by simpa using h2) with ⟨h3, h4⟩ | ⟨h3, h4⟩
      · exact .inl ⟨h3, by omega⟩
      · exact .inr ⟨h3, by omega⟩
    · omega
def belowOf (l : List Nd) (i : Int) : Int := if inside l i = true then (cnt (dp l i.toNat) (l.drop (i.toNat + 1)) : Int) else 0

/-! ### In -/

section
variable (nl : Option Bool) (z : Nat) (l : List Nd) (hz : l ≠ [] → z = 3) (hl : ∀ n ∈ l, NdOk n) (hlen : l.length < 1000000) (i : Int)

include hz hl hlen
theorem ansHas (hi : -9223372036854775808 ≤ i ∧ i < 9223372036854775808) : ansF cfg 46 [.lst nl z (l.map ndA), .int .i64 i] [] = some (.bool (inside l i), []) := by
  refine ans_of_wp fn46 low46 ?_
  have hc := ansCheckP nl z l hz hl (by omega)
  unfold inside
  by_cases h0 : 0 ≤ i
  · by_cases h2 : i < l.length
    · by_cases h1 : (faultOf l).2 = 0
      · simp (config := { maxSteps := 1000000 }) (disch := omega) [-List.map_replicate, -List.map_set, -List.getD_eq_getElem?_getD, -getElem?_pos, -getElem?_neg, wrap_i64, le_strLim, le_sliceLim, le_buildLim, le_sliceLimI, Int.tmod_eq_emod_of_nonneg, Int.tdiv_eq_ediv_of_nonneg, omLe, omLeN, omLt, omLtN, omEq, omEqN, onLe, onLeN, onLt, onLtN, onEq, onEqN, ir46, hc, h0, h1, h2]
      · simp (config := { maxSteps := 1000000 }) (disch := omega) [-List.map_replicate, -List.map_set, -List.getD_eq_getElem?_getD, -getElem?_pos, -getElem?_neg, wrap_i64, le_strLim, le_sliceLim, le_buildLim, le_sliceLimI, Int.tmod_eq_emod_of_nonneg, Int.tdiv_eq_ediv_of_nonneg, omLe, omLeN, omLt, omLtN, omEq, omEqN, onLe, onLeN, onLt, onLtN, onEq, onEqN, ir46, hc, h0, h1, h2]
    · simp (config := { maxSteps := 1000000 }) (disch := omega) [-List.map_replicate, -List.map_set, -List.getD_eq_getElem?_getD, -getElem?_pos, -getElem?_neg, wrap_i64, le_strLim, le_sliceLim, le_buildLim, le_sliceLimI, Int.tmod_eq_emod_of_nonneg, Int.tdiv_eq_ediv_of_nonneg, omLe, omLeN, omLt, omLtN, omEq, omEqN, onLe, onLeN, onLt, onLtN, onEq, onEqN, ir46, h0, h2]
  · simp (config := { maxSteps := 1000000 }) (disch := omega) [-List.map_replicate, -List.map_set, -List.getD_eq_getElem?_getD, -getElem?_pos, -getElem?_neg, wrap_i64, le_strLim, le_sliceLim, le_buildLim, le_sliceLimI, Int.tmod_eq_emod_of_nonneg, Int.tdiv_eq_ediv_of_nonneg, omLe, omLeN, omLt, omLtN, omEq, omEqN, onLe, onLeN, onLt, onLtN, onEq, onEqN, ir46, h0]
theorem ansIn (hi : -9223372036854775808 ≤ i ∧ i < 9223372036854775808) : ansF cfg 48 [.lst nl z (l.map ndA), .int .i64 i] [] = some (.bool (inside l i), []) := by
  refine ans_of_wp fn48 low48 ?_
  have hc := ansCheckR nl z l hz hl (by omega)
  unfold inside
  have e : ((0 ≤ i) ∧ (i < (l.length : Int)) ∧ (faultOf l).2 = 0) = (((faultOf l).2 = 0 ∧ 0 ≤ i) ∧ i < (l.length : Int)) := by apply propext; constructor <;> (intro h; omega)
  simp (config := { maxSteps := 1000000 }) (disch := omega) [-List.map_replicate, -List.map_set, -List.getD_eq_getElem?_getD, -getElem?_pos, -getElem?_neg, wrap_i64, le_strLim, le_sliceLim, le_buildLim, le_sliceLimI, Int.tmod_eq_emod_of_nonneg, Int.tdiv_eq_ediv_of_nonneg, ir48, hc, e]
  rfl

theorem ansParP (hi : -9223372036854775808 ≤ i ∧ i < 9223372036854775808) : ansF cfg 24 [.lst nl z (l.map ndA), .int .i64 i] [] = some (.int .i64 (parOf l i), []) := by
  refine ans_of_wp fn24 low24 ?_
  have hh := ansHas nl z l hz hl hlen i hi
  unfold parOf
  cases h0 : inside l i with
  | false =>
    rw [h0] at hh
    simp (config := { maxSteps := 1000000 }) (disch := omega) [-List.map_replicate, -List.map_set, -List.getD_eq_getElem?_getD, -getElem?_pos, -getElem?_neg, wrap_i64, le_strLim, le_sliceLim, le_buildLim, le_sliceLimI, Int.tmod_eq_emod_of_nonneg, Int.tdiv_eq_ediv_of_nonneg, omLe, omLeN, omLt, omLtN, omEq, omEqN, onLe, onLeN, onLt, onLtN, onEq, onEqN, ir24, hh]
  | true =>
    rw [h0] at hh
    simp only [inside, decide_eq_true_eq] at h0
    obtain ⟨i0, i1, i2⟩ := h0
    obtain ⟨v, hn⟩ := fault_val i2
    obtain ⟨i, rfl⟩ := Int.eq_ofNat_of_zero_le i0
    have i3 : i < l.length := by omega
    obtain rfl : z = 3 := hz (by rintro rfl; simp at i3)
    obtain ⟨t, u, hg⟩ := get_dp i3
    have g0 := v.ge i i3
    have g1 := v.le i i3
    simp only [Int.toNat_natCast]
    by_cases h1 : dp l i = 0
    · have hp : pr l i = -1 := by simp [pr, h1]
      simp (config := { maxSteps := 1000000 }) (disch := omega) [-List.map_replicate, -List.map_set, -List.getD_eq_getElem?_getD, -getElem?_pos, -getElem?_neg, wrap_i64, le_strLim, le_sliceLim, le_buildLim, le_sliceLimI, Int.tmod_eq_emod_of_nonneg, Int.tdiv_eq_ediv_of_nonneg, omLe, omLeN, omLt, omLtN, omEq, omEqN, onLe, onLeN, onLt, onLtN, onEq, onEqN, ir24, hh, hg, h1, hp]
    · obtain ⟨p1, p2⟩ := v.pr_nonneg i3 h1
      have hp : pr l i = up l (dp l i - 1) i := by simp [pr, h1]
      have hpl := pr_lt l i
      rw [hp] at p1 p2 hpl ⊢
      generalize dp l i = d at *
      have ht : ((i : Int) - 1) = ((i - 1 : Nat) : Int) := by omega
      simp (config := { maxSteps := 1000000 }) (disch := omega) [-List.map_replicate, -List.map_set, -List.getD_eq_getElem?_getD, -getElem?_pos, -getElem?_neg, wrap_i64, le_strLim, le_sliceLim, le_buildLim, le_sliceLimI, Int.tmod_eq_emod_of_nonneg, Int.tdiv_eq_ediv_of_nonneg, omLe, omLeN, omLt, omLtN, omEq, omEqN, onLe, onLeN, onLt, onLtN, onEq, onEqN, ir24, hh, hg, h1]
      refine Wp.loopM (fun (k : Nat) => k) (fun k => [some (.lst nl 3 (l.map ndA)), some (.int .i64 i), none, some (.int .i64 k), none, none, none]) (fun _ => []) (fun k => k < i ∧ up l (d - 1) i = up l (d - 1) (k + 1)) ?_ (i - 1) ⟨by omega, by congr 1; omega⟩ (by simp [ht]) rfl
      rintro k ⟨hk, hu⟩
      obtain ⟨t', u', hg'⟩ := get_dp (l := l) (k := k) (by omega)
      have g0' := v.ge k (by omega)
      have g1' := v.le k (by omega)
      rw [hu]
      simp only [up] at hu ⊢
      by_cases h2 : dp l k = d - 1
      · rw [if_pos h2]
        simp (config := { maxSteps := 1000000 }) (disch := omega) [-List.map_replicate, -List.map_set, -List.getD_eq_getElem?_getD, -getElem?_pos, -getElem?_neg, wrap_i64, le_strLim, le_sliceLim, le_buildLim, le_sliceLimI, Int.tmod_eq_emod_of_nonneg, Int.tdiv_eq_ediv_of_nonneg, omLe, omLeN, omLt, omLtN, omEq, omEqN, onLe, onLeN, onLt, onLtN, onEq, onEqN, hg, hg', h2]
      · rw [if_neg h2] at hu ⊢
        have : k ≠ 0 := by rintro rfl; simp [up] at hu; omega
        simp (config := { maxSteps := 1000000 }) (disch := omega) [-List.map_replicate, -List.map_set, -List.getD_eq_getElem?_getD, -getElem?_pos, -getElem?_neg, wrap_i64, le_strLim, le_sliceLim, le_buildLim, le_sliceLimI, Int.tmod_eq_emod_of_nonneg, Int.tdiv_eq_ediv_of_nonneg, omLe, omLeN, omLt, omLtN, omEq, omEqN, onLe, onLeN, onLt, onLtN, onEq, onEqN, hg, hg', h2]
        exact ⟨k - 1, ⟨by omega, by
          have e := congrArg (up l (d - 1)) (show k - 1 + 1 = k by omega)
          simp only [up] at e
          exact e.symm⟩, by omega, by omega⟩

theorem ansParR (hi : -9223372036854775808 ≤ i ∧ i < 9223372036854775808) : ansF cfg 29 [.lst nl z (l.map ndA), .int .i64 i] [] = some (.int .i64 (parOf l i), []) := by
  refine ans_of_wp fn29 low29 ?_
  have hh := ansIn nl z l hz hl hlen i hi
  unfold parOf
  cases h0 : inside l i with
  | false =>
    rw [h0] at hh
    simp (config := { maxSteps := 1000000 }) (disch := omega) [-List.map_replicate, -List.map_set, -List.getD_eq_getElem?_getD, -getElem?_pos, -getElem?_neg, wrap_i64, le_strLim, le_sliceLim, le_buildLim, le_sliceLimI, Int.tmod_eq_emod_of_nonneg, Int.tdiv_eq_ediv_of_nonneg, omLe, omLeN, omLt, omLtN, omEq, omEqN, onLe, onLeN, onLt, onLtN, onEq, onEqN, ir29, hh]
  | true =>
    rw [h0] at hh
    simp only [inside, decide_eq_true_eq] at h0
    obtain ⟨i0, i1, i2⟩ := h0
    obtain ⟨v, hn⟩ := fault_val i2
    obtain ⟨i, rfl⟩ := Int.eq_ofNat_of_zero_le i0
    have i3 : i < l.length := by omega
    obtain rfl : z = 3 := hz (by rintro rfl; simp at i3)
    obtain ⟨t, u, hg⟩ := get_dp i3
    have g0 := v.ge i i3
    have g1 := v.le i i3
    simp only [Int.toNat_natCast]
    by_cases h1 : dp l i = 0
    · have hp : pr l i = -1 := by simp [pr, h1]
      simp (config := { maxSteps := 1000000 }) (disch := omega) [-List.map_replicate, -List.map_set, -List.getD_eq_getElem?_getD, -getElem?_pos, -getElem?_neg, wrap_i64, le_strLim, le_sliceLim, le_buildLim, le_sliceLimI, Int.tmod_eq_emod_of_nonneg, Int.tdiv_eq_ediv_of_nonneg, omLe, omLeN, omLt, omLtN, omEq, omEqN, onLe, onLeN, onLt, onLtN, onEq, onEqN, ir29, hh, hg, h1, hp]
    · have hp : pr l i = up l (dp l i - 1) i := by simp [pr, h1]
      rw [hp]
      generalize dp l i = d at *
      simp (config := { maxSteps := 1000000 }) (disch := omega) [-List.map_replicate, -List.map_set, -List.getD_eq_getElem?_getD, -getElem?_pos, -getElem?_neg, wrap_i64, le_strLim, le_sliceLim, le_buildLim, le_sliceLimI, Int.tmod_eq_emod_of_nonneg, Int.tdiv_eq_ediv_of_nonneg, omLe, omLeN, omLt, omLtN, omEq, omEqN, onLe, onLeN, onLt, onLtN, onEq, onEqN, ir29, hh, hg, h1]
      refine Wp.loopM (fun (k : Nat) => k) (fun k => [some (.lst nl 3 (l.map ndA)), some (.int .i64 i), none, some (.int .i64 ((k : Int) - 1)), none, none, none, none]) (fun _ => []) (fun k => k ≤ i ∧ up l (d - 1) i = up l (d - 1) k) ?_ i ⟨by omega, rfl⟩ (by simp) rfl
      rintro k ⟨hk, hu⟩
      rw [hu]
      cases k with
      | zero => simp (config := { maxSteps := 1000000 }) (disch := omega) [-List.map_replicate, -List.map_set, -List.getD_eq_getElem?_getD, -getElem?_pos, -getElem?_neg, wrap_i64, le_strLim, le_sliceLim, le_buildLim, le_sliceLimI, Int.tmod_eq_emod_of_nonneg, Int.tdiv_eq_ediv_of_nonneg, omLe, omLeN, omLt, omLtN, omEq, omEqN, onLe, onLeN, onLt, onLtN, onEq, onEqN, up]
      | succ k =>
        obtain ⟨t', u', hg'⟩ := get_dp (l := l) (k := k) (by omega)
        have g0' := v.ge k (by omega)
        have g1' := v.le k (by omega)
        have e1 : (((k + 1 : Nat) : Int) - 1) = (k : Int) := by omega
        simp only [up] at hu ⊢
        rw [e1]
        by_cases h2 : dp l k = d - 1
        · rw [if_pos h2]
          simp (config := { maxSteps := 1000000 }) (disch := omega) [-List.map_replicate, -List.map_set, -List.getD_eq_getElem?_getD, -getElem?_pos, -getElem?_neg, wrap_i64, le_strLim, le_sliceLim, le_buildLim, le_sliceLimI, Int.tmod_eq_emod_of_nonneg, Int.tdiv_eq_ediv_of_nonneg, omLe, omLeN, omLt, omLtN, omEq, omEqN, onLe, onLeN, onLt, onLtN, onEq, onEqN, hg, hg', h2]
        · rw [if_neg h2] at hu ⊢
          simp (config := { maxSteps := 1000000 }) (disch := omega) [-List.map_replicate, -List.map_set, -List.getD_eq_getElem?_getD, -getElem?_pos, -getElem?_neg, wrap_i64, le_strLim, le_sliceLim, le_buildLim, le_sliceLimI, Int.tmod_eq_emod_of_nonneg, Int.tdiv_eq_ediv_of_nonneg, omLe, omLeN, omLt, omLtN, omEq, omEqN, onLe, onLeN, onLt, onLtN, onEq, onEqN, hg, hg', h2]
          exact ⟨k, ⟨by omega, rfl⟩, by omega, by omega⟩

theorem ansBelP (hi : -9223372036854775808 ≤ i ∧ i < 9223372036854775808) : ansF cfg 23 [.lst nl z (l.map ndA), .int .i64 i] [] = some (.int .i64 (belowOf l i), []) := by
  refine ans_of_wp fn23 low23 ?_
  have hh := ansHas nl z l hz hl hlen i hi
  unfold belowOf
  cases h0 : inside l i with
  | false =>
    rw [h0] at hh
    simp (config := { maxSteps := 1000000 }) (disch := omega) [-List.map_replicate, -List.map_set, -List.getD_eq_getElem?_getD, -getElem?_pos, -getElem?_neg, wrap_i64, le_strLim, le_sliceLim, le_buildLim, le_sliceLimI, Int.tmod_eq_emod_of_nonneg, Int.tdiv_eq_ediv_of_nonneg, omLe, omLeN, omLt, omLtN, omEq, omEqN, onLe, onLeN, onLt, onLtN, onEq, onEqN, ir23, hh]
  | true =>
    rw [h0] at hh
    simp only [inside, decide_eq_true_eq] at h0
    obtain ⟨i0, i1, i2⟩ := h0
    obtain ⟨i, rfl⟩ := Int.eq_ofNat_of_zero_le i0
    have i3 : i < l.length := by omega
    obtain rfl : z = 3 := hz (by rintro rfl; simp at i3)
    obtain ⟨t, u, hg⟩ := get_dp i3
    simp only [Int.toNat_natCast]
    have hcl := cnt_le (dp l i) (l.drop (i + 1))
    rw [List.length_drop] at hcl
    simp (config := { maxSteps := 1000000 }) (disch := omega) [-List.map_replicate, -List.map_set, -List.getD_eq_getElem?_getD, -getElem?_pos, -getElem?_neg, wrap_i64, le_strLim, le_sliceLim, le_buildLim, le_sliceLimI, Int.tmod_eq_emod_of_nonneg, Int.tdiv_eq_ediv_of_nonneg, omLe, omLeN, omLt, omLtN, omEq, omEqN, onLe, onLeN, onLt, onLtN, onEq, onEqN, ir23, hh]
    refine Wp.loopM (fun (n : Nat) => l.length - n) (fun n => [some (.lst nl 3 (l.map ndA)), some (.int .i64 i), none, some (.int .i64 n), none, none, none]) (fun _ => []) (fun n => n ≤ cnt (dp l i) (l.drop (i + 1))) ?_ 0 (by omega) (by simp) rfl
    intro n hn
    have hsn := cnt_step (dp l i) (l.drop (i + 1)) n hn
    rw [List.length_drop, dp_drop] at hsn
    generalize cnt (dp l i) (l.drop (i + 1)) = C at *
    by_cases h1 : i + n + 1 < l.length
    · have e1 : i + 1 + n = i + n + 1 := by omega
      obtain ⟨t', u', hg'⟩ := get_dp h1
      have e2 : ((i : Int) + n + 1).toNat = i + n + 1 := by omega
      rw [e1] at hsn
      generalize dp l (i + n + 1) = d' at *
      generalize dp l i = d at *
      rcases hsn (by omega) with ⟨h2, h3⟩ | ⟨h2, h3⟩
      · simp (config := { maxSteps := 1000000 }) (disch := omega) [-List.map_replicate, -List.map_set, -List.getD_eq_getElem?_getD, -getElem?_pos, -getElem?_neg, wrap_i64, le_strLim, le_sliceLim, le_buildLim, le_sliceLimI, Int.tmod_eq_emod_of_nonneg, Int.tdiv_eq_ediv_of_nonneg, omLe, omLeN, omLt, omLtN, omEq, omEqN, onLe, onLeN, onLt, onLtN, onEq, onEqN, hg, hg', e2, h2]
        exact ⟨n + 1, by omega, by omega, by omega⟩
      · simp (config := { maxSteps := 1000000 }) (disch := omega) [-List.map_replicate, -List.map_set, -List.getD_eq_getElem?_getD, -getElem?_pos, -getElem?_neg, wrap_i64, le_strLim, le_sliceLim, le_buildLim, le_sliceLimI, Int.tmod_eq_emod_of_nonneg, Int.tdiv_eq_ediv_of_nonneg, omLe, omLeN, omLt, omLtN, omEq, omEqN, onLe, onLeN, onLt, onLtN, onEq, onEqN, hg, hg', e2, h2, h3]
    · have : C = n := by omega
      simp (config := { maxSteps := 1000000 }) (disch := omega) [-List.map_replicate, -List.map_set, -List.getD_eq_getElem?_getD, -getElem?_pos, -getElem?_neg, wrap_i64, le_strLim, le_sliceLim, le_buildLim, le_sliceLimI, Int.tmod_eq_emod_of_nonneg, Int.tdiv_eq_ediv_of_nonneg, omLe, omLeN, omLt, omLtN, omEq, omEqN, onLe, onLeN, onLt, onLtN, onEq, onEqN, this]

theorem ansBelR (hi : -9223372036854775808 ≤ i ∧ i < 9223372036854775808) : ansF cfg 30 [.lst nl z (l.map ndA), .int .i64 i] [] = some (.int .i64 (belowOf l i), []) := by
  refine ans_of_wp fn30 low30 ?_
  have hh := ansIn nl z l hz hl hlen i hi
  unfold belowOf
  cases h0 : inside l i with
  | false =>
    rw [h0] at hh
    simp (config := { maxSteps := 1000000 }) (disch := omega) [-List.map_replicate, -List.map_set, -List.getD_eq_getElem?_getD, -getElem?_pos, -getElem?_neg, wrap_i64, le_strLim, le_sliceLim, le_buildLim, le_sliceLimI, Int.tmod_eq_emod_of_nonneg, Int.tdiv_eq_ediv_of_nonneg, omLe, omLeN, omLt, omLtN, omEq, omEqN, onLe, onLeN, onLt, onLtN, onEq, onEqN, ir30, hh]
  | true =>
    rw [h0] at hh
    simp only [inside, decide_eq_true_eq] at h0
    obtain ⟨i0, i1, i2⟩ := h0
    obtain ⟨i, rfl⟩ := Int.eq_ofNat_of_zero_le i0
    have i3 : i < l.length := by omega
    obtain rfl : z = 3 := hz (by rintro rfl; simp at i3)
    obtain ⟨t, u, hg⟩ := get_dp i3
    simp only [Int.toNat_natCast]
    have hcl := cnt_le (dp l i) (l.drop (i + 1))
    rw [List.length_drop] at hcl
    simp (config := { maxSteps := 1000000 }) (disch := omega) [-List.map_replicate, -List.map_set, -List.getD_eq_getElem?_getD, -getElem?_pos, -getElem?_neg, wrap_i64, le_strLim, le_sliceLim, le_buildLim, le_sliceLimI, Int.tmod_eq_emod_of_nonneg, Int.tdiv_eq_ediv_of_nonneg, omLe, omLeN, omLt, omLtN, omEq, omEqN, onLe, onLeN, onLt, onLtN, onEq, onEqN, ir30, hh]
    refine Wp.loopM (fun (n : Nat) => l.length - n) (fun n => [some (.lst nl 3 (l.map ndA)), some (.int .i64 i), none, some (.int .i64 n), none, none, none]) (fun _ => []) (fun n => n ≤ cnt (dp l i) (l.drop (i + 1))) ?_ 0 (by omega) (by simp) rfl
    intro n hn
    have hsn := cnt_step (dp l i) (l.drop (i + 1)) n hn
    rw [List.length_drop, dp_drop] at hsn
    generalize cnt (dp l i) (l.drop (i + 1)) = C at *
    by_cases h1 : i + 1 + n < l.length
    · obtain ⟨t', u', hg'⟩ := get_dp h1
      have e2 : ((i : Int) + 1 + n).toNat = i + 1 + n := by omega
      generalize dp l (i + 1 + n) = d' at *
      generalize dp l i = d at *
      rcases hsn (by omega) with ⟨h2, h3⟩ | ⟨h2, h3⟩
      · simp (config := { maxSteps := 1000000 }) (disch := omega) [-List.map_replicate, -List.map_set, -List.getD_eq_getElem?_getD, -getElem?_pos, -getElem?_neg, wrap_i64, le_strLim, le_sliceLim, le_buildLim, le_sliceLimI, Int.tmod_eq_emod_of_nonneg, Int.tdiv_eq_ediv_of_nonneg, omLe, omLeN, omLt, omLtN, omEq, omEqN, onLe, onLeN, onLt, onLtN, onEq, onEqN, hg, hg', e2, h2]
        exact ⟨n + 1, by omega, by omega, by omega⟩
      · simp (config := { maxSteps := 1000000 }) (disch := omega) [-List.map_replicate, -List.map_set, -List.getD_eq_getElem?_getD, -getElem?_pos, -getElem?_neg, wrap_i64, le_strLim, le_sliceLim, le_buildLim, le_sliceLimI, Int.tmod_eq_emod_of_nonneg, Int.tdiv_eq_ediv_of_nonneg, omLe, omLeN, omLt, omLtN, omEq, omEqN, onLe, onLeN, onLt, onLtN, onEq, onEqN, hg, hg', e2, h2, h3]
    · have : C = n := by omega
      simp (config := { maxSteps := 1000000 }) (disch := omega) [-List.map_replicate, -List.map_set, -List.getD_eq_getElem?_getD, -getElem?_pos, -getElem?_neg, wrap_i64, le_strLim, le_sliceLim, le_buildLim, le_sliceLimI, Int.tmod_eq_emod_of_nonneg, Int.tdiv_eq_ediv_of_nonneg, omLe, omLeN, omLt, omLtN, omEq, omEqN, onLe, onLeN, onLt, onLtN, onEq, onEqN, this]
end
end Go.Proofs.YtibakcohkdfnoaaDoor

namespace Go.Proofs.YtibakcohkdfnoaaDoor
open Go.Am
set_option maxRecDepth 10000
set_option maxHeartbeats 4000000

/-- the path of a node -/
def pathL (l : List Nd) (i : Nat) : List Int :=
  if h : 0 ≤ pr l i then pathL l (pr l i).toNat ++ [(i : Int)] else [(i : Int)]
termination_by i
decreasing_by
  have := pr_lt l i
  omega
theorem pathL_root {l : List Nd} {i : Nat} (h : ¬ 0 ≤ pr l i) : pathL l i = [(i : Int)] := by rw [pathL, dif_neg h]
theorem pathL_step {l : List Nd} {i : Nat} (h : 0 ≤ pr l i) : pathL l i = pathL l (pr l i).toNat ++ [(i : Int)] := by rw [pathL, dif_pos h]
theorem pathL_length {l : List Nd} (v : Val l) : ∀ i, i < l.length → ((pathL l i).length : Int) = dp l i + 1 := by
  intro i
  induction i using Nat.strongRecOn with
  | _ i ih =>
    intro hi
    have hlt := pr_lt l i
    by_cases h : dp l i = 0
    · rw [pathL_root (by simp [pr, h])]
      simp [h]
    · obtain ⟨h1, h2⟩ := v.pr_nonneg hi h
      rw [pathL_step h1, List.length_append]
      have := ih (pr l i).toNat (by omega) (by omega)
      simp only [List.length_singleton]
      omega

section
variable (nl : Option Bool) (z : Nat) (l : List Nd) (hz : l ≠ [] → z = 3) (hl : ∀ n ∈ l, NdOk n) (hlen : l.length < 1000000)

include hz hl hlen
theorem ansPathP0 (i : Int) (hi : -9223372036854775808 ≤ i ∧ i < 9223372036854775808) (h0 : inside l i = false) : ansF cfg 22 [.lst nl z (l.map ndA), .int .i64 i] [] = some (.lst (some true) 0 [], []) := by
  refine ans_of_wp fn22 low22 ?_
  have hh := ansHas nl z l hz hl hlen i hi
  rw [h0] at hh
  simp (config := { maxSteps := 1000000 }) (disch := omega) [-List.map_replicate, -List.map_set, -List.getD_eq_getElem?_getD, -getElem?_pos, -getElem?_neg, wrap_i64, le_strLim, le_sliceLim, le_buildLim, le_sliceLimI, Int.tmod_eq_emod_of_nonneg, Int.tdiv_eq_ediv_of_nonneg, omLe, omLeN, omLt, omLtN, omEq, omEqN, onLe, onLeN, onLt, onLtN, onEq, onEqN, ir22, hh]

theorem ansPathP (i : Nat) (h0 : inside l i = true) : ansF cfg 22 [.lst nl z (l.map ndA), .int .i64 i] [] = some (.lst none 1 ((pathL l i).map (AV.int .i64)), []) := by
  refine ans_of_wp fn22 low22 ?_
  have h0' := h0
  simp only [inside, decide_eq_true_eq] at h0'
  obtain ⟨i0, i1, i2⟩ := h0'
  obtain ⟨v, hn⟩ := fault_val i2
  have hh := ansHas nl z l hz hl hlen i (by omega)
  rw [h0] at hh
  have i3 : i < l.length := by omega
  obtain rfl : z = 3 := hz (by rintro rfl; simp at i3)
  obtain ⟨t, u, hg⟩ := get_dp i3
  have g0 := v.ge i i3
  have g1 := v.le i i3
  obtain ⟨d, hd⟩ := Int.eq_ofNat_of_zero_le g0
  rw [hd] at hg
  have td : ((d : Int) + 1).toNat = d + 1 := by omega
  simp (config := { maxSteps := 1000000 }) (disch := omega) [-List.map_replicate, -List.map_set, -List.getD_eq_getElem?_getD, -getElem?_pos, -getElem?_neg, wrap_i64, le_strLim, le_sliceLim, le_buildLim, le_sliceLimI, Int.tmod_eq_emod_of_nonneg, Int.tdiv_eq_ediv_of_nonneg, omLe, omLeN, omLt, omLtN, omEq, omEqN, onLe, onLeN, onLt, onLtN, onEq, onEqN, ir22, hh, hg, td]
  refine Wp.loopM (fun (a : Int × List Int) => (a.1 + 1).toNat) (fun a => [some (.lst nl 3 (l.map ndA)), none, none, some (.osl 0 (d + 1)), some (.int .i64 a.1), none, none, none, none, none])
    (fun a => [.sl ⟨false, some 3⟩ 1 ((List.replicate (d + 1 - a.2.length) (AV.int .i64 0)) ++ a.2.map (AV.int .i64))])
    (fun a => -1 ≤ a.1 ∧ a.1 < l.length ∧ (a.1 = -1 → a.2 = pathL l i) ∧ (0 ≤ a.1 → pathL l a.1.toNat ++ a.2 = pathL l i)) ?_ ((i : Int), []) ⟨by simp only; omega, by simpa using i3, fun h => absurd h (by simp only; omega), by simp⟩ (by simp) (by simp)
  rintro ⟨k, suf⟩ ⟨hk1, hk2, hk3, hk4⟩
  simp only at hk1 hk2 hk3 hk4 ⊢
  have hpl := pathL_length v i i3
  by_cases h1 : 0 ≤ k
  · have hpa := hk4 h1
    obtain ⟨k, rfl⟩ := Int.eq_ofNat_of_zero_le h1
    have k3 : k < l.length := by omega
    obtain ⟨t', u', hg'⟩ := get_dp k3
    have f0 := v.ge k k3
    have f1 := v.le k k3
    have hpk := pathL_length v k k3
    simp only [Int.toNat_natCast] at hpa
    have hlen2 : (pathL l k).length + suf.length = (pathL l i).length := by rw [← hpa, List.length_append]
    obtain ⟨e, he⟩ := Int.eq_ofNat_of_zero_le f0
    rw [he] at hg'
    have hpar := ansParP nl 3 l (fun _ => rfl) hl hlen k (by omega)
    have hin : inside l k = true := by simp [inside, i2]; omega
    have hpv : parOf l k = pr l k := by simp [parOf, hin]
    rw [hpv] at hpar
    have hr1 : d + 1 - suf.length = e + 1 := by omega
    have hset : (List.replicate (e + 1) (AV.int .i64 0) ++ suf.map (AV.int .i64)).set e (AV.int .i64 k) = List.replicate e (AV.int .i64 0) ++ ((k : Int) :: suf).map (AV.int .i64) := by
      rw [List.replicate_succ', List.append_assoc, List.set_append_right _ _ (by simp)]
      simp
    have hgl : (List.replicate (e + 1) (AV.int .i64 0) ++ suf.map (AV.int .i64))[e]? = some (AV.int .i64 0) := by
      rw [List.getElem?_append_left (by simp)]
      simp
    have hll : (List.replicate (e + 1) (AV.int .i64 0) ++ suf.map (AV.int .i64)).length = d + 1 := by simp; omega
    have hfin : ∃ a : Int × List Int, (-1 ≤ a.1 ∧ a.1 < l.length ∧ (a.1 = -1 → a.2 = pathL l i) ∧ (0 ≤ a.1 → pathL l a.1.toNat ++ a.2 = pathL l i)) ∧ (a.1 + 1).toNat < ((k : Int) + 1).toNat ∧ pr l k = a.1 ∧ List.replicate e (AV.int .i64 0) ++ ((k : Int) :: suf).map (AV.int .i64) = List.replicate (d + 1 - a.2.length) (AV.int .i64 0) ++ a.2.map (AV.int .i64) := by
      have hlt := pr_lt l k
      refine ⟨(pr l k, (k : Int) :: suf), ⟨by simp only; omega, by simp only; omega, fun h => ?_, fun h => ?_⟩, by simp only; omega, rfl, ?_⟩
      · simp only at h
        rw [pathL_root (by omega)] at hpa
        simpa using hpa
      · simp only at h
        rw [pathL_step h] at hpa
        simpa using hpa
      · have : d + 1 - (suf.length + 1) = e := by omega
        simp [this]
    rw [hr1]
    generalize hL : List.replicate (e + 1) (AV.int .i64 0) ++ suf.map (AV.int .i64) = L at *
    simp (config := { maxSteps := 1000000 }) (disch := omega) [-List.map_replicate, -List.map_set, -List.getD_eq_getElem?_getD, -getElem?_pos, -getElem?_neg, wrap_i64, le_strLim, le_sliceLim, le_buildLim, le_sliceLimI, Int.tmod_eq_emod_of_nonneg, Int.tdiv_eq_ediv_of_nonneg, omLe, omLeN, omLt, omLtN, omEq, omEqN, onLe, onLeN, onLt, onLtN, onEq, onEqN, hg', hpar, hgl, hll, hset]
    obtain ⟨⟨a, b⟩, q1, q2, q3, q4⟩ := hfin
    exact ⟨a, b, q1, by simp only at q2; omega, q3, by simpa using q4⟩
  · obtain rfl : k = -1 := by omega
    have hs := hk3 rfl
    subst hs
    have : d + 1 - (pathL l i).length = 0 := by omega
    have hpl2 : (pathL l i).length = d + 1 := by omega
    simp (config := { maxSteps := 1000000 }) (disch := omega) [-List.map_replicate, -List.map_set, -List.getD_eq_getElem?_getD, -getElem?_pos, -getElem?_neg, wrap_i64, le_strLim, le_sliceLim, le_buildLim, le_sliceLimI, Int.tmod_eq_emod_of_nonneg, Int.tdiv_eq_ediv_of_nonneg, omLe, omLeN, omLt, omLtN, omEq, omEqN, onLe, onLeN, onLt, onLtN, onEq, onEqN, this, hpl2]

/-- the reference's: boxes of its own are left behind -/
theorem ansPathR (i : Nat) (h0 : inside l i = true) : ∀ bs : List Box, ∃ bs' k, ansF cfg 31 [.lst nl z (l.map ndA), .int .i64 i] bs = some (.osl (bs.length + k) (pathL l i).length, bs ++ bs') ∧ k < bs'.length ∧ Box.at bs' k = .sl ⟨false, some 3⟩ 1 ((pathL l i).map (AV.int .i64)) := by
  induction i using Nat.strongRecOn with
  | _ i ih =>
    intro bs
    have h0' := h0
    simp only [inside, decide_eq_true_eq] at h0'
    obtain ⟨i0, i1, i2⟩ := h0'
    have hh := ansIn nl z l hz hl hlen i (by omega)
    have hpar := ansParR nl z l hz hl hlen i (by omega)
    rw [h0] at hh
    have hpv : parOf l i = pr l i := by simp [parOf, h0]
    rw [hpv] at hpar
    have hlt := pr_lt l i
    by_cases h1 : 0 ≤ pr l i
    · have hp := pathL_step h1
      obtain ⟨p, hpe⟩ := Int.eq_ofNat_of_zero_le h1
      rw [hpe] at hp hpar hlt
      simp only [Int.toNat_natCast] at hp
      obtain ⟨bs', k, r1, r2, r3⟩ := ih p (by omega) (by simp [inside, i2]; omega) (bs ++ [Box.dead, Box.dead])
      obtain ⟨bs0, k0, s1, s2, s3⟩ := ih p (by omega) (by simp [inside, i2]; omega) []
      obtain ⟨x0, r0, rfl⟩ : ∃ x r, bs0 = x :: r := by cases bs0 with | nil => simp at s2 | cons x r => exact ⟨x, r, rfl⟩
      simp only [List.nil_append] at s1
      obtain ⟨X, hX⟩ : ∃ X : Box, X = .sl ⟨false, some 3⟩ 1 [.int .i64 i] := ⟨_, rfl⟩
      obtain ⟨Y, hY⟩ : ∃ Y : Box, Y = .sl ⟨false, some 3⟩ 1 ((pathL l i).map (AV.int .i64)) := ⟨_, rfl⟩
      have b0 : (bs ++ [Box.dead, Box.dead] ++ bs')[bs.length]? = some .dead := by simp
      have b1 : (bs ++ [Box.dead, Box.dead] ++ bs').set bs.length X = bs ++ X :: .dead :: bs' := by simp
      have b2 : Box.at (bs ++ X :: .dead :: bs') bs.length = X := by simp
      have b3 : Box.at (bs ++ X :: .dead :: bs') (bs.length + 2 + k) = .sl ⟨false, some 3⟩ 1 ((pathL l p).map (AV.int .i64)) := by
        have : bs.length + 2 + k = bs.length + (k + 2) := by omega
        rw [this, at_app_r]
        simpa using r3
      have b4 : (bs ++ X :: .dead :: bs').set (bs.length + 2 + k) Y = bs ++ X :: .dead :: bs'.set k Y := by
        have : bs.length + 2 + k = bs.length + (k + 2) := by omega
        rw [this, set_app_r]
        simp
      have b5 : (bs ++ [Box.dead, Box.dead]).length = bs.length + 2 := by simp
      refine ⟨X :: .dead :: bs'.set k Y, k + 2, ans_of_wp fn31 low31 ?_, by simp; omega, by simp [hY, Box.at, r2]⟩
      rw [b5] at r1
      rw [hp]
      rw [hX] at b1 b2 b3 b4 ⊢
      have hYp : Y = .sl ⟨false, some 3⟩ 1 ((pathL l p).map (AV.int .i64) ++ [.int .i64 i]) := by rw [hY, hp, List.map_append]; rfl
      rw [hYp] at b4 ⊢
      have hpl := pathL_length (fault_val i2).1 p (by omega)
      have hpd := (fault_val i2).1.le p (by omega)
      generalize bs ++ [Box.dead, Box.dead] ++ bs' = B at *
      generalize hB1 : bs ++ Box.sl ⟨false, some 3⟩ 1 [.int .i64 i] :: .dead :: bs' = B1 at *
      generalize hB2 : bs ++ Box.sl ⟨false, some 3⟩ 1 [.int .i64 i] :: .dead :: bs'.set k (.sl ⟨false, some 3⟩ 1 ((pathL l p).map (AV.int .i64) ++ [.int .i64 i])) = B2 at *
      simp (config := { maxSteps := 1000000 }) (disch := omega) [-List.map_replicate, -List.map_set, -List.getD_eq_getElem?_getD, -getElem?_pos, -getElem?_neg, wrap_i64, le_strLim, le_sliceLim, le_buildLim, le_sliceLimI, Int.tmod_eq_emod_of_nonneg, Int.tdiv_eq_ediv_of_nonneg, omLe, omLeN, omLt, omLtN, omEq, omEqN, onLe, onLeN, onLt, onLtN, onEq, onEqN, ir31, hh, hpar, s1, r1, b0, b1, b2, b3, b4]
    · rw [pathL_root h1]
      refine ⟨[.sl ⟨false, some 3⟩ 1 [.int .i64 i]], 0, ans_of_wp fn31 low31 ?_, by simp, rfl⟩
      simp (config := { maxSteps := 1000000 }) (disch := omega) [-List.map_replicate, -List.map_set, -List.getD_eq_getElem?_getD, -getElem?_pos, -getElem?_neg, wrap_i64, le_strLim, le_sliceLim, le_buildLim, le_sliceLimI, Int.tmod_eq_emod_of_nonneg, Int.tdiv_eq_ediv_of_nonneg, omLe, omLeN, omLt, omLtN, omEq, omEqN, onLe, onLeN, onLt, onLtN, onEq, onEqN, ir31, hh, hpar]
end
end Go.Proofs.YtibakcohkdfnoaaDoor
