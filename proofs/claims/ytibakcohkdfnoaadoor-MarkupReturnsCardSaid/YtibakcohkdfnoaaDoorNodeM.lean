/-
  Nodes of a document: tags, errors, sizes, equality; program and reference. Documents: the first error (program), Check, Few, Same, slices.Equal, slices.Clone. Documents: Few, Same, slices.Equal, slices.Clone.
-/
import Derived.Test.YtibakcohkdfnoaaDoorIrs
set_option linter.unusedSimpArgs false
set_option linter.unusedVariables false
namespace Go.Proofs.YtibakcohkdfnoaaDoor
open Go.Am
set_option maxRecDepth 10000
set_option maxHeartbeats 4000000

abbrev Bs := List UInt8

/-- a node -/
structure Nd where
  d : Int
  tag : Bs
  text : Bs
  deriving DecidableEq

def ndA (n : Nd) : AV := .agg [.int .i64 n.d, .str n.tag, .str n.text]
@[simp] theorem ndA_plain (n : Nd) : (ndA n).plain = true := rfl
@[simp] theorem ndA_cells (n : Nd) : (ndA n).cells = [.int .i64 n.d, .str n.tag, .str n.text] := rfl
@[simp] theorem ndA_under (n : Nd) (k : Nat) : (ndA n).under k = true := rfl
@[simp] theorem plainAll_nd (l : List Nd) : plainAll (l.map ndA) = true := plainAll_map (fun _ => rfl) l
@[simp] theorem underAll_nd (l : List Nd) (k : Nat) : underAll k (l.map ndA) = true := underAll_map (fun _ => rfl) l

def low (c : UInt8) : Bool := decide (97 ≤ c.toNat) && decide (c.toNat ≤ 122)
theorem low_true {c : UInt8} (h : low c = true) : 97 ≤ c.toNat ∧ c.toNat ≤ 122 := by simpa [low] using h
theorem low_false {c : UInt8} (h : ¬ low c = true) : c.toNat < 97 ∨ 122 < c.toNat := by simp [low] at h; omega
/-- how many letters a string begins with -/
def lets : Bs → Nat
  | [] => 0
  | c :: s => if low c = true then lets s + 1 else 0
theorem lets_le : ∀ s : Bs, lets s ≤ s.length
  | [] => Nat.le_refl _
  | c :: s => by
    simp only [lets, List.length_cons]
    have := lets_le s
    split <;> omega
theorem lets_step : ∀ (s : Bs) (n : Nat), n ≤ lets s → n < s.length → (low (s.getD n 0) = true ∧ n + 1 ≤ lets s) ∨ (¬ low (s.getD n 0) = true ∧ lets s = n)
  | [], n, _, h => by simp at h
  | c :: s, 0, _, _ => by
    simp only [lets, List.getD_cons_zero]
    split
    · exact .inl ⟨by assumption, by omega⟩
    · exact .inr ⟨by assumption, rfl⟩
  | c :: s, n + 1, h1, h2 => by
    simp only [lets] at h1 ⊢
    split at h1
    · rename_i hc
      rw [if_pos hc]
      simp only [List.getD_cons_succ]
      rcases lets_step s n (by omega) (by simpa using h2) with ⟨h3, h4⟩ | ⟨h3, h4⟩
      · exact .inl ⟨h3, by omega⟩
      · exact .inr ⟨h3, by omega⟩
    · omega
theorem lets_all : ∀ s : Bs, lets s = s.length ↔ s.all low = true
  | [] => by simp [lets]
  | c :: s => by
    have := lets_all s
    simp only [lets, List.length_cons, List.all_cons, Bool.and_eq_true]
    split
    · rename_i hc; simp only [hc, true_and]; rw [← this]; omega
    · rename_i hc
      constructor
      · intro h; omega
      · intro h; exact absurd h.1 hc

theorem ansLets (s : Bs) (hs : s.length < 1000000000) : ansF cfg 52 [.str s] [] = some (.int .i64 (lets s : Int), []) := by
  refine ans_of_wp fn52 low52 ?_
  simp (config := { maxSteps := 1000000 }) (disch := omega) [-List.map_replicate, -List.map_set, -List.getD_eq_getElem?_getD, -getElem?_pos, -getElem?_neg, wrap_i64, le_strLim, le_sliceLim, le_buildLim, le_sliceLimI, Int.tmod_eq_emod_of_nonneg, Int.tdiv_eq_ediv_of_nonneg, omLe, omLeN, omLt, omLtN, omEq, omEqN, onLe, onLeN, onLt, onLtN, onEq, onEqN, ir52]
  have hle := lets_le s
  refine Wp.loopM (fun (n : Nat) => s.length - n) (fun n => [some (.str s), none, some (.int .i64 n), none]) (fun n => []) (fun n => n ≤ lets s) ?_ 0 (by omega) (by simp) rfl
  intro n hn
  by_cases h1 : n < s.length
  · have hg := get_str h1
    rcases lets_step s n hn h1 with ⟨h2, h3⟩ | ⟨h2, h3⟩
    · have := low_true h2
      generalize s.getD n 0 = c at hg this
      simp (config := { maxSteps := 1000000 }) (disch := omega) [-List.map_replicate, -List.map_set, -List.getD_eq_getElem?_getD, -getElem?_pos, -getElem?_neg, wrap_i64, le_strLim, le_sliceLim, le_buildLim, le_sliceLimI, Int.tmod_eq_emod_of_nonneg, Int.tdiv_eq_ediv_of_nonneg, omLe, omLeN, omLt, omLtN, omEq, omEqN, onLe, onLeN, onLt, onLtN, onEq, onEqN, hg]
      exact ⟨n + 1, by omega, by omega, by omega⟩
    · have := low_false h2
      generalize s.getD n 0 = c at hg this
      have h4 : ((97 ≤ (c.toNat : Int) ∧ (c.toNat : Int) ≤ 122)) = False := eq_false (by omega)
      simp (config := { maxSteps := 1000000 }) (disch := omega) [-List.map_replicate, -List.map_set, -List.getD_eq_getElem?_getD, -getElem?_pos, -getElem?_neg, wrap_i64, le_strLim, le_sliceLim, le_buildLim, le_sliceLimI, Int.tmod_eq_emod_of_nonneg, Int.tdiv_eq_ediv_of_nonneg, omLe, omLeN, omLt, omLtN, omEq, omEqN, onLe, onLeN, onLt, onLtN, onEq, onEqN, hg, h3, h4]
  · have : lets s = n := by omega
    simp (config := { maxSteps := 1000000 }) (disch := omega) [-List.map_replicate, -List.map_set, -List.getD_eq_getElem?_getD, -getElem?_pos, -getElem?_neg, wrap_i64, le_strLim, le_sliceLim, le_buildLim, le_sliceLimI, Int.tmod_eq_emod_of_nonneg, Int.tdiv_eq_ediv_of_nonneg, omLe, omLeN, omLt, omLtN, omEq, omEqN, onLe, onLeN, onLt, onLtN, onEq, onEqN, this]

def tagOk (s : Bs) : Bool := decide (1 ≤ s.length) && decide (s.length ≤ 16) && s.all low

theorem ansTagP (s : Bs) (hs : s.length < 1000000000) : ansF cfg 53 [.str s] [] = some (.bool (tagOk s), []) := by
  refine ans_of_wp fn53 low53 ?_
  have hl := ansLets s hs
  have h2 := lets_all s
  have e : tagOk s = (decide (1 ≤ s.length ∧ s.length ≤ 16) && decide (lets s = s.length)) := by
    rw [Bool.eq_iff_iff]
    simp [tagOk, h2]
  rw [e]
  by_cases h1 : 1 ≤ s.length ∧ s.length ≤ 16
  · by_cases h3 : lets s = s.length
    · simp (config := { maxSteps := 1000000 }) (disch := omega) [-List.map_replicate, -List.map_set, -List.getD_eq_getElem?_getD, -getElem?_pos, -getElem?_neg, wrap_i64, le_strLim, le_sliceLim, le_buildLim, le_sliceLimI, Int.tmod_eq_emod_of_nonneg, Int.tdiv_eq_ediv_of_nonneg, omLe, omLeN, omLt, omLtN, omEq, omEqN, onLe, onLeN, onLt, onLtN, onEq, onEqN, ir53, hl, h1, h3]
    · simp (config := { maxSteps := 1000000 }) (disch := omega) [-List.map_replicate, -List.map_set, -List.getD_eq_getElem?_getD, -getElem?_pos, -getElem?_neg, wrap_i64, le_strLim, le_sliceLim, le_buildLim, le_sliceLimI, Int.tmod_eq_emod_of_nonneg, Int.tdiv_eq_ediv_of_nonneg, omLe, omLeN, omLt, omLtN, omEq, omEqN, onLe, onLeN, onLt, onLtN, onEq, onEqN, ir53, hl, h1, h3]
  · by_cases h4 : 1 ≤ s.length
    · simp (config := { maxSteps := 1000000 }) (disch := omega) [-List.map_replicate, -List.map_set, -List.getD_eq_getElem?_getD, -getElem?_pos, -getElem?_neg, wrap_i64, le_strLim, le_sliceLim, le_buildLim, le_sliceLimI, Int.tmod_eq_emod_of_nonneg, Int.tdiv_eq_ediv_of_nonneg, omLe, omLeN, omLt, omLtN, omEq, omEqN, onLe, onLeN, onLt, onLtN, onEq, onEqN, ir53, hl, h1]
    · simp (config := { maxSteps := 1000000 }) (disch := omega) [-List.map_replicate, -List.map_set, -List.getD_eq_getElem?_getD, -getElem?_pos, -getElem?_neg, wrap_i64, le_strLim, le_sliceLim, le_buildLim, le_sliceLimI, Int.tmod_eq_emod_of_nonneg, Int.tdiv_eq_ediv_of_nonneg, omLe, omLeN, omLt, omLtN, omEq, omEqN, onLe, onLeN, onLt, onLtN, onEq, onEqN, ir53, hl, h1]

theorem all_take_succ {s : Bs} {n : Nat} (h : n < s.length) : (s.take (n + 1)).all low = ((s.take n).all low && low (s.getD n 0)) := by
  rw [List.take_add_one, List.getElem?_eq_getElem h, List.all_append]
  simp [List.getD_eq_getElem?_getD, List.getElem?_eq_getElem h]

theorem ansTagR (s : Bs) (hs : s.length < 1000000000) : ansF cfg 66 [.str s] [] = some (.bool (tagOk s), []) := by
  refine ans_of_wp fn66 low66 ?_
  simp (config := { maxSteps := 1000000 }) (disch := omega) [-List.map_replicate, -List.map_set, -List.getD_eq_getElem?_getD, -getElem?_pos, -getElem?_neg, wrap_i64, le_strLim, le_sliceLim, le_buildLim, le_sliceLimI, Int.tmod_eq_emod_of_nonneg, Int.tdiv_eq_ediv_of_nonneg, omLe, omLeN, omLt, omLtN, omEq, omEqN, onLe, onLeN, onLt, onLtN, onEq, onEqN, ir66]
  refine Wp.loopM (fun (n : Nat) => s.length - n) (fun n => [some (.str s), none, some (.int .i64 n), none, none]) (fun n => []) (fun n => n ≤ s.length ∧ (s.take n).all low = true) ?_ 0 ⟨by omega, rfl⟩ (by simp) rfl
  rintro n ⟨hn, ha⟩
  by_cases h1 : n < s.length
  · have hg := get_str h1
    have hs1 := all_take_succ h1
    rw [ha, Bool.true_and] at hs1
    by_cases h2 : low (s.getD n 0) = true
    · have := low_true h2
      generalize s.getD n 0 = c at hg this hs1 h2
      have h4 : (((c.toNat : Int) < 97 ∨ 122 < (c.toNat : Int))) = False := eq_false (by omega)
      simp (config := { maxSteps := 1000000 }) (disch := omega) [-List.map_replicate, -List.map_set, -List.getD_eq_getElem?_getD, -getElem?_pos, -getElem?_neg, wrap_i64, le_strLim, le_sliceLim, le_buildLim, le_sliceLimI, Int.tmod_eq_emod_of_nonneg, Int.tdiv_eq_ediv_of_nonneg, omLe, omLeN, omLt, omLtN, omEq, omEqN, onLe, onLeN, onLt, onLtN, onEq, onEqN, hg, h4]
      exact ⟨n + 1, ⟨by omega, by simpa using hs1.trans h2⟩, by omega, by omega⟩
    · have := low_false h2
      have hf : tagOk s = false := by
        have : s.all low = false := by
          rw [Bool.eq_false_iff]
          intro h
          rw [List.all_eq_true] at h
          exact h2 (h _ (by rw [List.getD_eq_getElem?_getD, List.getElem?_eq_getElem h1]; simp))
        simp [tagOk, this]
      generalize s.getD n 0 = c at hg this
      have h4 : (((c.toNat : Int) < 97 ∨ 122 < (c.toNat : Int))) = True := eq_true (by omega)
      simp (config := { maxSteps := 1000000 }) (disch := omega) [-List.map_replicate, -List.map_set, -List.getD_eq_getElem?_getD, -getElem?_pos, -getElem?_neg, wrap_i64, le_strLim, le_sliceLim, le_buildLim, le_sliceLimI, Int.tmod_eq_emod_of_nonneg, Int.tdiv_eq_ediv_of_nonneg, omLe, omLeN, omLt, omLtN, omEq, omEqN, onLe, onLeN, onLt, onLtN, onEq, onEqN, hg, h4, hf]
  · obtain rfl : n = s.length := by omega
    rw [List.take_length] at ha
    have e : tagOk s = decide (1 ≤ s.length ∧ s.length ≤ 16) := by
      rw [Bool.eq_iff_iff]; simp [tagOk, ha]
    rw [e]
    by_cases h1 : 1 ≤ s.length ∧ s.length ≤ 16
    · simp (config := { maxSteps := 1000000 }) (disch := omega) [-List.map_replicate, -List.map_set, -List.getD_eq_getElem?_getD, -getElem?_pos, -getElem?_neg, wrap_i64, le_strLim, le_sliceLim, le_buildLim, le_sliceLimI, Int.tmod_eq_emod_of_nonneg, Int.tdiv_eq_ediv_of_nonneg, omLe, omLeN, omLt, omLtN, omEq, omEqN, onLe, onLeN, onLt, onLtN, onEq, onEqN, h1]
    · by_cases h4 : 1 ≤ s.length
      · simp (config := { maxSteps := 1000000 }) (disch := omega) [-List.map_replicate, -List.map_set, -List.getD_eq_getElem?_getD, -getElem?_pos, -getElem?_neg, wrap_i64, le_strLim, le_sliceLim, le_buildLim, le_sliceLimI, Int.tmod_eq_emod_of_nonneg, Int.tdiv_eq_ediv_of_nonneg, omLe, omLeN, omLt, omLtN, omEq, omEqN, onLe, onLeN, onLt, onLtN, onEq, onEqN, h1]
      · simp (config := { maxSteps := 1000000 }) (disch := omega) [-List.map_replicate, -List.map_set, -List.getD_eq_getElem?_getD, -getElem?_pos, -getElem?_neg, wrap_i64, le_strLim, le_sliceLim, le_buildLim, le_sliceLimI, Int.tmod_eq_emod_of_nonneg, Int.tdiv_eq_ediv_of_nonneg, omLe, omLeN, omLt, omLtN, omEq, omEqN, onLe, onLeN, onLt, onLtN, onEq, onEqN, h1]

/-! ### The first error -/

/-- the error of a node behind one of this depth -/
def nodeErr (before : Int) (n : Nd) : Int := if n.d < 0 ∨ n.d > before + 1 ∨ n.d > 12 then 5 else if tagOk n.tag = true then (if n.text.length > 4096 then 8 else 0) else 4
def findErr (i : Nat) (before : Int) : List Nd → Int × Int
  | [] => (-1, 0)
  | n :: l => if nodeErr before n ≠ 0 then (i, nodeErr before n) else findErr (i + 1) n.d l
def faultOf (l : List Nd) : Int × Int := if l.length > 512 then (-1, 8) else findErr 0 (-1) l

/-- what is known of a node that came in -/
def NdOk (n : Nd) : Prop := -9223372036854775808 ≤ n.d ∧ n.d < 9223372036854775808 ∧ n.tag.length < 1000000000 ∧ n.text.length < 1000000000

theorem nodeErr_zero {b : Int} {n : Nd} (h : nodeErr b n = 0) : 0 ≤ n.d ∧ n.d ≤ b + 1 ∧ n.d ≤ 12 ∧ tagOk n.tag = true ∧ n.text.length ≤ 4096 := by
  unfold nodeErr at h
  split at h
  · omega
  · split at h
    · split at h
      · omega
      · exact ⟨by omega, by omega, by omega, by assumption, by omega⟩
    · omega

theorem get_nd {l : List Nd} {i : Nat} (h : i < l.length) : (l.map ndA)[i]? = some (ndA (l[i])) := by
  rw [List.getElem?_map, List.getElem?_eq_getElem h]; rfl

def befo (l : List Nd) (i : Nat) : Int := if h : 0 < i ∧ i - 1 < l.length then (l[i - 1]'h.2).d else -1
theorem befo_zero (l : List Nd) : befo l 0 = -1 := by simp [befo]
theorem befo_succ {l : List Nd} {i : Nat} (h : i < l.length) : befo l (i + 1) = (l[i]).d := by simp [befo, h]
theorem findErr_step {l : List Nd} {i : Nat} (h : i < l.length) (b : Int) : findErr i b (l.drop i) = if nodeErr b (l[i]) ≠ 0 then ((i : Int), nodeErr b (l[i])) else findErr (i + 1) (l[i]).d (l.drop (i + 1)) := by
  rw [List.drop_eq_getElem_cons h]; rfl

theorem ansFaultR1 (n : Nd) (b : Int) (hn : NdOk n) (hb : -1 ≤ b ∧ b ≤ 12) : ansF cfg 54 [ndA n, .int .i64 b] [] = some (.int .i64 (nodeErr b n), []) := by
  refine ans_of_wp fn54 low54 ?_
  obtain ⟨h1, h2, h3, h4⟩ := hn
  have ht := ansTagR n.tag h3
  unfold nodeErr ndA
  by_cases k1 : n.d < 0 ∨ n.d > b + 1 ∨ n.d > 12
  · have k1' : ((n.d < 0 ∨ b + 1 < n.d) ∨ 12 < n.d) = True := eq_true (by omega)
    simp (config := { maxSteps := 1000000 }) (disch := omega) [-List.map_replicate, -List.map_set, -List.getD_eq_getElem?_getD, -getElem?_pos, -getElem?_neg, wrap_i64, le_strLim, le_sliceLim, le_buildLim, le_sliceLimI, Int.tmod_eq_emod_of_nonneg, Int.tdiv_eq_ediv_of_nonneg, omLe, omLeN, omLt, omLtN, omEq, omEqN, onLe, onLeN, onLt, onLtN, onEq, onEqN, ir54, k1, k1']
  · have k1' : ((n.d < 0 ∨ b + 1 < n.d) ∨ 12 < n.d) = False := eq_false (by omega)
    cases k2 : tagOk n.tag with
    | false => simp (config := { maxSteps := 1000000 }) (disch := omega) [-List.map_replicate, -List.map_set, -List.getD_eq_getElem?_getD, -getElem?_pos, -getElem?_neg, wrap_i64, le_strLim, le_sliceLim, le_buildLim, le_sliceLimI, Int.tmod_eq_emod_of_nonneg, Int.tdiv_eq_ediv_of_nonneg, omLe, omLeN, omLt, omLtN, omEq, omEqN, onLe, onLeN, onLt, onLtN, onEq, onEqN, ir54, k1, k1', ht, k2]
    | true =>
      by_cases k3 : n.text.length > 4096
      · simp (config := { maxSteps := 1000000 }) (disch := omega) [-List.map_replicate, -List.map_set, -List.getD_eq_getElem?_getD, -getElem?_pos, -getElem?_neg, wrap_i64, le_strLim, le_sliceLim, le_buildLim, le_sliceLimI, Int.tmod_eq_emod_of_nonneg, Int.tdiv_eq_ediv_of_nonneg, omLe, omLeN, omLt, omLtN, omEq, omEqN, onLe, onLeN, onLt, onLtN, onEq, onEqN, ir54, k1, k1', ht, k2, k3]
      · simp (config := { maxSteps := 1000000 }) (disch := omega) [-List.map_replicate, -List.map_set, -List.getD_eq_getElem?_getD, -getElem?_pos, -getElem?_neg, wrap_i64, le_strLim, le_sliceLim, le_buildLim, le_sliceLimI, Int.tmod_eq_emod_of_nonneg, Int.tdiv_eq_ediv_of_nonneg, omLe, omLeN, omLt, omLtN, omEq, omEqN, onLe, onLeN, onLt, onLtN, onEq, onEqN, ir54, k1, k1', ht, k2, k3]

theorem ansFind (nl : Option Bool) (z : Nat) (l : List Nd) (hz : l ≠ [] → z = 3) (hl : ∀ n ∈ l, NdOk n) (hlen : l.length < 1000000000) : ansF cfg 37 [.lst nl z (l.map ndA)] [] = some (.tup [.int .i64 (faultOf l).1, .int .i64 (faultOf l).2], []) := by
  refine ans_of_wp fn37 low37 ?_
  unfold faultOf
  by_cases h0 : l.length > 512
  · simp (config := { maxSteps := 1000000 }) (disch := omega) [-List.map_replicate, -List.map_set, -List.getD_eq_getElem?_getD, -getElem?_pos, -getElem?_neg, wrap_i64, le_strLim, le_sliceLim, le_buildLim, le_sliceLimI, Int.tmod_eq_emod_of_nonneg, Int.tdiv_eq_ediv_of_nonneg, omLe, omLeN, omLt, omLtN, omEq, omEqN, onLe, onLeN, onLt, onLtN, onEq, onEqN, ir37, h0]
  simp (config := { maxSteps := 1000000 }) (disch := omega) [-List.map_replicate, -List.map_set, -List.getD_eq_getElem?_getD, -getElem?_pos, -getElem?_neg, wrap_i64, le_strLim, le_sliceLim, le_buildLim, le_sliceLimI, Int.tmod_eq_emod_of_nonneg, Int.tdiv_eq_ediv_of_nonneg, omLe, omLeN, omLt, omLtN, omEq, omEqN, onLe, onLeN, onLt, onLtN, onEq, onEqN, ir37, h0]
  refine Wp.loopM (fun (i : Nat) => l.length - i) (fun i => [some (.lst nl z (l.map ndA)), none, none, some (.int .i64 (befo l i)), some (.int .i64 i), none, none, none, none, none]) (fun i => [])
    (fun i => i ≤ l.length ∧ -1 ≤ befo l i ∧ befo l i ≤ 12 ∧ findErr i (befo l i) (l.drop i) = findErr 0 (-1) l) ?_ 0 ⟨by omega, by simp [befo_zero], by simp [befo_zero], by simp [befo_zero]⟩ (by simp [befo_zero]) rfl
  rintro i ⟨hi, hb1, hb2, hf⟩
  by_cases h1 : i < l.length
  · have hg := get_nd h1
    obtain rfl : z = 3 := hz (by intro h; rw [h] at h1; simp at h1)
    rw [findErr_step h1] at hf
    have hn := hl _ (List.getElem_mem h1)
    have he := ansFaultR1 (l[i]) (befo l i) hn ⟨hb1, hb2⟩
    have hs := befo_succ h1
    unfold ndA at he
    by_cases h2 : nodeErr (befo l i) (l[i]) = 0
    · have hz0 := nodeErr_zero h2
      rw [if_neg (by simp [h2])] at hf
      simp (config := { maxSteps := 1000000 }) (disch := omega) [-List.map_replicate, -List.map_set, -List.getD_eq_getElem?_getD, -getElem?_pos, -getElem?_neg, wrap_i64, le_strLim, le_sliceLim, le_buildLim, le_sliceLimI, Int.tmod_eq_emod_of_nonneg, Int.tdiv_eq_ediv_of_nonneg, omLe, omLeN, omLt, omLtN, omEq, omEqN, onLe, onLeN, onLt, onLtN, onEq, onEqN, hg, he, h2, ndA]
      exact ⟨i + 1, ⟨by omega, by omega, by omega, by rw [hs]; exact hf⟩, by omega, by simp [hs]⟩
    · rw [if_pos (by simpa using h2)] at hf
      rw [← hf]
      simp (config := { maxSteps := 1000000 }) (disch := omega) [-List.map_replicate, -List.map_set, -List.getD_eq_getElem?_getD, -getElem?_pos, -getElem?_neg, wrap_i64, le_strLim, le_sliceLim, le_buildLim, le_sliceLimI, Int.tmod_eq_emod_of_nonneg, Int.tdiv_eq_ediv_of_nonneg, omLe, omLeN, omLt, omLtN, omEq, omEqN, onLe, onLeN, onLt, onLtN, onEq, onEqN, hg, he, h2, ndA]
  · obtain rfl : i = l.length := by omega
    rw [List.drop_length] at hf
    rw [← hf]
    simp (config := { maxSteps := 1000000 }) (disch := omega) [-List.map_replicate, -List.map_set, -List.getD_eq_getElem?_getD, -getElem?_pos, -getElem?_neg, wrap_i64, le_strLim, le_sliceLim, le_buildLim, le_sliceLimI, Int.tmod_eq_emod_of_nonneg, Int.tdiv_eq_ediv_of_nonneg, omLe, omLeN, omLt, omLtN, omEq, omEqN, onLe, onLeN, onLt, onLtN, onEq, onEqN, findErr]
end Go.Proofs.YtibakcohkdfnoaaDoor

namespace Go.Proofs.YtibakcohkdfnoaaDoor
open Go.Am
set_option maxRecDepth 10000
set_option maxHeartbeats 4000000

theorem ansFault (nl : Option Bool) (z : Nat) (l : List Nd) (hz : l ≠ [] → z = 3) (hl : ∀ n ∈ l, NdOk n) (hlen : l.length < 1000000000) : ansF cfg 35 [.lst nl z (l.map ndA)] [] = some (.tup [.int .i64 (faultOf l).1, .int .i64 (faultOf l).2], []) := by
  refine ans_of_wp fn35 low35 ?_
  unfold faultOf
  by_cases h0 : l.length > 512
  · simp (config := { maxSteps := 1000000 }) (disch := omega) [-List.map_replicate, -List.map_set, -List.getD_eq_getElem?_getD, -getElem?_pos, -getElem?_neg, wrap_i64, le_strLim, le_sliceLim, le_buildLim, le_sliceLimI, Int.tmod_eq_emod_of_nonneg, Int.tdiv_eq_ediv_of_nonneg, omLe, omLeN, omLt, omLtN, omEq, omEqN, onLe, onLeN, onLt, onLtN, onEq, onEqN, ir35, h0]
  simp (config := { maxSteps := 1000000 }) (disch := omega) [-List.map_replicate, -List.map_set, -List.getD_eq_getElem?_getD, -getElem?_pos, -getElem?_neg, wrap_i64, le_strLim, le_sliceLim, le_buildLim, le_sliceLimI, Int.tmod_eq_emod_of_nonneg, Int.tdiv_eq_ediv_of_nonneg, omLe, omLeN, omLt, omLtN, omEq, omEqN, onLe, onLeN, onLt, onLtN, onEq, onEqN, ir35, h0]
  refine Wp.loopM (fun (i : Nat) => l.length - i) (fun i => [some (.lst nl z (l.map ndA)), none, none, none, none, none, none, some (.lst nl z (l.map ndA)), some (.int .i64 l.length), some (.int .i64 i), none, none, none, none, none, none, none, none]) (fun i => [])
    (fun i => i ≤ l.length ∧ -1 ≤ befo l i ∧ befo l i ≤ 12 ∧ findErr i (befo l i) (l.drop i) = findErr 0 (-1) l) ?_ 0 ⟨by omega, by simp [befo_zero], by simp [befo_zero], by simp [befo_zero]⟩ (by simp) rfl
  rintro i ⟨hi, hb1, hb2, hf⟩
  by_cases h1 : i < l.length
  · have hg : l[i]? = some l[i] := List.getElem?_eq_getElem h1
    obtain rfl : z = 3 := hz (by intro h; rw [h] at h1; simp at h1)
    rw [findErr_step h1] at hf
    have hs := befo_succ h1
    obtain ⟨n1, n2, n3, n4⟩ := hl _ (List.getElem_mem h1)
    have ht := ansTagP (l[i]).tag n3
    -- the depth that may be
    have hm : i = 0 ∨ (0 < i ∧ ∃ t u, l[i - 1]? = some ⟨befo l i, t, u⟩) := by
      rcases Nat.eq_zero_or_pos i with h | h
      · exact .inl h
      · refine .inr ⟨h, (l[i - 1]'(by omega)).tag, (l[i - 1]'(by omega)).text, ?_⟩
        rw [List.getElem?_eq_getElem (show i - 1 < l.length by omega)]
        simp [befo, h, show i - 1 < l.length by omega]
    have hp : nodeErr (befo l i) (l[i]) = if (l[i]).d < 0 ∨ (l[i]).d > min (befo l i + 1) 12 then 5 else if tagOk (l[i]).tag = true then (if (l[i]).text.length > 4096 then 8 else 0) else 4 := by
      unfold nodeErr
      congr 1
      apply propext
      omega
    have fin0 : nodeErr (befo l i) (l[i]) = 0 → ∃ a', (a' ≤ l.length ∧ -1 ≤ befo l a' ∧ befo l a' ≤ 12 ∧ findErr a' (befo l a') (l.drop a') = findErr 0 (-1) l) ∧ l.length - a' < l.length - i ∧ (i : Int) + 1 = a' := fun h2 => by
      have hz0 := nodeErr_zero h2
      rw [if_neg (by simp [h2])] at hf
      exact ⟨i + 1, ⟨by omega, by omega, by omega, by rw [hs]; exact hf⟩, by omega, by omega⟩
    have fin1 : nodeErr (befo l i) (l[i]) ≠ 0 → findErr 0 (-1) l = ((i : Int), nodeErr (befo l i) (l[i])) := fun h2 => by
      rw [if_pos h2] at hf
      exact hf.symm
    generalize hn : l[i] = n at *
    obtain ⟨d, tag, text⟩ := n
    simp only at n1 n2 n3 n4 ht hp
    rcases hm with rfl | ⟨hpos, t0, u0, hg1⟩
    · have hb : befo l 0 = -1 := befo_zero l
      rw [hb] at hp fin0 fin1
      by_cases k1 : d < 0 ∨ d > 0
      · have k1' : (d < 0 ∨ 0 < d) = True := eq_true (by omega)
        have e := fin1 (by rw [hp, if_pos (by omega)]; decide)
        rw [hp, if_pos (by omega)] at e
        simp (config := { maxSteps := 1000000 }) (disch := omega) [-List.map_replicate, -List.map_set, -List.getD_eq_getElem?_getD, -getElem?_pos, -getElem?_neg, wrap_i64, le_strLim, le_sliceLim, le_buildLim, le_sliceLimI, Int.tmod_eq_emod_of_nonneg, Int.tdiv_eq_ediv_of_nonneg, omLe, omLeN, omLt, omLtN, omEq, omEqN, onLe, onLeN, onLt, onLtN, onEq, onEqN, hg, k1', e, splice]
      · have k1' : (d < 0 ∨ 0 < d) = False := eq_false (by omega)
        cases k2 : tagOk tag with
        | false =>
          have e := fin1 (by rw [hp, if_neg (by omega), k2]; simp)
          rw [hp, if_neg (by omega), k2, if_neg (by simp)] at e
          simp (config := { maxSteps := 1000000 }) (disch := omega) [-List.map_replicate, -List.map_set, -List.getD_eq_getElem?_getD, -getElem?_pos, -getElem?_neg, wrap_i64, le_strLim, le_sliceLim, le_buildLim, le_sliceLimI, Int.tmod_eq_emod_of_nonneg, Int.tdiv_eq_ediv_of_nonneg, omLe, omLeN, omLt, omLtN, omEq, omEqN, onLe, onLeN, onLt, onLtN, onEq, onEqN, hg, k1', ht, k2, e, splice]
        | true =>
          by_cases k3 : text.length > 4096
          · have e := fin1 (by rw [hp, if_neg (by omega), k2, if_pos rfl, if_pos k3]; decide)
            rw [hp, if_neg (by omega), k2, if_pos rfl, if_pos k3] at e
            simp (config := { maxSteps := 1000000 }) (disch := omega) [-List.map_replicate, -List.map_set, -List.getD_eq_getElem?_getD, -getElem?_pos, -getElem?_neg, wrap_i64, le_strLim, le_sliceLim, le_buildLim, le_sliceLimI, Int.tmod_eq_emod_of_nonneg, Int.tdiv_eq_ediv_of_nonneg, omLe, omLeN, omLt, omLtN, omEq, omEqN, onLe, onLeN, onLt, onLtN, onEq, onEqN, hg, k1', ht, k2, k3, e, splice]
          · have e := fin0 (by rw [hp, if_neg (by omega), k2, if_pos rfl, if_neg k3])
            simp (config := { maxSteps := 1000000 }) (disch := omega) [-List.map_replicate, -List.map_set, -List.getD_eq_getElem?_getD, -getElem?_pos, -getElem?_neg, wrap_i64, le_strLim, le_sliceLim, le_buildLim, le_sliceLimI, Int.tmod_eq_emod_of_nonneg, Int.tdiv_eq_ediv_of_nonneg, omLe, omLeN, omLt, omLtN, omEq, omEqN, onLe, onLeN, onLt, onLtN, onEq, onEqN, hg, k1', ht, k2, k3, splice]
            exact e
    · have t1 : ((i : Int) - 1).toNat = i - 1 := by omega
      generalize befo l i = bb at *
      by_cases k1 : d < 0 ∨ d > min (bb + 1) 12
      · have k1' : (d < 0 ∨ (if 12 < bb + 1 then (12 : Int) else bb + 1) < d) = True := eq_true (by split <;> omega)
        have e := fin1 (by rw [hp, if_pos k1]; decide)
        rw [hp, if_pos k1] at e
        simp (config := { maxSteps := 1000000 }) (disch := omega) [-List.map_replicate, -List.map_set, -List.getD_eq_getElem?_getD, -getElem?_pos, -getElem?_neg, wrap_i64, le_strLim, le_sliceLim, le_buildLim, le_sliceLimI, Int.tmod_eq_emod_of_nonneg, Int.tdiv_eq_ediv_of_nonneg, omLe, omLeN, omLt, omLtN, omEq, omEqN, onLe, onLeN, onLt, onLtN, onEq, onEqN, hg, hg1, t1, k1', e, splice]
      · have k1' : (d < 0 ∨ min (bb + 1) 12 < d) = False := eq_false (by omega)
        cases k2 : tagOk tag with
        | false =>
          have e := fin1 (by rw [hp, if_neg k1, k2]; simp)
          rw [hp, if_neg k1, k2, if_neg (by simp)] at e
          simp (config := { maxSteps := 1000000 }) (disch := omega) [-List.map_replicate, -List.map_set, -List.getD_eq_getElem?_getD, -getElem?_pos, -getElem?_neg, wrap_i64, le_strLim, le_sliceLim, le_buildLim, le_sliceLimI, Int.tmod_eq_emod_of_nonneg, Int.tdiv_eq_ediv_of_nonneg, omLe, omLeN, omLt, omLtN, omEq, omEqN, onLe, onLeN, onLt, onLtN, onEq, onEqN, hg, hg1, t1, k1', ht, k2, e, splice]
        | true =>
          by_cases k3 : text.length > 4096
          · have e := fin1 (by rw [hp, if_neg k1, k2, if_pos rfl, if_pos k3]; decide)
            rw [hp, if_neg k1, k2, if_pos rfl, if_pos k3] at e
            simp (config := { maxSteps := 1000000 }) (disch := omega) [-List.map_replicate, -List.map_set, -List.getD_eq_getElem?_getD, -getElem?_pos, -getElem?_neg, wrap_i64, le_strLim, le_sliceLim, le_buildLim, le_sliceLimI, Int.tmod_eq_emod_of_nonneg, Int.tdiv_eq_ediv_of_nonneg, omLe, omLeN, omLt, omLtN, omEq, omEqN, onLe, onLeN, onLt, onLtN, onEq, onEqN, hg, hg1, t1, k1', ht, k2, k3, e, splice]
          · have e := fin0 (by rw [hp, if_neg k1, k2, if_pos rfl, if_neg k3])
            simp (config := { maxSteps := 1000000 }) (disch := omega) [-List.map_replicate, -List.map_set, -List.getD_eq_getElem?_getD, -getElem?_pos, -getElem?_neg, wrap_i64, le_strLim, le_sliceLim, le_buildLim, le_sliceLimI, Int.tmod_eq_emod_of_nonneg, Int.tdiv_eq_ediv_of_nonneg, omLe, omLeN, omLt, omLtN, omEq, omEqN, onLe, onLeN, onLt, onLtN, onEq, onEqN, hg, hg1, t1, k1', ht, k2, k3, splice]
            exact e
  · obtain rfl : i = l.length := by omega
    rw [List.drop_length] at hf
    rw [← hf]
    simp (config := { maxSteps := 1000000 }) (disch := omega) [-List.map_replicate, -List.map_set, -List.getD_eq_getElem?_getD, -getElem?_pos, -getElem?_neg, wrap_i64, le_strLim, le_sliceLim, le_buildLim, le_sliceLimI, Int.tmod_eq_emod_of_nonneg, Int.tdiv_eq_ediv_of_nonneg, omLe, omLeN, omLt, omLtN, omEq, omEqN, onLe, onLeN, onLt, onLtN, onEq, onEqN, findErr]

theorem ansCheckP (nl : Option Bool) (z : Nat) (l : List Nd) (hz : l ≠ [] → z = 3) (hl : ∀ n ∈ l, NdOk n) (hlen : l.length < 1000000000) : ansF cfg 21 [.lst nl z (l.map ndA)] [] = some (.int .i64 (faultOf l).2, []) := by
  refine ans_of_wp fn21 low21 ?_
  have h := ansFault nl z l hz hl hlen
  simp (config := { maxSteps := 1000000 }) (disch := omega) [-List.map_replicate, -List.map_set, -List.getD_eq_getElem?_getD, -getElem?_pos, -getElem?_neg, wrap_i64, le_strLim, le_sliceLim, le_buildLim, le_sliceLimI, Int.tmod_eq_emod_of_nonneg, Int.tdiv_eq_ediv_of_nonneg, omLe, omLeN, omLt, omLtN, omEq, omEqN, onLe, onLeN, onLt, onLtN, onEq, onEqN, ir21, h]
theorem ansCheckR (nl : Option Bool) (z : Nat) (l : List Nd) (hz : l ≠ [] → z = 3) (hl : ∀ n ∈ l, NdOk n) (hlen : l.length < 1000000000) : ansF cfg 28 [.lst nl z (l.map ndA)] [] = some (.int .i64 (faultOf l).2, []) := by
  refine ans_of_wp fn28 low28 ?_
  have h := ansFind nl z l hz hl hlen
  simp (config := { maxSteps := 1000000 }) (disch := omega) [-List.map_replicate, -List.map_set, -List.getD_eq_getElem?_getD, -getElem?_pos, -getElem?_neg, wrap_i64, le_strLim, le_sliceLim, le_buildLim, le_sliceLimI, Int.tmod_eq_emod_of_nonneg, Int.tdiv_eq_ediv_of_nonneg, omLe, omLeN, omLt, omLtN, omEq, omEqN, onLe, onLeN, onLt, onLtN, onEq, onEqN, ir28, h]
end Go.Proofs.YtibakcohkdfnoaaDoor

namespace Go.Proofs.YtibakcohkdfnoaaDoor
open Go.Am
set_option maxRecDepth 10000
set_option maxHeartbeats 4000000

/-- is a document small enough for the statements? -/
def few1 (len : Nat) (n : Nd) : Bool := !(decide (n.tag.length > 40) || (decide (n.text.length > 200) && decide (n.text.length ≤ 4096)) || decide (n.text.length > 4098) || (decide (len > 20) && decide (n.text.length > 20)))
def fewOf (l : List Nd) : Bool := !((decide (l.length > 20) && decide (l.length ≤ 512)) || decide (l.length > 514)) && l.all (few1 l.length)

theorem ansFew (nl : Option Bool) (z : Nat) (l : List Nd) (hz : l ≠ [] → z = 3) (hlen : l.length < 9223372036854775808) : ansF cfg 20 [.lst nl z (l.map ndA)] [] = some (.bool (fewOf l), []) := by
  refine ans_of_wp fn20 low20 ?_
  by_cases h0 : (20 < l.length ∧ l.length ≤ 512) ∨ 514 < l.length
  · have e : fewOf l = false := by simp only [fewOf, Bool.and_eq_false_iff]; left; simp; omega
    have h0' : ((20 < (l.length : Int) ∧ (l.length : Int) ≤ 512) ∨ 514 < (l.length : Int)) = True := eq_true (by omega)
    simp (config := { maxSteps := 1000000 }) (disch := omega) [-List.map_replicate, -List.map_set, -List.getD_eq_getElem?_getD, -getElem?_pos, -getElem?_neg, wrap_i64, le_strLim, le_sliceLim, le_buildLim, le_sliceLimI, Int.tmod_eq_emod_of_nonneg, Int.tdiv_eq_ediv_of_nonneg, ir20, e, h0']
  have h0' : ((20 < (l.length : Int) ∧ (l.length : Int) ≤ 512) ∨ 514 < (l.length : Int)) = False := eq_false (by omega)
  have e : fewOf l = l.all (few1 l.length) := by
    have : (!((decide (l.length > 20) && decide (l.length ≤ 512)) || decide (l.length > 514))) = true := by simp; omega
    simp only [fewOf, this, Bool.true_and]
  rw [e]
  simp (config := { maxSteps := 1000000 }) (disch := omega) [-List.map_replicate, -List.map_set, -List.getD_eq_getElem?_getD, -getElem?_pos, -getElem?_neg, wrap_i64, le_strLim, le_sliceLim, le_buildLim, le_sliceLimI, Int.tmod_eq_emod_of_nonneg, Int.tdiv_eq_ediv_of_nonneg, ir20, h0']
  refine Wp.loopM (fun (i : Nat) => l.length - i) (fun i => [some (.lst nl z (l.map ndA)), none, some (.int .i64 i), none, none, none]) (fun i => []) (fun i => i ≤ l.length ∧ l.all (few1 l.length) = (l.drop i).all (few1 l.length)) ?_ 0 ⟨by omega, by simp⟩ (by simp) rfl
  rintro i ⟨hi, ha⟩
  by_cases h1 : i < l.length
  · have hg : l[i]? = some l[i] := List.getElem?_eq_getElem h1
    have h1' : (i : Int) < l.length := by omega
    obtain rfl : z = 3 := hz (by intro h; rw [h] at h1; simp at h1)
    rw [List.drop_eq_getElem_cons h1, List.all_cons] at ha
    rw [ha]
    have nx : ∃ a', (a' ≤ l.length ∧ (l.drop (i + 1)).all (few1 l.length) = (l.drop a').all (few1 l.length)) ∧ l.length - a' < l.length - i ∧ (i : Int) + 1 = a' := ⟨i + 1, ⟨by omega, rfl⟩, by omega, by omega⟩
    have hx : few1 l.length l[i] = !(decide (l[i].tag.length > 40) || (decide (l[i].text.length > 200) && decide (l[i].text.length ≤ 4096)) || decide (l[i].text.length > 4098) || (decide (l.length > 20) && decide (l[i].text.length > 20))) := rfl
    generalize (l.drop (i + 1)).all (few1 l.length) = rest at *
    generalize l[i] = n at *
    obtain ⟨d, tag, text⟩ := n
    simp only at hx
    by_cases k : ((40 < tag.length ∨ (200 < text.length ∧ text.length ≤ 4096)) ∨ 4098 < text.length) ∨ (20 < l.length ∧ 20 < text.length)
    · have k' : (((40 < (tag.length : Int) ∨ (200 < (text.length : Int) ∧ (text.length : Int) ≤ 4096)) ∨ 4098 < (text.length : Int)) ∨ (20 < (l.length : Int) ∧ 20 < (text.length : Int))) = True := eq_true (by omega)
      have hf : few1 l.length ⟨d, tag, text⟩ = false := by rw [hx]; simp; omega
      simp (config := { maxSteps := 1000000 }) (disch := omega) [-List.map_replicate, -List.map_set, -List.getD_eq_getElem?_getD, -getElem?_pos, -getElem?_neg, wrap_i64, le_strLim, le_sliceLim, le_buildLim, le_sliceLimI, Int.tmod_eq_emod_of_nonneg, Int.tdiv_eq_ediv_of_nonneg, hg, h1', k', hf]
    · have k' : (((40 < (tag.length : Int) ∨ (200 < (text.length : Int) ∧ (text.length : Int) ≤ 4096)) ∨ 4098 < (text.length : Int)) ∨ (20 < (l.length : Int) ∧ 20 < (text.length : Int))) = False := eq_false (by omega)
      have hf : few1 l.length ⟨d, tag, text⟩ = true := by rw [hx]; simp; omega
      rw [hf, Bool.true_and]
      simp (config := { maxSteps := 1000000 }) (disch := omega) [-List.map_replicate, -List.map_set, -List.getD_eq_getElem?_getD, -getElem?_pos, -getElem?_neg, wrap_i64, le_strLim, le_sliceLim, le_buildLim, le_sliceLimI, Int.tmod_eq_emod_of_nonneg, Int.tdiv_eq_ediv_of_nonneg, hg, h1', k']
      simpa using nx
  · obtain rfl : i = l.length := by omega
    rw [List.drop_length] at ha
    rw [ha]
    simp (config := { maxSteps := 1000000 }) (disch := omega) [-List.map_replicate, -List.map_set, -List.getD_eq_getElem?_getD, -getElem?_pos, -getElem?_neg, wrap_i64, le_strLim, le_sliceLim, le_buildLim, le_sliceLimI, Int.tmod_eq_emod_of_nonneg, Int.tdiv_eq_ediv_of_nonneg, omLe, omLeN, omLt, omLtN, omEq, omEqN, onLe, onLeN, onLt, onLtN, onEq, onEqN]

/-! ### Equality -/

theorem eq_nd (a b : Nd) : (a.d == b.d && (a.tag == b.tag && a.text == b.text)) = decide (a = b) := by
  obtain ⟨d, t, u⟩ := a
  obtain ⟨d', t', u'⟩ := b
  rw [Bool.eq_iff_iff]
  simp

theorem ansSame (nl nl' : Option Bool) (z z' : Nat) (l m : List Nd) (hz : l ≠ [] → z = 3) (hz' : m ≠ [] → z' = 3) (hlen : l.length < 1000000000) (hlen' : m.length < 1000000000) :
    ansF cfg 14 [.lst nl z (l.map ndA), .lst nl' z' (m.map ndA)] [] = some (.bool (decide (l = m)), []) := by
  refine ans_of_wp fn14 low14 ?_
  by_cases h0 : l.length = m.length
  · simp (config := { maxSteps := 1000000 }) (disch := omega) [-List.map_replicate, -List.map_set, -List.getD_eq_getElem?_getD, -getElem?_pos, -getElem?_neg, wrap_i64, le_strLim, le_sliceLim, le_buildLim, le_sliceLimI, Int.tmod_eq_emod_of_nonneg, Int.tdiv_eq_ediv_of_nonneg, omLe, omLeN, omLt, omLtN, omEq, omEqN, onLe, onLeN, onLt, onLtN, onEq, onEqN, ir14, h0]
    refine Wp.loopM (fun (i : Nat) => l.length - i) (fun i => [some (.lst nl z (l.map ndA)), some (.lst nl' z' (m.map ndA)), none, some (.int .i64 i), none, none, none]) (fun i => []) (fun i => i ≤ l.length ∧ l.take i = m.take i) ?_ 0 ⟨by omega, by simp⟩ (by simp) rfl
    rintro i ⟨hi, ha⟩
    by_cases h1 : i < l.length
    · have hg : l[i]? = some l[i] := List.getElem?_eq_getElem h1
      have h1m : i < m.length := by omega
      have hg' : m[i]? = some m[i] := List.getElem?_eq_getElem h1m
      obtain rfl : z = 3 := hz (by intro h; rw [h] at h1; simp at h1)
      obtain rfl : z' = 3 := hz' (by intro h; rw [h] at h1m; simp at h1m)
      have he := eq_nd l[i] m[i]
      by_cases k : l[i] = m[i]
      · have nx : l.take (i + 1) = m.take (i + 1) := by rw [List.take_add_one, List.take_add_one, ha, hg, hg', k]
        rw [decide_eq_true k] at he
        generalize l[i] = n at *
        obtain ⟨d, tag, text⟩ := n
        generalize m[i] = n at *
        obtain ⟨d', tag', text'⟩ := n
        cases k
        simp (config := { maxSteps := 1000000 }) (disch := omega) [-List.map_replicate, -List.map_set, -List.getD_eq_getElem?_getD, -getElem?_pos, -getElem?_neg, wrap_i64, le_strLim, le_sliceLim, le_buildLim, le_sliceLimI, Int.tmod_eq_emod_of_nonneg, Int.tdiv_eq_ediv_of_nonneg, omLe, omLeN, omLt, omLtN, omEq, omEqN, onLe, onLeN, onLt, onLtN, onEq, onEqN, hg, hg']
        exact ⟨i + 1, ⟨by omega, nx⟩, by omega, by omega⟩
      · have hf : l ≠ m := by rintro rfl; exact k rfl
        rw [decide_eq_false k] at he
        generalize l[i] = n at *
        obtain ⟨d, tag, text⟩ := n
        generalize m[i] = n at *
        obtain ⟨d', tag', text'⟩ := n
        simp only at he
        have he' : (!(d == d' && (tag == tag' && text == text'))) = true := by rw [he]; rfl
        simp (config := { maxSteps := 1000000 }) (disch := omega) [-List.map_replicate, -List.map_set, -List.getD_eq_getElem?_getD, -getElem?_pos, -getElem?_neg, wrap_i64, le_strLim, le_sliceLim, le_buildLim, le_sliceLimI, Int.tmod_eq_emod_of_nonneg, Int.tdiv_eq_ediv_of_nonneg, omLe, omLeN, omLt, omLtN, omEq, omEqN, onLe, onLeN, onLt, onLtN, onEq, onEqN, hg, hg', hf, he, he']
    · obtain rfl : i = l.length := by omega
      have : l = m := by rw [List.take_length] at ha; rw [ha, h0, List.take_length]
      subst this
      simp (config := { maxSteps := 1000000 }) (disch := omega) [-List.map_replicate, -List.map_set, -List.getD_eq_getElem?_getD, -getElem?_pos, -getElem?_neg, wrap_i64, le_strLim, le_sliceLim, le_buildLim, le_sliceLimI, Int.tmod_eq_emod_of_nonneg, Int.tdiv_eq_ediv_of_nonneg, omLe, omLeN, omLt, omLtN, omEq, omEqN, onLe, onLeN, onLt, onLtN, onEq, onEqN]
  · have hf : l ≠ m := by rintro rfl; exact h0 rfl
    simp (config := { maxSteps := 1000000 }) (disch := omega) [-List.map_replicate, -List.map_set, -List.getD_eq_getElem?_getD, -getElem?_pos, -getElem?_neg, wrap_i64, le_strLim, le_sliceLim, le_buildLim, le_sliceLimI, Int.tmod_eq_emod_of_nonneg, Int.tdiv_eq_ediv_of_nonneg, omLe, omLeN, omLt, omLtN, omEq, omEqN, onLe, onLeN, onLt, onLtN, onEq, onEqN, ir14, h0, hf]
theorem ansEqN (nl nl' : Option Bool) (z z' : Nat) (l m : List Nd) (hz : l ≠ [] → z = 3) (hz' : m ≠ [] → z' = 3) (hlen : l.length < 1000000000) (hlen' : m.length < 1000000000) :
    ansF cfg 32 [.lst nl z (l.map ndA), .lst nl' z' (m.map ndA)] [] = some (.bool (decide (l = m)), []) := by
  refine ans_of_wp fn32 low32 ?_
  by_cases h0 : l.length = m.length
  · simp (config := { maxSteps := 1000000 }) (disch := omega) [-List.map_replicate, -List.map_set, -List.getD_eq_getElem?_getD, -getElem?_pos, -getElem?_neg, wrap_i64, le_strLim, le_sliceLim, le_buildLim, le_sliceLimI, Int.tmod_eq_emod_of_nonneg, Int.tdiv_eq_ediv_of_nonneg, omLe, omLeN, omLt, omLtN, omEq, omEqN, onLe, onLeN, onLt, onLtN, onEq, onEqN, ir32, h0]
    refine Wp.loopM (fun (i : Nat) => l.length - i) (fun i => [some (.lst nl z (l.map ndA)), some (.lst nl' z' (m.map ndA)), none, none, none, some (.int .i64 m.length), some (.int .i64 i), none, none]) (fun i => []) (fun i => i ≤ l.length ∧ l.take i = m.take i) ?_ 0 ⟨by omega, by simp⟩ (by simp) rfl
    rintro i ⟨hi, ha⟩
    by_cases h1 : i < l.length
    · have hg : l[i]? = some l[i] := List.getElem?_eq_getElem h1
      have h1m : i < m.length := by omega
      have hg' : m[i]? = some m[i] := List.getElem?_eq_getElem h1m
      obtain rfl : z = 3 := hz (by intro h; rw [h] at h1; simp at h1)
      obtain rfl : z' = 3 := hz' (by intro h; rw [h] at h1m; simp at h1m)
      have he := eq_nd l[i] m[i]
      by_cases k : l[i] = m[i]
      · have nx : l.take (i + 1) = m.take (i + 1) := by rw [List.take_add_one, List.take_add_one, ha, hg, hg', k]
        rw [decide_eq_true k] at he
        generalize l[i] = n at *
        obtain ⟨d, tag, text⟩ := n
        generalize m[i] = n at *
        obtain ⟨d', tag', text'⟩ := n
        cases k
        simp (config := { maxSteps := 1000000 }) (disch := omega) [-List.map_replicate, -List.map_set, -List.getD_eq_getElem?_getD, -getElem?_pos, -getElem?_neg, wrap_i64, le_strLim, le_sliceLim, le_buildLim, le_sliceLimI, Int.tmod_eq_emod_of_nonneg, Int.tdiv_eq_ediv_of_nonneg, omLe, omLeN, omLt, omLtN, omEq, omEqN, onLe, onLeN, onLt, onLtN, onEq, onEqN, hg, hg']
        exact ⟨i + 1, ⟨by omega, nx⟩, by omega, by omega⟩
      · have hf : l ≠ m := by rintro rfl; exact k rfl
        rw [decide_eq_false k] at he
        generalize l[i] = n at *
        obtain ⟨d, tag, text⟩ := n
        generalize m[i] = n at *
        obtain ⟨d', tag', text'⟩ := n
        simp only at he
        have he' : (!(d == d' && (tag == tag' && text == text'))) = true := by rw [he]; rfl
        simp (config := { maxSteps := 1000000 }) (disch := omega) [-List.map_replicate, -List.map_set, -List.getD_eq_getElem?_getD, -getElem?_pos, -getElem?_neg, wrap_i64, le_strLim, le_sliceLim, le_buildLim, le_sliceLimI, Int.tmod_eq_emod_of_nonneg, Int.tdiv_eq_ediv_of_nonneg, omLe, omLeN, omLt, omLtN, omEq, omEqN, onLe, onLeN, onLt, onLtN, onEq, onEqN, hg, hg', hf, he, he']
    · obtain rfl : i = l.length := by omega
      have : l = m := by rw [List.take_length] at ha; rw [ha, h0, List.take_length]
      subst this
      simp (config := { maxSteps := 1000000 }) (disch := omega) [-List.map_replicate, -List.map_set, -List.getD_eq_getElem?_getD, -getElem?_pos, -getElem?_neg, wrap_i64, le_strLim, le_sliceLim, le_buildLim, le_sliceLimI, Int.tmod_eq_emod_of_nonneg, Int.tdiv_eq_ediv_of_nonneg, omLe, omLeN, omLt, omLtN, omEq, omEqN, onLe, onLeN, onLt, onLtN, onEq, onEqN]
  · have hf : l ≠ m := by rintro rfl; exact h0 rfl
    simp (config := { maxSteps := 1000000 }) (disch := omega) [-List.map_replicate, -List.map_set, -List.getD_eq_getElem?_getD, -getElem?_pos, -getElem?_neg, wrap_i64, le_strLim, le_sliceLim, le_buildLim, le_sliceLimI, Int.tmod_eq_emod_of_nonneg, Int.tdiv_eq_ediv_of_nonneg, omLe, omLeN, omLt, omLtN, omEq, omEqN, onLe, onLeN, onLt, onLtN, onEq, onEqN, ir32, h0, hf]

theorem ansEqI (nl nl' : Option Bool) (z z' : Nat) (l m : List Int) (hz : l ≠ [] → z = 1) (hz' : m ≠ [] → z' = 1) (hlen : l.length < 1000000000) (hlen' : m.length < 1000000000) :
    ansF cfg 25 [.lst nl z (l.map (AV.int .i64)), .lst nl' z' (m.map (AV.int .i64))] [] = some (.bool (decide (l = m)), []) := by
  refine ans_of_wp fn25 low25 ?_
  by_cases h0 : l.length = m.length
  · simp (config := { maxSteps := 1000000 }) (disch := omega) [-List.map_replicate, -List.map_set, -List.getD_eq_getElem?_getD, -getElem?_pos, -getElem?_neg, wrap_i64, le_strLim, le_sliceLim, le_buildLim, le_sliceLimI, Int.tmod_eq_emod_of_nonneg, Int.tdiv_eq_ediv_of_nonneg, omLe, omLeN, omLt, omLtN, omEq, omEqN, onLe, onLeN, onLt, onLtN, onEq, onEqN, ir25, h0]
    refine Wp.loopM (fun (i : Nat) => l.length - i) (fun i => [some (.lst nl z (l.map (AV.int .i64))), some (.lst nl' z' (m.map (AV.int .i64))), none, none, none, some (.int .i64 m.length), some (.int .i64 i), none, none]) (fun i => []) (fun i => i ≤ l.length ∧ l.take i = m.take i) ?_ 0 ⟨by omega, by simp⟩ (by simp) rfl
    rintro i ⟨hi, ha⟩
    by_cases h1 : i < l.length
    · have hg : l[i]? = some l[i] := List.getElem?_eq_getElem h1
      have h1m : i < m.length := by omega
      have hg' : m[i]? = some m[i] := List.getElem?_eq_getElem h1m
      obtain rfl : z = 1 := hz (by intro h; rw [h] at h1; simp at h1)
      obtain rfl : z' = 1 := hz' (by intro h; rw [h] at h1m; simp at h1m)
      by_cases k : l[i] = m[i]
      · have nx : l.take (i + 1) = m.take (i + 1) := by rw [List.take_add_one, List.take_add_one, ha, hg, hg', k]
        rw [k] at hg
        simp (config := { maxSteps := 1000000 }) (disch := omega) [-List.map_replicate, -List.map_set, -List.getD_eq_getElem?_getD, -getElem?_pos, -getElem?_neg, wrap_i64, le_strLim, le_sliceLim, le_buildLim, le_sliceLimI, Int.tmod_eq_emod_of_nonneg, Int.tdiv_eq_ediv_of_nonneg, omLe, omLeN, omLt, omLtN, omEq, omEqN, onLe, onLeN, onLt, onLtN, onEq, onEqN, hg, hg']
        exact ⟨i + 1, ⟨by omega, nx⟩, by omega, by omega⟩
      · have hf : l ≠ m := by rintro rfl; exact k rfl
        generalize l[i] = a at *
        generalize m[i] = b at *
        simp (config := { maxSteps := 1000000 }) (disch := omega) [-List.map_replicate, -List.map_set, -List.getD_eq_getElem?_getD, -getElem?_pos, -getElem?_neg, wrap_i64, le_strLim, le_sliceLim, le_buildLim, le_sliceLimI, Int.tmod_eq_emod_of_nonneg, Int.tdiv_eq_ediv_of_nonneg, omLe, omLeN, omLt, omLtN, omEq, omEqN, onLe, onLeN, onLt, onLtN, onEq, onEqN, hg, hg', hf, k]
    · obtain rfl : i = l.length := by omega
      have : l = m := by rw [List.take_length] at ha; rw [ha, h0, List.take_length]
      subst this
      simp (config := { maxSteps := 1000000 }) (disch := omega) [-List.map_replicate, -List.map_set, -List.getD_eq_getElem?_getD, -getElem?_pos, -getElem?_neg, wrap_i64, le_strLim, le_sliceLim, le_buildLim, le_sliceLimI, Int.tmod_eq_emod_of_nonneg, Int.tdiv_eq_ediv_of_nonneg, omLe, omLeN, omLt, omLtN, omEq, omEqN, onLe, onLeN, onLt, onLtN, onEq, onEqN]
  · have hf : l ≠ m := by rintro rfl; exact h0 rfl
    simp (config := { maxSteps := 1000000 }) (disch := omega) [-List.map_replicate, -List.map_set, -List.getD_eq_getElem?_getD, -getElem?_pos, -getElem?_neg, wrap_i64, le_strLim, le_sliceLim, le_buildLim, le_sliceLimI, Int.tmod_eq_emod_of_nonneg, Int.tdiv_eq_ediv_of_nonneg, omLe, omLeN, omLt, omLtN, omEq, omEqN, onLe, onLeN, onLt, onLtN, onEq, onEqN, ir25, h0, hf]

/-- a copy: what it reads as -/
theorem ansClone (nl : Bool) (z : Nat) (l : List Nd) (hz : l ≠ [] → z = 3) (hn : nl = true → z = 0 ∧ l = []) (hlen : l.length < 1000000) :
    ∃ nl' z', ansF cfg 26 [.lst (some nl) z (l.map ndA)] [] = some (.lst nl' z' (l.map ndA), []) ∧ (l ≠ [] → z' = 3) := by
  cases nl with
  | true =>
    obtain ⟨rfl, rfl⟩ := hn rfl
    refine ⟨some true, 0, ans_of_wp fn26 low26 ?_, fun h => absurd rfl h⟩
    simp (config := { maxSteps := 1000000 }) (disch := omega) [-List.map_replicate, -List.map_set, -List.getD_eq_getElem?_getD, -getElem?_pos, -getElem?_neg, wrap_i64, le_strLim, le_sliceLim, le_buildLim, le_sliceLimI, Int.tmod_eq_emod_of_nonneg, Int.tdiv_eq_ediv_of_nonneg, omLe, omLeN, omLt, omLtN, omEq, omEqN, onLe, onLeN, onLt, onLtN, onEq, onEqN, ir26]
  | false =>
    cases l with
    | nil =>
      refine ⟨none, 0, ans_of_wp fn26 low26 ?_, fun h => absurd rfl h⟩
      simp (config := { maxSteps := 1000000 }) (disch := omega) [-List.map_replicate, -List.map_set, -List.getD_eq_getElem?_getD, -getElem?_pos, -getElem?_neg, wrap_i64, le_strLim, le_sliceLim, le_buildLim, le_sliceLimI, Int.tmod_eq_emod_of_nonneg, Int.tdiv_eq_ediv_of_nonneg, omLe, omLeN, omLt, omLtN, omEq, omEqN, onLe, onLeN, onLt, onLtN, onEq, onEqN, ir26]
    | cons a l =>
      obtain rfl := hz (by simp)
      refine ⟨none, 3, ans_of_wp fn26 low26 ?_, fun _ => rfl⟩
      simp only [List.length_cons] at hlen
      simp (config := { maxSteps := 1000000 }) (disch := omega) [-List.map_replicate, -List.map_set, -List.getD_eq_getElem?_getD, -getElem?_pos, -getElem?_neg, wrap_i64, le_strLim, le_sliceLim, le_buildLim, le_sliceLimI, Int.tmod_eq_emod_of_nonneg, Int.tdiv_eq_ediv_of_nonneg, omLe, omLeN, omLt, omLtN, omEq, omEqN, onLe, onLeN, onLt, onLtN, onEq, onEqN, ir26]
end Go.Proofs.YtibakcohkdfnoaaDoor
