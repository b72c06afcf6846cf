/-
  The node of a line: program and reference. The node of a line: the reference. Plain laws of escaped texts and of lines: what is escaped is unescaped to it, a node's line is read as the node.
-/
import Derived.Test.YtibakcohkdfnoaaDoorEscM
import Derived.Test.YtibakcohkdfnoaaDoorNodeM
import Derived.Test.YtibakcohkdfnoaaDoorPrintM
set_option linter.unusedSimpArgs false
set_option linter.unusedVariables false
namespace Go.Proofs.YtibakcohkdfnoaaDoor
open Go.Am
set_option maxRecDepth 10000
set_option maxHeartbeats 4000000

def unesc (s : Str) : Option Str := match uns s 0 [] with
  | some t => if esc t = s then some t else none
  | none => none
theorem unescA_eq (s : Str) : unescA s = match unesc s with | some t => .tup [.str t, .bool true] | none => .tup [.str [], .bool false] := by
  unfold unescA unesc
  cases uns s 0 [] with
  | none => rfl
  | some t => simp only; split <;> rfl

/-- how many tabs a string begins with -/
def tabs : Str → Nat
  | [] => 0
  | c :: s => if c = 9 then tabs s + 1 else 0
theorem tabs_le : ∀ s : Str, tabs s ≤ s.length
  | [] => Nat.le_refl _
  | c :: s => by
    simp only [tabs, List.length_cons]
    have := tabs_le s
    split <;> omega
theorem tabs_step : ∀ (s : Str) (n : Nat), n ≤ tabs s → n < s.length → ((s.getD n 0).toNat = 9 ∧ n + 1 ≤ tabs s) ∨ (¬ (s.getD n 0).toNat = 9 ∧ tabs s = n)
  | [], n, _, h => by simp at h
  | c :: s, 0, _, _ => by
    simp only [tabs, List.getD_cons_zero]
    split
    · rename_i h; subst h; exact .inl ⟨rfl, by omega⟩
    · rename_i h; exact .inr ⟨fun e => h (UInt8.toNat_inj.1 e), rfl⟩
  | c :: s, n + 1, h1, h2 => by
    simp only [tabs] at h1 ⊢
    split at h1
    · rename_i hc
      rw [if_pos hc]
      simp only [List.getD_cons_succ]
      rcases tabs_step s n (by omega) (by simpa using h2) with ⟨h3, h4⟩ | ⟨h3, h4⟩
      · exact .inl ⟨h3, by omega⟩
      · exact .inr ⟨h3, by omega⟩
    · omega

theorem ansTrim (s : Str) (hs : s.length < 1000000000) : ansF cfg 62 [.str s, .int .u8 9] [] = some (.str (s.drop (tabs s)), []) := by
  refine ans_of_wp fn62 low62 ?_
  simp (config := { maxSteps := 1000000 }) (disch := omega) [-List.map_replicate, -List.map_set, -List.getD_eq_getElem?_getD, -getElem?_pos, -getElem?_neg, wrap_i64, le_strLim, le_sliceLim, le_buildLim, le_sliceLimI, Int.tmod_eq_emod_of_nonneg, Int.tdiv_eq_ediv_of_nonneg, omLe, omLeN, omLt, omLtN, omEq, omEqN, onLe, onLeN, onLt, onLtN, onEq, onEqN, ir62]
  have hle := tabs_le s
  refine Wp.loopM (fun (n : Nat) => s.length - n) (fun n => [some (.str (s.drop n)), some (.int .u8 9), none, none]) (fun n => []) (fun n => n ≤ tabs s) ?_ 0 (by omega) (by simp) rfl
  intro n hn
  by_cases h1 : n < s.length
  · have hg : (s.drop n)[0]? = some (s.getD n 0) := by rw [List.getElem?_drop]; exact get_str (by omega)
    have hl : (s.drop n).length = s.length - n := by simp
    have hd : (s.drop n).drop 1 = s.drop (n + 1) := by rw [List.drop_drop]
    have ht : (s.drop n).take (s.length - n) = s.drop n := List.take_of_length_le (by simp)
    rcases tabs_step s n hn h1 with ⟨h2, h3⟩ | ⟨h2, h3⟩
    · generalize s.getD n 0 = c at hg h2
      generalize s.drop n = r at *
      simp (config := { maxSteps := 1000000 }) (disch := omega) [-List.map_replicate, -List.map_set, -List.getD_eq_getElem?_getD, -getElem?_pos, -getElem?_neg, wrap_i64, le_strLim, le_sliceLim, le_buildLim, le_sliceLimI, Int.tmod_eq_emod_of_nonneg, Int.tdiv_eq_ediv_of_nonneg, omLe, omLeN, omLt, omLtN, omEq, omEqN, onLe, onLeN, onLt, onLtN, onEq, onEqN, hg, h2, hl, ht, hd]
      exact ⟨n + 1, by omega, by omega, by omega⟩
    · generalize s.getD n 0 = c at hg h2
      rw [h3]
      generalize s.drop n = r at *
      simp (config := { maxSteps := 1000000 }) (disch := omega) [-List.map_replicate, -List.map_set, -List.getD_eq_getElem?_getD, -getElem?_pos, -getElem?_neg, wrap_i64, le_strLim, le_sliceLim, le_buildLim, le_sliceLimI, Int.tmod_eq_emod_of_nonneg, Int.tdiv_eq_ediv_of_nonneg, omLe, omLeN, omLt, omLtN, omEq, omEqN, onLe, onLeN, onLt, onLtN, onEq, onEqN, hg, h2, hl]
  · have : tabs s = n := by omega
    have hl : s.drop n = [] := List.drop_of_length_le (by omega)
    simp (config := { maxSteps := 1000000 }) (disch := omega) [-List.map_replicate, -List.map_set, -List.getD_eq_getElem?_getD, -getElem?_pos, -getElem?_neg, wrap_i64, le_strLim, le_sliceLim, le_buildLim, le_sliceLimI, Int.tmod_eq_emod_of_nonneg, Int.tdiv_eq_ediv_of_nonneg, omLe, omLeN, omLt, omLtN, omEq, omEqN, onLe, onLeN, onLt, onLtN, onEq, onEqN, this, hl]

theorem ansTrimLeft (s : Str) (hs : s.length < 1000000000) : ansF cfg 51 [.str s, .str [9]] [] = some (.str (s.drop (tabs s)), []) := by
  refine ans_of_wp fn51 low51 ?_
  have h := ansTrim s hs
  by_cases h0 : s = []
  · subst h0
    simp (config := { maxSteps := 1000000 }) (disch := omega) [-List.map_replicate, -List.map_set, -List.getD_eq_getElem?_getD, -getElem?_pos, -getElem?_neg, wrap_i64, le_strLim, le_sliceLim, le_buildLim, le_sliceLimI, Int.tmod_eq_emod_of_nonneg, Int.tdiv_eq_ediv_of_nonneg, omLe, omLeN, omLt, omLtN, omEq, omEqN, onLe, onLeN, onLt, onLtN, onEq, onEqN, ir51]
  · simp (config := { maxSteps := 1000000 }) (disch := omega) [-List.map_replicate, -List.map_set, -List.getD_eq_getElem?_getD, -getElem?_pos, -getElem?_neg, wrap_i64, le_strLim, le_sliceLim, le_buildLim, le_sliceLimI, Int.tmod_eq_emod_of_nonneg, Int.tdiv_eq_ediv_of_nonneg, omLe, omLeN, omLt, omLtN, omEq, omEqN, onLe, onLeN, onLt, onLtN, onEq, onEqN, ir51, h0, h]

/-- the node of a line -/
def nodeOf (s : Str) : Option Nd :=
  if lets (s.drop (tabs s)) = 0 then none
  else if lets (s.drop (tabs s)) = (s.drop (tabs s)).length then some ⟨tabs s, (s.drop (tabs s)).take (lets (s.drop (tabs s))), []⟩
  else if ((s.drop (tabs s)).getD (lets (s.drop (tabs s))) 0).toNat ≠ 32 then none
  else match unesc ((s.drop (tabs s)).drop (lets (s.drop (tabs s)) + 1)) with
    | some t => if t = [] then none else some ⟨tabs s, (s.drop (tabs s)).take (lets (s.drop (tabs s))), t⟩
    | none => none

def nodeRes (o : Option Nd) (x : AV) : Prop := match o with
  | some n => x = .tup [.agg [.int .i64 n.d, .str n.tag, .str n.text], .bool true]
  | none => ∃ d t u, x = .tup [.agg [.int .i64 d, .str t, .str u], .bool false]

theorem ansNodeP (s : Str) (hs : s.length < 100000) : ∃ x, ansF cfg 34 [.str s] [] = some (x, []) ∧ nodeRes (nodeOf s) x := by
  have h1 := ansTrimLeft s (by omega)
  have hl := tabs_le s
  unfold nodeOf
  have hr : (s.drop (tabs s)).length = s.length - tabs s := by simp
  generalize s.drop (tabs s) = r at *
  generalize tabs s = d at *
  have h2 := ansLets r (by omega)
  have hk := lets_le r
  by_cases k0 : lets r = 0
  · rw [if_pos k0]
    rw [k0] at h2
    refine ⟨.tup [.agg [.int .i64 d, .str [], .str []], .bool false], ans_of_wp fn34 low34 ?_, _, _, _, rfl⟩
    simp (config := { maxSteps := 1000000 }) (disch := omega) [-List.map_replicate, -List.map_set, -List.getD_eq_getElem?_getD, -getElem?_pos, -getElem?_neg, wrap_i64, le_strLim, le_sliceLim, le_buildLim, le_sliceLimI, Int.tmod_eq_emod_of_nonneg, Int.tdiv_eq_ediv_of_nonneg, omLe, omLeN, omLt, omLtN, omEq, omEqN, onLe, onLeN, onLt, onLtN, onEq, onEqN, ir34, h1, h2, hr, splice]
  rw [if_neg k0]
  by_cases k1 : lets r = r.length
  · rw [if_pos k1]
    rw [k1] at h2 k0 ⊢
    refine ⟨_, ans_of_wp fn34 low34 ?_, rfl⟩
    simp (config := { maxSteps := 1000000 }) (disch := omega) [-List.map_replicate, -List.map_set, -List.getD_eq_getElem?_getD, -getElem?_pos, -getElem?_neg, wrap_i64, le_strLim, le_sliceLim, le_buildLim, le_sliceLimI, Int.tmod_eq_emod_of_nonneg, Int.tdiv_eq_ediv_of_nonneg, omLe, omLeN, omLt, omLtN, omEq, omEqN, onLe, onLeN, onLt, onLtN, onEq, onEqN, ir34, h1, h2, hr, splice]
  rw [if_neg k1]
  have hg := get_str (d := r) (i := lets r) (by omega)
  have hU := ansUnP (r.drop (lets r + 1)) (by simp; omega)
  rw [unescA_eq] at hU
  have e1 : (r.take (s.length - d)).drop (lets r + 1) = r.drop (lets r + 1) := by rw [List.take_of_length_le (by omega)]
  generalize lets r = k at *
  generalize r.getD k 0 = c at *
  generalize r.drop (k + 1) = q at *
  have t1 : ((k : Int) + 1).toNat = k + 1 := by omega
  by_cases k2 : c.toNat = 32
  · rw [if_neg (by simpa using k2)]
    cases hu : unesc q with
    | none =>
      rw [hu] at hU
      refine ⟨.tup [.agg [.int .i64 d, .str (r.take k), .str []], .bool false], ans_of_wp fn34 low34 ?_, _, _, _, rfl⟩
      simp (config := { maxSteps := 1000000 }) (disch := omega) [-List.map_replicate, -List.map_set, -List.getD_eq_getElem?_getD, -getElem?_pos, -getElem?_neg, wrap_i64, le_strLim, le_sliceLim, le_buildLim, le_sliceLimI, Int.tmod_eq_emod_of_nonneg, Int.tdiv_eq_ediv_of_nonneg, omLe, omLeN, omLt, omLtN, omEq, omEqN, onLe, onLeN, onLt, onLtN, onEq, onEqN, ir34, h1, h2, hr, splice, hg, hU, e1, t1, k2]
    | some t =>
      rw [hu] at hU
      by_cases k3 : t = []
      · subst k3
        refine ⟨.tup [.agg [.int .i64 d, .str (r.take k), .str []], .bool false], ans_of_wp fn34 low34 ?_, _, _, _, rfl⟩
        simp (config := { maxSteps := 1000000 }) (disch := omega) [-List.map_replicate, -List.map_set, -List.getD_eq_getElem?_getD, -getElem?_pos, -getElem?_neg, wrap_i64, le_strLim, le_sliceLim, le_buildLim, le_sliceLimI, Int.tmod_eq_emod_of_nonneg, Int.tdiv_eq_ediv_of_nonneg, omLe, omLeN, omLt, omLtN, omEq, omEqN, onLe, onLeN, onLt, onLtN, onEq, onEqN, ir34, h1, h2, hr, splice, hg, hU, e1, t1, k2]
      · refine ⟨.tup [.agg [.int .i64 d, .str (r.take k), .str t], .bool true], ans_of_wp fn34 low34 ?_, by simp [nodeRes, k3]⟩
        simp (config := { maxSteps := 1000000 }) (disch := omega) [-List.map_replicate, -List.map_set, -List.getD_eq_getElem?_getD, -getElem?_pos, -getElem?_neg, wrap_i64, le_strLim, le_sliceLim, le_buildLim, le_sliceLimI, Int.tmod_eq_emod_of_nonneg, Int.tdiv_eq_ediv_of_nonneg, omLe, omLeN, omLt, omLtN, omEq, omEqN, onLe, onLeN, onLt, onLtN, onEq, onEqN, ir34, h1, h2, hr, splice, hg, hU, e1, t1, k2, k3]
  · rw [if_pos (by simpa using k2)]
    cases hu : unesc q with
    | none =>
      rw [hu] at hU
      refine ⟨.tup [.agg [.int .i64 d, .str (r.take k), .str []], .bool false], ans_of_wp fn34 low34 ?_, _, _, _, rfl⟩
      simp (config := { maxSteps := 1000000 }) (disch := omega) [-List.map_replicate, -List.map_set, -List.getD_eq_getElem?_getD, -getElem?_pos, -getElem?_neg, wrap_i64, le_strLim, le_sliceLim, le_buildLim, le_sliceLimI, Int.tmod_eq_emod_of_nonneg, Int.tdiv_eq_ediv_of_nonneg, omLe, omLeN, omLt, omLtN, omEq, omEqN, onLe, onLeN, onLt, onLtN, onEq, onEqN, ir34, h1, h2, hr, splice, hg, hU, e1, t1, k2]
    | some t =>
      rw [hu] at hU
      refine ⟨.tup [.agg [.int .i64 d, .str (r.take k), .str t], .bool false], ans_of_wp fn34 low34 ?_, _, _, _, rfl⟩
      simp (config := { maxSteps := 1000000 }) (disch := omega) [-List.map_replicate, -List.map_set, -List.getD_eq_getElem?_getD, -getElem?_pos, -getElem?_neg, wrap_i64, le_strLim, le_sliceLim, le_buildLim, le_sliceLimI, Int.tmod_eq_emod_of_nonneg, Int.tdiv_eq_ediv_of_nonneg, omLe, omLeN, omLt, omLtN, omEq, omEqN, onLe, onLeN, onLt, onLtN, onEq, onEqN, ir34, h1, h2, hr, splice, hg, hU, e1, t1, k2]
end Go.Proofs.YtibakcohkdfnoaaDoor

namespace Go.Proofs.YtibakcohkdfnoaaDoor
open Go.Am
set_option maxRecDepth 10000
set_option maxHeartbeats 4000000

theorem unesc_esc {q t : Str} (h : unesc q = some t) : esc t = q := by
  unfold unesc at h
  split at h
  · split at h
    · cases h; assumption
    · cases h
  · cases h

def noNd : AV := .agg [.int .i64 0, .str [], .str []]
def nodeRV2 (d k : Nat) (r : Str) : AV :=
  if k = 0 then .tup [noNd, .bool false]
  else if k = r.length then .tup [.agg [.int .i64 d, .str (r.take k), .str []], .bool true]
  else if (r.getD k 0).toNat ≠ 32 ∨ k + 1 = r.length then .tup [noNd, .bool false]
  else match unesc (r.drop (k + 1)) with
    | some t => .tup [.agg [.int .i64 d, .str (r.take k), .str t], .bool true]
    | none => .tup [.agg [.int .i64 d, .str (r.take k), .str []], .bool false]

theorem nodeRV_res (s : Str) : nodeRes (nodeOf s) (nodeRV2 (tabs s) (lets (s.drop (tabs s))) (s.drop (tabs s))) := by
  unfold nodeOf nodeRV2
  have hk := lets_le (s.drop (tabs s))
  generalize s.drop (tabs s) = r at *
  generalize lets r = k at *
  generalize tabs s = d
  split
  · exact ⟨_, _, _, rfl⟩
  split
  · rfl
  rename_i h0 h1
  by_cases h2 : (r.getD k 0).toNat = 32
  · rw [if_neg (by simpa using h2)]
    by_cases h3 : k + 1 = r.length
    · rw [if_pos (.inr h3)]
      have hd : r.drop (k + 1) = [] := List.drop_of_length_le (by omega)
      have hu : unesc [] = some [] := by unfold unesc; rw [uns_end (by simp)]; rfl
      rw [hd, hu]
      exact ⟨_, _, _, rfl⟩
    · rw [if_neg (by simp; exact ⟨by simpa using h2, h3⟩)]
      cases hu : unesc (r.drop (k + 1)) with
      | none => exact ⟨_, _, _, rfl⟩
      | some t =>
        have ht : t ≠ [] := by
          rintro rfl
          have := unesc_esc hu
          have hl := congrArg List.length this
          simp [esc] at hl
          omega
        simp only [if_neg ht]
        rfl
  · rw [if_pos (by simpa using h2), if_pos (.inl (by simpa using h2))]
    exact ⟨_, _, _, rfl⟩

theorem ansNodeR2 (s : Str) (hs : s.length < 100000) : ansF cfg 36 [.str s] [] = some (nodeRV2 (tabs s) (lets (s.drop (tabs s))) (s.drop (tabs s)), []) := by
  refine ans_of_wp fn36 low36 ?_
  have hl := tabs_le s
  have hr : (s.drop (tabs s)).length = s.length - tabs s := by simp
  have hk := lets_le (s.drop (tabs s))
  simp (config := { maxSteps := 1000000 }) (disch := omega) [-List.map_replicate, -List.map_set, -List.getD_eq_getElem?_getD, -getElem?_pos, -getElem?_neg, wrap_i64, le_strLim, le_sliceLim, le_buildLim, le_sliceLimI, Int.tmod_eq_emod_of_nonneg, Int.tdiv_eq_ediv_of_nonneg, omLe, omLeN, omLt, omLtN, omEq, omEqN, onLe, onLeN, onLt, onLtN, onEq, onEqN, ir36, splice]
  refine Wp.loopM (fun (n : Nat) => s.length - n) (fun n => [some (.str s), some (.ptr 0 0), none, some (.ptr 1 0), none, none, none, none, none, none, none, none, none, none, none, none]) (fun n => [.var 40 [.int .i64 0, .str [], .str []], .var 40 [.int .i64 n, .str [], .str []]]) (fun n => n ≤ tabs s) ?_ 0 (by omega) (by simp) (by simp)
  intro n hn
  have more : n < s.length ∧ (s.getD n 0).toNat = 9 ∧ n + 1 ≤ tabs s ∨ tabs s = n ∧ (n = s.length ∨ n < s.length ∧ ¬ (s.getD n 0).toNat = 9) := by
    by_cases h1 : n < s.length
    · rcases tabs_step s n hn h1 with ⟨h2, h3⟩ | ⟨h2, h3⟩
      · exact .inl ⟨h1, h2, h3⟩
      · exact .inr ⟨h3, .inr ⟨h1, h2⟩⟩
    · exact .inr ⟨by omega, .inl (by omega)⟩
  rcases more with ⟨h1, h2, h3⟩ | ⟨h3, h4⟩
  · have hg := get_str h1
    generalize s.getD n 0 = c at hg h2
    simp (config := { maxSteps := 1000000 }) (disch := omega) [-List.map_replicate, -List.map_set, -List.getD_eq_getElem?_getD, -getElem?_pos, -getElem?_neg, wrap_i64, le_strLim, le_sliceLim, le_buildLim, le_sliceLimI, Int.tmod_eq_emod_of_nonneg, Int.tdiv_eq_ediv_of_nonneg, omLe, omLeN, omLt, omLtN, omEq, omEqN, onLe, onLeN, onLt, onLtN, onEq, onEqN, hg, h2, splice]
    exact ⟨n + 1, by omega, by omega, by omega⟩
  · rw [h3] at hr hk ⊢
    have hns : n ≤ s.length := by omega
    clear h3 hn hl
    rcases h4 with h4 | ⟨h4, h5⟩
    case' inl =>
      simp (config := { maxSteps := 1000000 }) (disch := omega) [-List.map_replicate, -List.map_set, -List.getD_eq_getElem?_getD, -getElem?_pos, -getElem?_neg, wrap_i64, le_strLim, le_sliceLim, le_buildLim, le_sliceLimI, Int.tmod_eq_emod_of_nonneg, Int.tdiv_eq_ediv_of_nonneg, omLe, omLeN, omLt, omLtN, omEq, omEqN, onLe, onLeN, onLt, onLtN, onEq, onEqN]
      clear h4
    case' inr =>
      have hg := get_str h4
      generalize s.getD n 0 = c at hg h5
      simp (config := { maxSteps := 1000000 }) (disch := omega) [-List.map_replicate, -List.map_set, -List.getD_eq_getElem?_getD, -getElem?_pos, -getElem?_neg, wrap_i64, le_strLim, le_sliceLim, le_buildLim, le_sliceLimI, Int.tmod_eq_emod_of_nonneg, Int.tdiv_eq_ediv_of_nonneg, omLe, omLeN, omLt, omLtN, omEq, omEqN, onLe, onLeN, onLt, onLtN, onEq, onEqN, hg, h5]
      clear hg h5 h4
    all_goals
      have hd : ∀ p, n ≤ p → (s.drop n).getD (p - n) 0 = s.getD p 0 := fun p hp => by rw [getD_drop]; congr 1; omega
      refine Wp.loopM (fun (p : Nat) => s.length - p) (fun p => [some (.str s), some (.ptr 0 0), none, some (.ptr 1 0), some (.int .i64 p), none, none, none, none, none, none, none, none, none, none, none]) (fun _ => [.var 40 [.int .i64 0, .str [], .str []], .var 40 [.int .i64 n, .str [], .str []]]) (fun p => n ≤ p ∧ p - n ≤ lets (s.drop n)) ?_ n ⟨by omega, by omega⟩ (by simp) rfl
      rintro p ⟨hp, hm⟩
      have hdp := hd p hp
      by_cases h1 : p < s.length
      · have hg := get_str h1
        rcases lets_step (s.drop n) (p - n) hm (by omega) with ⟨h2, h3⟩ | ⟨h2, h3⟩
        · have h2' := low_true h2
          rw [hdp] at h2'
          generalize s.getD p 0 = c at hg h2'
          simp (config := { maxSteps := 1000000 }) (disch := omega) [-List.map_replicate, -List.map_set, -List.getD_eq_getElem?_getD, -getElem?_pos, -getElem?_neg, wrap_i64, le_strLim, le_sliceLim, le_buildLim, le_sliceLimI, Int.tmod_eq_emod_of_nonneg, Int.tdiv_eq_ediv_of_nonneg, omLe, omLeN, omLt, omLtN, omEq, omEqN, onLe, onLeN, onLt, onLtN, onEq, onEqN, hg]
          exact ⟨p + 1, by omega, by omega, by omega⟩
        · have h2' := low_false h2
          rw [hdp] at h2'
          rw [h3] at hk ⊢
          unfold nodeRV2
          rw [hdp]
          have hsl : (s.take p).drop n = (s.drop n).take (p - n) := by rw [List.drop_take]
          have hq : s.drop (p + 1) = (s.drop n).drop (p - n + 1) := by rw [List.drop_drop]; congr 1; omega
          have hqn : ((s.drop n).drop (p - n + 1)).length < 190000 := by simp; omega
          have tl : ((s.drop n).take (p - n)).length = p - n := by simp; omega
          generalize s.getD p 0 = c at hg h2'
          have h4 : ((97 ≤ (c.toNat : Int) ∧ (c.toNat : Int) ≤ 122)) = False := eq_false (by omega)
          have hU := ansUnR ((s.drop n).drop (p - n + 1)) hqn
          rw [unescA_eq] at hU
          have t1 : ((p : Int) + 1).toNat = p + 1 := by omega
          have hne : (s.drop n).take (p - n) = [] ↔ p = n := by rw [← List.length_eq_zero_iff, tl]; omega
          generalize (s.drop n).drop (p - n + 1) = q at *
          generalize (s.drop n).take (p - n) = tg at *
          generalize s.drop n = r at *
          by_cases k0 : p = n
          · have e : tg = [] := hne.2 k0
            obtain rfl := k0
            simp (config := { maxSteps := 1000000 }) (disch := omega) [-List.map_replicate, -List.map_set, -List.getD_eq_getElem?_getD, -getElem?_pos, -getElem?_neg, wrap_i64, le_strLim, le_sliceLim, le_buildLim, le_sliceLimI, Int.tmod_eq_emod_of_nonneg, Int.tdiv_eq_ediv_of_nonneg, omLe, omLeN, omLt, omLtN, omEq, omEqN, onLe, onLeN, onLt, onLtN, onEq, onEqN, hg, h4, e, hsl, splice, noNd]
          · have k0' : ¬ tg = [] := fun h => k0 (hne.1 h)
            by_cases k1 : c.toNat = 32
            · by_cases k2 : p + 1 = s.length
              · simp (config := { maxSteps := 1000000 }) (disch := omega) [-List.map_replicate, -List.map_set, -List.getD_eq_getElem?_getD, -getElem?_pos, -getElem?_neg, wrap_i64, le_strLim, le_sliceLim, le_buildLim, le_sliceLimI, Int.tmod_eq_emod_of_nonneg, Int.tdiv_eq_ediv_of_nonneg, omLe, omLeN, omLt, omLtN, omEq, omEqN, onLe, onLeN, onLt, onLtN, onEq, onEqN, hg, h4, k0, k0', k1, k2, hsl, splice, noNd]
              · cases hu : unesc q with
                | none =>
                  rw [hu] at hU
                  simp (config := { maxSteps := 1000000 }) (disch := omega) [-List.map_replicate, -List.map_set, -List.getD_eq_getElem?_getD, -getElem?_pos, -getElem?_neg, wrap_i64, le_strLim, le_sliceLim, le_buildLim, le_sliceLimI, Int.tmod_eq_emod_of_nonneg, Int.tdiv_eq_ediv_of_nonneg, omLe, omLeN, omLt, omLtN, omEq, omEqN, onLe, onLeN, onLt, onLtN, onEq, onEqN, hg, h4, k0, k0', k1, k2, hsl, hq, hU, t1, splice, noNd]
                | some t =>
                  rw [hu] at hU
                  simp (config := { maxSteps := 1000000 }) (disch := omega) [-List.map_replicate, -List.map_set, -List.getD_eq_getElem?_getD, -getElem?_pos, -getElem?_neg, wrap_i64, le_strLim, le_sliceLim, le_buildLim, le_sliceLimI, Int.tmod_eq_emod_of_nonneg, Int.tdiv_eq_ediv_of_nonneg, omLe, omLeN, omLt, omLtN, omEq, omEqN, onLe, onLeN, onLt, onLtN, onEq, onEqN, hg, h4, k0, k0', k1, k2, hsl, hq, hU, t1, splice, noNd]
            · simp (config := { maxSteps := 1000000 }) (disch := omega) [-List.map_replicate, -List.map_set, -List.getD_eq_getElem?_getD, -getElem?_pos, -getElem?_neg, wrap_i64, le_strLim, le_sliceLim, le_buildLim, le_sliceLimI, Int.tmod_eq_emod_of_nonneg, Int.tdiv_eq_ediv_of_nonneg, omLe, omLeN, omLt, omLtN, omEq, omEqN, onLe, onLeN, onLt, onLtN, onEq, onEqN, hg, h4, k0, k0', k1, hsl, splice, noNd]
      · have hp2 : p = s.length := by omega
        have hm2 : lets (s.drop n) = p - n := by omega
        have hsl : (s.take p).drop n = s.drop n := by rw [hp2, List.take_length]
        rw [hm2]
        unfold nodeRV2
        by_cases k0 : p = n
        · have e : s.drop n = [] := List.drop_of_length_le (by omega)
          obtain rfl := k0
          simp (config := { maxSteps := 1000000 }) (disch := omega) [-List.map_replicate, -List.map_set, -List.getD_eq_getElem?_getD, -getElem?_pos, -getElem?_neg, wrap_i64, le_strLim, le_sliceLim, le_buildLim, le_sliceLimI, Int.tmod_eq_emod_of_nonneg, Int.tdiv_eq_ediv_of_nonneg, omLe, omLeN, omLt, omLtN, omEq, omEqN, onLe, onLeN, onLt, onLtN, onEq, onEqN, hsl, e, splice, noNd]
        · have e : ¬ s.drop n = [] := by rw [← List.length_eq_zero_iff]; omega
          have tk : (s.drop n).take (p - n) = s.drop n := List.take_of_length_le (by omega)
          simp (config := { maxSteps := 1000000 }) (disch := omega) [-List.map_replicate, -List.map_set, -List.getD_eq_getElem?_getD, -getElem?_pos, -getElem?_neg, wrap_i64, le_strLim, le_sliceLim, le_buildLim, le_sliceLimI, Int.tmod_eq_emod_of_nonneg, Int.tdiv_eq_ediv_of_nonneg, omLe, omLeN, omLt, omLtN, omEq, omEqN, onLe, onLeN, onLt, onLtN, onEq, onEqN, k0, hsl, e, tk, splice, noNd]
end Go.Proofs.YtibakcohkdfnoaaDoor

namespace Go.Proofs.YtibakcohkdfnoaaDoor
open Go.Am
set_option maxRecDepth 10000
set_option maxHeartbeats 4000000

theorem u8all {p : UInt8 → Prop} (h : ∀ n : Fin 256, p (UInt8.ofNat n.val)) (c : UInt8) : p c := by
  have := h ⟨c.toNat, c.toNat_lt⟩
  simpa using this

theorem dgt_range : ∀ n, n < 16 → 32 ≤ (dgt n).toNat ∧ (dgt n).toNat ≤ 126 := by decide +kernel
theorem dig_dgt : ∀ n, n < 16 → dig (dgt n) = (n : Int) := by decide +kernel

theorem esc1_range (c x : UInt8) (h : x ∈ esc1 c) : 32 ≤ x.toNat ∧ x.toNat ≤ 126 := by
  have hc := c.toNat_lt
  have d1 := dgt_range (c.toNat / 16) (by omega)
  have d2 := dgt_range (c.toNat % 16) (by omega)
  unfold esc1 at h
  split at h
  · simp at h; subst h; decide
  split at h
  · simp at h; rcases h with rfl | rfl <;> decide
  split at h
  · simp at h; rcases h with rfl | rfl <;> decide
  split at h
  · simp at h
    rcases h with rfl | rfl | rfl | rfl
    · decide
    · decide
    · exact d1
    · exact d2
  · simp at h; subst h; omega
theorem esc_range {s : Str} {x : UInt8} (h : x ∈ esc s) : 32 ≤ x.toNat ∧ x.toNat ≤ 126 := by
  unfold esc at h
  rw [List.mem_flatMap] at h
  obtain ⟨c, _, h2⟩ := h
  exact esc1_range c x h2

theorem pc_esc1 (c : UInt8) (r : Str) : pc (esc1 c ++ r) 0 = some (c, (esc1 c).length) := by
  have hc := c.toNat_lt
  unfold esc1
  split
  · rename_i h
    have : c = 92 := UInt8.toNat_inj.1 h
    subst this
    simp [pc]
  split
  · rename_i h
    have : c = 10 := UInt8.toNat_inj.1 h
    subst this
    simp [pc]
  split
  · rename_i h
    have : c = 9 := UInt8.toNat_inj.1 h
    subst this
    simp [pc]
  split
  · have d1 := dig_dgt (c.toNat / 16) (by omega)
    have d2 := dig_dgt (c.toNat % 16) (by omega)
    have e : 16 * (c.toNat / 16) + c.toNat % 16 = c.toNat := by omega
    simp [pc, d1, d2]
    have e1 : ((c.toNat : Int) / 16).toNat = c.toNat / 16 := by omega
    have e2 : ((c.toNat : Int) % 16).toNat = c.toNat % 16 := by omega
    have e3 : UInt8.ofNat (16 * (c.toNat / 16) + c.toNat % 16) = c := by rw [e]; simp
    simpa using e3
  · rename_i h _ _ _
    simp [pc, h]

theorem uns_esc : ∀ (s a out : Str), uns (a ++ esc s) a.length out = some (out ++ s)
  | [], a, out => by
    rw [uns_end (by simp [esc])]; simp
  | c :: s, a, out => by
    have hs : esc (c :: s) = esc1 c ++ esc s := by simp [esc]
    have hl := esc1_length c
    rw [hs]
    have hp : pc (a ++ (esc1 c ++ esc s)) a.length = some (c, (esc1 c).length) := by
      rw [← pc_drop _ _ (by simp; omega)]
      simp only [List.drop_left]
      exact pc_esc1 c _
    rw [uns_some (by simp; omega) hp, ← List.append_assoc, ← List.length_append, uns_esc s (a ++ esc1 c) (out ++ [c])]
    simp

theorem unesc_of_esc (s : Str) : unesc (esc s) = some s := by
  unfold unesc
  have h := uns_esc s [] []
  simp only [List.nil_append, List.length_nil] at h
  rw [h]
  simp

/-! ### Lines -/

theorem tabs_rep (d : Nat) (r : Str) (h : ∀ c t, r = c :: t → c ≠ 9) : tabs (List.replicate d 9 ++ r) = d := by
  induction d with
  | zero =>
    cases r with
    | nil => rfl
    | cons c t => simp [tabs, h c t rfl]
  | succ d ih => simp [List.replicate_succ, tabs, ih]
theorem tabs_eq : ∀ s : Str, List.replicate (tabs s) 9 ++ s.drop (tabs s) = s
  | [] => rfl
  | c :: s => by
    simp only [tabs]
    split
    · rename_i h; subst h
      have := tabs_eq s
      simp [List.replicate_succ, this]
    · simp
theorem lets_app (t r : Str) (ht : t.all low = true) (h : ∀ c q, r = c :: q → low c = false) : lets (t ++ r) = t.length := by
  induction t with
  | nil =>
    cases r with
    | nil => rfl
    | cons c q => simp [lets, h c q rfl]
  | cons c t ih =>
    simp only [List.all_cons, Bool.and_eq_true] at ht
    simp [lets, ht.1, ih ht.2]

/-- a node's line without its line feed -/
def bodyOf (n : Nd) : Str := List.replicate n.d.toNat 9 ++ n.tag ++ textOf n.text
theorem line_body (n : Nd) : lineOf n = bodyOf n ++ [10] := rfl

theorem node_body {n : Nd} (h : NdFine n) : nodeOf (bodyOf n) = some n := by
  obtain ⟨h1, h2, h3, h4⟩ := h
  obtain ⟨d, tag, text⟩ := n
  simp only at h1 h2 h3 h4
  obtain ⟨t1, t2, t3⟩ := tag_len h3
  obtain ⟨k, rfl⟩ := Int.eq_ofNat_of_zero_le h1
  have ht : tabs (bodyOf ⟨k, tag, text⟩) = k := by
    unfold bodyOf
    simp only [Int.toNat_natCast, List.append_assoc]
    apply tabs_rep
    intro c t hct
    cases tag with
    | nil => simp at t1
    | cons x tag =>
      simp only [List.cons_append, List.cons.injEq] at hct
      obtain ⟨rfl, _⟩ := hct
      simp only [List.all_cons, Bool.and_eq_true] at t3
      have := low_true t3.1
      rintro rfl
      simp at this
  have hd : (bodyOf ⟨k, tag, text⟩).drop k = tag ++ textOf text := by
    unfold bodyOf
    simp only [Int.toNat_natCast, List.append_assoc]
    rw [List.drop_append_of_le_length (by simp)]
    simp
  unfold nodeOf
  rw [ht, hd]
  have hl : lets (tag ++ textOf text) = tag.length := by
    apply lets_app _ _ t3
    intro c q hcq
    unfold textOf at hcq
    split at hcq
    · cases hcq
    · cases hcq; decide
  rw [hl, if_neg (by omega)]
  by_cases he : text = []
  · subst he
    simp [textOf]
  · have hq : textOf text = 32 :: esc text := by simp [textOf, he]
    rw [hq, if_neg (by simp)]
    have g : (tag ++ 32 :: esc text).getD tag.length 0 = 32 := by simp [List.getD_eq_getElem?_getD]
    have q : (tag ++ 32 :: esc text).drop (tag.length + 1) = esc text := by
      rw [List.drop_append]; simp
    rw [g, if_neg (by decide), q, unesc_of_esc]
    simp [he]

theorem body_node {s : Str} {n : Nd} (h : nodeOf s = some n) : bodyOf n = s ∧ 0 ≤ n.d := by
  unfold nodeOf at h
  have ht := tabs_eq s
  generalize s.drop (tabs s) = r at *
  have hk := lets_le r
  split at h
  · cases h
  split at h
  · rename_i h0 h1
    cases h
    refine ⟨?_, by simp⟩
    conv => rhs; rw [← ht]
    simp [bodyOf, textOf, h1]
  split at h
  · cases h
  · rename_i h0 h1 h2
    split at h
    · rename_i t hu
      split at h
      · cases h
      · rename_i hte
        cases h
        refine ⟨?_, by simp⟩
        have he := unesc_esc hu
        have h32 : r.getD (lets r) 0 = 32 := UInt8.toNat_inj.1 (by simpa using h2)
        have hr : r = r.take (lets r) ++ 32 :: r.drop (lets r + 1) := by
          conv => lhs; rw [← List.take_append_drop (lets r) r]
          congr 1
          rw [List.drop_eq_getElem_cons (by omega)]
          congr 1
          rw [← h32, List.getD_eq_getElem?_getD, List.getElem?_eq_getElem (by omega)]
          rfl
        conv => rhs; rw [← ht]
        conv => rhs; rw [hr]
        simp [bodyOf, textOf, hte, he]
    · cases h

theorem body_no10 {n : Nd} (h : NdFine n) : ∀ x ∈ bodyOf n, x ≠ 10 := by
  obtain ⟨h1, h2, h3, h4⟩ := h
  obtain ⟨t1, t2, t3⟩ := tag_len h3
  intro x hx
  unfold bodyOf at hx
  simp only [List.mem_append, List.mem_replicate] at hx
  rcases hx with (⟨_, rfl⟩ | hx) | hx
  · decide
  · rw [List.all_eq_true] at t3
    have := low_true (t3 x hx)
    rintro rfl
    simp at this
  · unfold textOf at hx
    split at hx
    · cases hx
    · rcases List.mem_cons.1 hx with rfl | hx
      · decide
      · have := esc_range hx
        rintro rfl
        simp at this

/-! ### Texts -/

/-- how many bytes stand ahead of the first line feed -/
def ahead : Str → Nat
  | [] => 0
  | c :: s => if c = 10 then 0 else ahead s + 1
theorem ahead_le : ∀ s : Str, ahead s ≤ s.length
  | [] => Nat.le_refl _
  | c :: s => by
    have := ahead_le s
    simp only [ahead, List.length_cons]
    split <;> omega
theorem ahead_app (b r : Str) (h : ∀ x ∈ b, x ≠ 10) : ahead (b ++ 10 :: r) = b.length := by
  induction b with
  | nil => simp [ahead]
  | cons c b ih =>
    have h1 := h c List.mem_cons_self
    have h2 := ih (fun x hx => h x (List.mem_cons_of_mem _ hx))
    simp [ahead, h1, h2]
theorem ahead_split : ∀ {s : Str}, ahead s < s.length → s = s.take (ahead s) ++ 10 :: s.drop (ahead s + 1)
  | [], h => by simp at h
  | c :: s, h => by
    simp only [ahead] at h ⊢
    split
    · rename_i hc; subst hc; simp
    · rename_i hc
      rw [if_neg hc] at h
      have := ahead_split (s := s) (by simpa using h)
      simp only [List.take_succ_cons, List.drop_succ_cons, List.cons_append]
      rw [← this]

/-- where reading comes to an end: the text that is left, the nodes -/
def parseF (text : Str) (l : List Nd) : Str × List Nd :=
  if h : text = [] then (text, l)
  else if ahead text = text.length then (text, l)
  else match nodeOf (text.take (ahead text)) with
    | none => (text, l)
    | some n => parseF (text.drop (ahead text + 1)) (l ++ [n])
termination_by text.length
decreasing_by
  have := List.length_pos_iff.2 h
  simp; omega
theorem parseF_end (l : List Nd) : parseF [] l = ([], l) := by rw [parseF]; simp
theorem parseF_torn {text : Str} (l : List Nd) (h0 : text ≠ []) (h : ahead text = text.length) : parseF text l = (text, l) := by
  rw [parseF, dif_neg h0, if_pos h]
theorem parseF_bad {text : Str} (l : List Nd) (h0 : text ≠ []) (h : nodeOf (text.take (ahead text)) = none) : parseF text l = (text, l) := by
  rw [parseF, dif_neg h0]
  split
  · rfl
  · rw [h]
theorem parseF_step {text : Str} (l : List Nd) {n : Nd} (h0 : text ≠ []) (h1 : ahead text ≠ text.length) (h : nodeOf (text.take (ahead text)) = some n) : parseF text l = parseF (text.drop (ahead text + 1)) (l ++ [n]) := by
  rw [parseF, dif_neg h0, if_neg h1, h]
def parseL (text : Str) (l : List Nd) : Except Nat (List Nd) := if (parseF text l).1 = [] then .ok (parseF text l).2 else .error ((parseF text l).2.length + 1)
theorem parseL_end (l : List Nd) : parseL [] l = .ok l := by simp [parseL, parseF_end]
theorem parseL_torn {text : Str} (l : List Nd) (h0 : text ≠ []) (h : ahead text = text.length) : parseL text l = .error (l.length + 1) := by
  simp [parseL, parseF_torn l h0 h, h0]
theorem parseL_bad {text : Str} (l : List Nd) (h0 : text ≠ []) (h : nodeOf (text.take (ahead text)) = none) : parseL text l = .error (l.length + 1) := by
  simp [parseL, parseF_bad l h0 h, h0]
theorem parseL_step {text : Str} (l : List Nd) {n : Nd} (h0 : text ≠ []) (h1 : ahead text ≠ text.length) (h : nodeOf (text.take (ahead text)) = some n) : parseL text l = parseL (text.drop (ahead text + 1)) (l ++ [n]) := by
  simp only [parseL, parseF_step l h0 h1 h]

theorem parse_print : ∀ (l a : List Nd), (∀ n ∈ l, NdFine n) → parseL (printOf l) a = .ok (a ++ l)
  | [], a, _ => by simp [printOf, parseL_end]
  | n :: l, a, h => by
    have hn := h n List.mem_cons_self
    have hp : printOf (n :: l) = bodyOf n ++ 10 :: printOf l := by simp [printOf, line_body]
    have ha := ahead_app (bodyOf n) (printOf l) (body_no10 hn)
    rw [hp, parseL_step (n := n) a (by simp) (by rw [ha]; simp) (by rw [ha]; simp [node_body hn]), ha]
    have : (bodyOf n ++ 10 :: printOf l).drop ((bodyOf n).length + 1) = printOf l := by rw [List.drop_append]; simp
    rw [this, parse_print l (a ++ [n]) (fun m hm => h m (List.mem_cons_of_mem _ hm))]
    simp

theorem print_parse (text : Str) : ∀ (a l : List Nd), parseL text a = .ok l → ∃ m, l = a ++ m ∧ printOf m = text ∧ ∀ n ∈ m, 0 ≤ n.d := by
  induction hk : text.length using Nat.strongRecOn generalizing text with
  | _ k ih =>
    intro a l h
    by_cases h0 : text = []
    · subst h0
      rw [parseL_end] at h
      cases h
      exact ⟨[], by simp, rfl, fun _ h => by cases h⟩
    by_cases h1 : ahead text = text.length
    · rw [parseL_torn a h0 h1] at h; cases h
    cases h2 : nodeOf (text.take (ahead text)) with
    | none => rw [parseL_bad a h0 h2] at h; cases h
    | some n =>
      rw [parseL_step a h0 h1 h2] at h
      have hpos := List.length_pos_iff.2 h0
      obtain ⟨m, hm1, hm2, hm3⟩ := ih (text.drop (ahead text + 1)).length (by simp; omega) _ rfl _ _ h
      obtain ⟨hb, hd⟩ := body_node h2
      have hle := ahead_le text
      refine ⟨n :: m, by simp [hm1], ?_, ?_⟩
      · have hs := ahead_split (s := text) (by omega)
        have : printOf (n :: m) = bodyOf n ++ 10 :: printOf m := by simp [printOf, line_body]
        rw [this, hm2, hb, ← hs]
      · intro x hx
        rcases List.mem_cons.1 hx with rfl | hx
        · exact hd
        · exact hm3 x hx
theorem parse_len (text : Str) : ∀ (a l : List Nd), parseL text a = .ok l → l.length ≤ a.length + text.length := by
  intro a l h
  obtain ⟨m, rfl, h2, _⟩ := print_parse text a l h
  rw [List.length_append, ← h2]
  have : ∀ m : List Nd, m.length ≤ (printOf m).length := by
    intro m
    induction m with
    | nil => simp
    | cons n m ih => simp [printOf, line_body] at ih ⊢; omega
  have := this m
  omega
end Go.Proofs.YtibakcohkdfnoaaDoor
