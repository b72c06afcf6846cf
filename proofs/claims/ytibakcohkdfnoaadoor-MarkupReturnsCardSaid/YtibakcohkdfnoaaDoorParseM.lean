/-
  Parse of markup: program and reference. Parse of markup: the program.
-/
import Derived.Test.YtibakcohkdfnoaaDoorLineM
import Derived.Test.YtibakcohkdfnoaaDoorNodeM
set_option linter.unusedSimpArgs false
set_option linter.unusedVariables false
namespace Go.Proofs.YtibakcohkdfnoaaDoor
open Go.Am
set_option maxRecDepth 10000
set_option maxHeartbeats 4000000

/-! ### strings.Cut -/

theorem index_ahead : ∀ s : Str, Lib.indexByte s 10 = if ahead s < s.length then (ahead s : Int) else -1
  | [] => by simp [Lib.indexByte, ahead]
  | c :: s => by
    have ih := index_ahead s
    simp only [Lib.indexByte, ahead, List.length_cons]
    by_cases h : c = 10
    · subst h; simp
    · simp only [ih, h, beq_iff_eq, if_false]
      by_cases h2 : ahead s < s.length
      · simp [h2]
        try omega
      · simp [h2]

theorem ansIndexByte (s : Str) : ansF cfg 77 [.str s, .int .u8 10] [] = some (.int .i64 (Lib.indexByte s 10), []) := by
  refine ans_of_wp fn77 low77 ?_
  simp (config := { maxSteps := 1000000 }) (disch := omega) [-List.map_replicate, -List.map_set, -List.getD_eq_getElem?_getD, -getElem?_pos, -getElem?_neg, wrap_i64, le_strLim, le_sliceLim, le_buildLim, le_sliceLimI, Int.tmod_eq_emod_of_nonneg, Int.tdiv_eq_ediv_of_nonneg, omLe, omLeN, omLt, omLtN, omEq, omEqN, onLe, onLeN, onLt, onLtN, onEq, onEqN, ir77, indexG]

theorem ansIndex (s : Str) (hs : s.length < 1000000) : ansF cfg 72 [.str s, .str [10]] [] = some (.int .i64 (Lib.indexByte s 10), []) := by
  refine ans_of_wp fn72 low72 ?_
  have h := ansIndexByte s
  by_cases h0 : s = [10]
  · subst h0
    simp (config := { maxSteps := 1000000 }) (disch := omega) [-List.map_replicate, -List.map_set, -List.getD_eq_getElem?_getD, -getElem?_pos, -getElem?_neg, wrap_i64, le_strLim, le_sliceLim, le_buildLim, le_sliceLimI, Int.tmod_eq_emod_of_nonneg, Int.tdiv_eq_ediv_of_nonneg, omLe, omLeN, omLt, omLtN, omEq, omEqN, onLe, onLeN, onLt, onLtN, onEq, onEqN, ir72]
    rfl
  · have h0' : ([10] : Str) ≠ s := fun e => h0 e.symm
    simp (config := { maxSteps := 1000000 }) (disch := omega) [-List.map_replicate, -List.map_set, -List.getD_eq_getElem?_getD, -getElem?_pos, -getElem?_neg, wrap_i64, le_strLim, le_sliceLim, le_buildLim, le_sliceLimI, Int.tmod_eq_emod_of_nonneg, Int.tdiv_eq_ediv_of_nonneg, omLe, omLeN, omLt, omLtN, omEq, omEqN, onLe, onLeN, onLt, onLtN, onEq, onEqN, ir72, h, h0, h0']

def cutA (s : Str) : AV := if ahead s < s.length then .tup [.str (s.take (ahead s)), .str (s.drop (ahead s + 1)), .bool true] else .tup [.str s, .str [], .bool false]
theorem ansCutL (s : Str) (hs : s.length < 1000000) : ansF cfg 61 [.str s, .str [10]] [] = some (cutA s, []) := by
  refine ans_of_wp fn61 low61 ?_
  have h := ansIndex s hs
  rw [index_ahead] at h
  have hl := ahead_le s
  unfold cutA
  by_cases h0 : ahead s < s.length
  · rw [if_pos h0] at h ⊢
    have t1 : ((ahead s : Int) + 1).toNat = ahead s + 1 := by omega
    generalize ahead s = k at *
    simp (config := { maxSteps := 1000000 }) (disch := omega) [-List.map_replicate, -List.map_set, -List.getD_eq_getElem?_getD, -getElem?_pos, -getElem?_neg, wrap_i64, le_strLim, le_sliceLim, le_buildLim, le_sliceLimI, Int.tmod_eq_emod_of_nonneg, Int.tdiv_eq_ediv_of_nonneg, omLe, omLeN, omLt, omLtN, omEq, omEqN, onLe, onLeN, onLt, onLtN, onEq, onEqN, ir61, h, t1]
  · rw [if_neg h0] at h ⊢
    simp (config := { maxSteps := 1000000 }) (disch := omega) [-List.map_replicate, -List.map_set, -List.getD_eq_getElem?_getD, -getElem?_pos, -getElem?_neg, wrap_i64, le_strLim, le_sliceLim, le_buildLim, le_sliceLimI, Int.tmod_eq_emod_of_nonneg, Int.tdiv_eq_ediv_of_nonneg, omLe, omLeN, omLt, omLtN, omEq, omEqN, onLe, onLeN, onLt, onLtN, onEq, onEqN, ir61, h]
theorem ansCut (s : Str) (hs : s.length < 1000000) : ansF cfg 50 [.str s, .str [10]] [] = some (cutA s, []) := by
  refine ans_of_wp fn50 low50 ?_
  have h := ansCutL s hs
  unfold cutA at h ⊢
  by_cases h0 : ahead s < s.length
  · rw [if_pos h0] at h ⊢
    simp (config := { maxSteps := 1000000 }) (disch := omega) [-List.map_replicate, -List.map_set, -List.getD_eq_getElem?_getD, -getElem?_pos, -getElem?_neg, wrap_i64, le_strLim, le_sliceLim, le_buildLim, le_sliceLimI, Int.tmod_eq_emod_of_nonneg, Int.tdiv_eq_ediv_of_nonneg, omLe, omLeN, omLt, omLtN, omEq, omEqN, onLe, onLeN, onLt, onLtN, onEq, onEqN, ir50, h]
  · rw [if_neg h0] at h ⊢
    simp (config := { maxSteps := 1000000 }) (disch := omega) [-List.map_replicate, -List.map_set, -List.getD_eq_getElem?_getD, -getElem?_pos, -getElem?_neg, wrap_i64, le_strLim, le_sliceLim, le_buildLim, le_sliceLimI, Int.tmod_eq_emod_of_nonneg, Int.tdiv_eq_ediv_of_nonneg, omLe, omLeN, omLt, omLtN, omEq, omEqN, onLe, onLeN, onLt, onLtN, onEq, onEqN, ir50, h]

/-! ### The reference -/

theorem ahead_step : ∀ (s : Str) (n : Nat), n ≤ ahead s → n < s.length → ((s.getD n 0).toNat = 10 ∧ ahead s = n) ∨ (¬ (s.getD n 0).toNat = 10 ∧ n + 1 ≤ ahead s)
  | [], n, _, h => by simp at h
  | c :: s, 0, _, _ => by
    simp only [ahead, List.getD_cons_zero]
    split
    · rename_i h; subst h; exact .inl ⟨rfl, rfl⟩
    · rename_i h; exact .inr ⟨fun e => h (UInt8.toNat_inj.1 e), by omega⟩
  | c :: s, n + 1, h1, h2 => by
    simp only [ahead] at h1 ⊢
    split at h1
    · omega
    · rename_i hc
      rw [if_neg hc]
      simp only [List.getD_cons_succ]
      rcases ahead_step s n (by omega) (by simpa using h2) with ⟨h3, h4⟩ | ⟨h3, h4⟩
      · exact .inl ⟨h3, by omega⟩
      · exact .inr ⟨h3, by omega⟩

theorem esc_ge : ∀ t : Str, t.length ≤ (esc t).length
  | [] => by simp
  | c :: t => by
    have h1 := esc1_length c
    have h2 := esc_ge t
    have : esc (c :: t) = esc1 c ++ esc t := by simp [esc]
    rw [this]
    simp only [List.length_cons, List.length_append]
    omega
theorem node_ok {s : Str} {n : Nd} (h : nodeOf s = some n) (hs : s.length < 1000000) : NdOk n := by
  obtain ⟨h1, h2⟩ := body_node h
  have h3 := congrArg List.length h1
  have h4 := esc_ge n.text
  have h5 : n.text.length ≤ (textOf n.text).length := by
    unfold textOf; split
    · rename_i h; simp [h]
    · simp; omega
  simp only [bodyOf, List.length_append, List.length_replicate] at h3
  exact ⟨by omega, by omega, by omega, by omega⟩

def parseA (text : Str) : AV :=
  if text.length > 65536 then .tup [.lst (some true) 0 [], .int .i64 0, .int .i64 8]
  else match parseL text [] with
    | .error n => .tup [.lst (some true) 0 [], .int .i64 (n : Int), .int .i64 3]
    | .ok l => if (faultOf l).2 = 0 then .tup [.lst none 3 (l.map ndA), .int .i64 0, .int .i64 0] else .tup [.lst (some true) 0 [], .int .i64 ((faultOf l).1 + 1), .int .i64 (faultOf l).2]
theorem parseA_bad {text : Str} {l : List Nd} (h0 : ¬ text.length > 65536) {r : Str} (h : parseF text [] = (r, l)) (hr : r ≠ []) : parseA text = .tup [.lst (some true) 0 [], .int .i64 ((l.length : Int) + 1), .int .i64 3] := by
  unfold parseA
  rw [if_neg h0]
  simp [parseL, h, hr]
theorem parseA_ok {text : Str} {l : List Nd} (h0 : ¬ text.length > 65536) (h : parseF text [] = ([], l)) : parseA text = if (faultOf l).2 = 0 then .tup [.lst none 3 (l.map ndA), .int .i64 0, .int .i64 0] else .tup [.lst (some true) 0 [], .int .i64 ((faultOf l).1 + 1), .int .i64 (faultOf l).2] := by
  unfold parseA
  rw [if_neg h0]
  simp [parseL, h]
theorem findErr_range : ∀ (l : List Nd) (i : Nat) (b : Int), -1 ≤ (findErr i b l).1 ∧ (findErr i b l).1 < (i + l.length : Nat)
  | [], _, _ => ⟨Int.le_refl _, by simp only [findErr]; omega⟩
  | n :: l, i, b => by
    simp only [findErr]
    have := findErr_range l (i + 1) n.d
    split
    · simp only [List.length_cons]; omega
    · simp only [List.length_cons]; omega
theorem fault_range (l : List Nd) : -1 ≤ (faultOf l).1 ∧ (faultOf l).1 < (l.length : Int) + 1 := by
  unfold faultOf
  split
  · simp only; omega
  · have := findErr_range l 0 (-1)
    omega

theorem ansParseR (text : Str) (hs : text.length < 100000) : ansF cfg 13 [.str text] [] = some (parseA text, []) := by
  refine ans_of_wp fn13 low13 ?_
  by_cases h0 : text.length > 65536
  · unfold parseA
    simp (config := { maxSteps := 1000000 }) (disch := omega) [-List.map_replicate, -List.map_set, -List.getD_eq_getElem?_getD, -getElem?_pos, -getElem?_neg, wrap_i64, le_strLim, le_sliceLim, le_buildLim, le_sliceLimI, Int.tmod_eq_emod_of_nonneg, Int.tdiv_eq_ediv_of_nonneg, omLe, omLeN, omLt, omLtN, omEq, omEqN, onLe, onLeN, onLt, onLtN, onEq, onEqN, ir13, h0]
  simp (config := { maxSteps := 1000000 }) (disch := omega) [-List.map_replicate, -List.map_set, -List.getD_eq_getElem?_getD, -getElem?_pos, -getElem?_neg, wrap_i64, le_strLim, le_sliceLim, le_buildLim, le_sliceLimI, Int.tmod_eq_emod_of_nonneg, Int.tdiv_eq_ediv_of_nonneg, omLe, omLeN, omLt, omLtN, omEq, omEqN, onLe, onLeN, onLt, onLtN, onEq, onEqN, ir13, h0]
  refine Wp.loopM (fun (a : Nat × Nat × List Nd) => text.length - a.1) (fun a => [some (.str text), none, none, none, some (.osl 0 a.2.2.length), some (.int .i64 a.2.1), some (.int .i64 a.1), none, none, none, none, none, none, none, none, none, none, none, none, none, none])
    (fun a => [.sl ⟨false, some 40⟩ 3 (a.2.2.map ndA)])
    (fun a => a.2.1 ≤ a.1 ∧ a.1 ≤ text.length ∧ a.1 - a.2.1 ≤ ahead (text.drop a.2.1) ∧ a.2.2.length ≤ a.2.1 ∧ (∀ n ∈ a.2.2, NdOk n) ∧ parseF text [] = parseF (text.drop a.2.1) a.2.2) ?_ (0, 0, []) ⟨by simp, by simp, by simp, by simp, by simp, by simp⟩ (by simp) (by simp)
  rintro ⟨i, p, l⟩ ⟨h1, h2, h3, h4, h5, h6⟩
  simp only at h1 h2 h3 h4 h5 h6 ⊢
  have hdl : (text.drop p).length = text.length - p := by simp
  by_cases k0 : i < text.length
  · have hg := get_str k0
    have hst := ahead_step (text.drop p) (i - p) h3 (by omega)
    have hgd : (text.drop p).getD (i - p) 0 = text.getD i 0 := by rw [getD_drop]; congr 1; omega
    rw [hgd] at hst
    rcases hst with ⟨k1, k2⟩ | ⟨k1, k2⟩
    · have hne : text.drop p ≠ [] := by intro e; rw [e] at hdl; simp at hdl; omega
      have hnl : ahead (text.drop p) ≠ (text.drop p).length := by omega
      have hsl : (text.take i).drop p = (text.drop p).take (i - p) := by rw [List.drop_take]
      have hN := ansNodeR2 ((text.drop p).take (i - p)) (by simp; omega)
      have hR := nodeRV_res ((text.drop p).take (i - p))
      have hlt : ((text.drop p).take (i - p)).length < 1000000 := by simp; omega
      have e10 : text.getD i 0 = 10 := UInt8.toNat_inj.1 k1
      rw [e10] at hg
      generalize nodeRV2 (tabs ((text.drop p).take (i - p))) (lets (((text.drop p).take (i - p)).drop (tabs ((text.drop p).take (i - p))))) (((text.drop p).take (i - p)).drop (tabs ((text.drop p).take (i - p)))) = x at hN hR
      cases hn : nodeOf ((text.drop p).take (i - p)) with
      | none =>
        rw [hn] at hR
        obtain ⟨d, t, u, rfl⟩ := hR
        have hbad := parseF_bad l hne (by rw [k2]; exact hn)
        rw [← h6] at hbad
        rw [parseA_bad h0 hbad hne]
        simp (config := { maxSteps := 1000000 }) (disch := omega) [-List.map_replicate, -List.map_set, -List.getD_eq_getElem?_getD, -getElem?_pos, -getElem?_neg, wrap_i64, le_strLim, le_sliceLim, le_buildLim, le_sliceLimI, Int.tmod_eq_emod_of_nonneg, Int.tdiv_eq_ediv_of_nonneg, omLe, omLeN, omLt, omLtN, omEq, omEqN, onLe, onLeN, onLt, onLtN, onEq, onEqN, hg, hsl, hN, splice]
      | some n =>
        rw [hn] at hR
        obtain rfl : x = _ := hR
        have hok := node_ok hn hlt
        have hstep := parseF_step l hne hnl (by rw [k2]; exact hn)
        rw [k2, List.drop_drop, ← h6] at hstep
        have e1 : p + (i - p + 1) = i + 1 := by omega
        rw [e1] at hstep
        have nx : ∃ (a b : Nat) (c : List Nd), (b ≤ a ∧ a ≤ text.length ∧ a - b ≤ ahead (text.drop b) ∧ c.length ≤ b ∧ (∀ n ∈ c, NdOk n) ∧ parseF text [] = parseF (text.drop b) c) ∧ text.length - a < text.length - i ∧ (l.length + 1 = c.length) ∧ ((i : Int) + 1 = b) ∧ ((i : Int) + 1 = a) ∧ (l.map ndA ++ [ndA n]) = c.map ndA := by
          refine ⟨i + 1, i + 1, l ++ [n], ⟨by omega, by omega, by omega, by simp; omega, ?_, hstep⟩, by omega, by simp, by omega, by omega, by simp⟩
          intro m hm
          rcases List.mem_append.1 hm with hm | hm
          · exact h5 m hm
          · obtain rfl : m = n := by simpa using hm
            exact hok
        clear h6 hstep hn
        obtain ⟨a, b, c, q1, q2, q3, q4, q5, q6⟩ := nx
        simp (config := { maxSteps := 1000000 }) (disch := omega) [-List.map_replicate, -List.map_set, -List.getD_eq_getElem?_getD, -getElem?_pos, -getElem?_neg, wrap_i64, le_strLim, le_sliceLim, le_buildLim, le_sliceLimI, Int.tmod_eq_emod_of_nonneg, Int.tdiv_eq_ediv_of_nonneg, omLe, omLeN, omLt, omLtN, omEq, omEqN, onLe, onLeN, onLt, onLtN, onEq, onEqN, hg, hsl, hN, splice]
        exact ⟨a, b, c, ⟨q1.1, q1.2.1, by omega, q1.2.2.2⟩, q2, ⟨q3, q4, q5⟩, q6⟩
    · generalize text.getD i 0 = c at *
      simp (config := { maxSteps := 1000000 }) (disch := omega) [-List.map_replicate, -List.map_set, -List.getD_eq_getElem?_getD, -getElem?_pos, -getElem?_neg, wrap_i64, le_strLim, le_sliceLim, le_buildLim, le_sliceLimI, Int.tmod_eq_emod_of_nonneg, Int.tdiv_eq_ediv_of_nonneg, omLe, omLeN, omLt, omLtN, omEq, omEqN, onLe, onLeN, onLt, onLtN, onEq, onEqN, hg, k1]
      exact ⟨i + 1, p, l, ⟨by omega, by omega, by omega, by omega, h5, h6⟩, by omega, ⟨rfl, rfl, by omega⟩, rfl⟩
  · have k1 : i = text.length := by omega
    subst k1
    by_cases k2 : p < text.length
    · have hne : text.drop p ≠ [] := by intro e; rw [e] at hdl; simp at hdl; omega
      have hbad := parseF_torn l hne (by have := ahead_le (text.drop p); omega)
      rw [← h6] at hbad
      rw [parseA_bad h0 hbad hne]
      simp (config := { maxSteps := 1000000 }) (disch := omega) [-List.map_replicate, -List.map_set, -List.getD_eq_getElem?_getD, -getElem?_pos, -getElem?_neg, wrap_i64, le_strLim, le_sliceLim, le_buildLim, le_sliceLimI, Int.tmod_eq_emod_of_nonneg, Int.tdiv_eq_ediv_of_nonneg, omLe, omLeN, omLt, omLtN, omEq, omEqN, onLe, onLeN, onLt, onLtN, onEq, onEqN, k2]
    · have hnil : text.drop p = [] := List.drop_of_length_le (by omega)
      rw [hnil, parseF_end] at h6
      rw [parseA_ok h0 h6]
      have hf := ansFind none 3 l (fun _ => rfl) h5 (by omega)
      have hr := fault_range l
      by_cases k3 : (faultOf l).2 = 0
      · simp (config := { maxSteps := 1000000 }) (disch := omega) [-List.map_replicate, -List.map_set, -List.getD_eq_getElem?_getD, -getElem?_pos, -getElem?_neg, wrap_i64, le_strLim, le_sliceLim, le_buildLim, le_sliceLimI, Int.tmod_eq_emod_of_nonneg, Int.tdiv_eq_ediv_of_nonneg, omLe, omLeN, omLt, omLtN, omEq, omEqN, onLe, onLeN, onLt, onLtN, onEq, onEqN, k2, hf, k3]
      · simp (config := { maxSteps := 1000000 }) (disch := omega) [-List.map_replicate, -List.map_set, -List.getD_eq_getElem?_getD, -getElem?_pos, -getElem?_neg, wrap_i64, le_strLim, le_sliceLim, le_buildLim, le_sliceLimI, Int.tmod_eq_emod_of_nonneg, Int.tdiv_eq_ediv_of_nonneg, omLe, omLeN, omLt, omLtN, omEq, omEqN, onLe, onLeN, onLt, onLtN, onEq, onEqN, k2, hf, k3]
end Go.Proofs.YtibakcohkdfnoaaDoor

namespace Go.Proofs.YtibakcohkdfnoaaDoor
open Go.Am
set_option maxRecDepth 10000
set_option maxHeartbeats 4000000

theorem ansLinesP (text : Str) (bs : List Box) : ansF cfg 33 [.str text] bs = some (.fn 49 [] [.ptr bs.length 0], bs ++ [.var 9 [.str text]]) := by
  refine ans_of_wp fn33 low33 ?_
  simp (config := { maxSteps := 1000000 }) (disch := omega) [-List.map_replicate, -List.map_set, -List.getD_eq_getElem?_getD, -getElem?_pos, -getElem?_neg, wrap_i64, le_strLim, le_sliceLim, le_buildLim, le_sliceLimI, Int.tmod_eq_emod_of_nonneg, Int.tdiv_eq_ediv_of_nonneg, omLe, omLeN, omLt, omLtN, omEq, omEqN, onLe, onLeN, onLt, onLtN, onEq, onEqN, ir33]
theorem ansLinesP0 (text : Str) : ansF cfg 33 [.str text] [] = some (.fn 49 [] [.ptr 0 0], [.var 9 [.str text]]) := ansLinesP text []

/-- the variables where the loop begins -/
def envP (text : Str) : List AV := [.str text, .ptr 0 0, .ptr 1 0, .ptr 2 0, .ptr 4 0, .any, .any, .any, .any, .any, .any, .any, .fn 49 [] [.ptr 6 0], .any, .any, .any, .any, .any, .any, .any, .any, .any, .any]
/-- the boxes -/
def boxP (rest : Str) (l : List Nd) (st : LSt) : List Box :=
  [.var 23 [.osl 3 0], .var 3 [.int .i64 0], .var 24 [.int .i64 0], .sl ⟨false, some 40⟩ 3 [], .var 23 [.osl 5 l.length], .sl ⟨false, some 40⟩ 3 (l.map ndA), .var 9 [.str rest], .loop st]
/-- the boxes where a round has returned -/
def boxE (rest : Str) (l : List Nd) : List Box :=
  [.var 23 [.lst (some true) 0 []], .var 3 [.int .i64 ((l.length : Int) + 1)], .var 24 [.int .i64 3], .sl ⟨false, some 40⟩ 3 [], .var 23 [.osl 5 l.length], .sl ⟨false, some 40⟩ 3 (l.map ndA), .var 9 [.str rest], .loop (.done .ret)]

theorem roundP (text line : Str) (w : Bool) : roundV site12_0 (envP text) [.str line, .bool w] =
    [some (.str text), some (.ptr 0 0), some (.ptr 1 0), some (.ptr 2 0), some (.ptr 4 0), some .any, some .any, some .any, some .any, some .any, some .any, some .any, some (.fn 49 [] [.ptr 6 0]), some (.str line), some (.bool w), some .any, some .any, some .any, some .any, some .any, some .any, some .any, some .any] := by kernel_rfl

theorem yldOk (text rest line : Str) (l : List Nd) (n : Nd) (h : nodeOf line = some n) (hl : line.length < 100000) (hll : l.length < 100000) :
    ansT cfg (.yld 7 site12_0 (envP text)) [.str line, .bool true] (boxP rest l .ready) = some (.bool true, boxP rest (l ++ [n]) .ready) := by
  obtain ⟨x, h1, h2⟩ := ansNodeP line hl
  rw [h] at h2
  obtain rfl : x = _ := h2
  refine yld_of_wp lowS12_0 (by kernel_rfl) (by kernel_rfl) rfl ?_
  rw [roundP]
  unfold boxP
  simp (config := { maxSteps := 1000000 }) (disch := omega) [-List.map_replicate, -List.map_set, -List.getD_eq_getElem?_getD, -getElem?_pos, -getElem?_neg, wrap_i64, le_strLim, le_sliceLim, le_buildLim, le_sliceLimI, Int.tmod_eq_emod_of_nonneg, Int.tdiv_eq_ediv_of_nonneg, omLe, omLeN, omLt, omLtN, omEq, omEqN, onLe, onLeN, onLt, onLtN, onEq, onEqN, irA12_0, irB12_0, h1, splice, endSt, Ex.isNormal]
  rfl
theorem opT1 (ty a : Nat) (v : Value) : opTmps (.store ty (.tmp a) (.const v)) = [a] := rfl
theorem opT2 (ty a b : Nat) : opTmps (.store ty (.tmp a) (.tmp b)) = [a, b] := rfl
theorem yldBad (text rest line : Str) (l : List Nd) (w : Bool) (h : nodeOf line = none ∨ w = false) (hl : line.length < 100000) (hll : l.length < 100000) :
    ansT cfg (.yld 7 site12_0 (envP text)) [.str line, .bool w] (boxP rest l .ready) = some (.bool false, boxE rest l) := by
  obtain ⟨x, h1, h2⟩ := ansNodeP line hl
  have hx : ∃ d t u b, x = .tup [.agg [.int .i64 d, .str t, .str u], .bool b] ∧ (b && w) = false := by
    cases hn : nodeOf line with
    | none =>
      rw [hn] at h2
      obtain ⟨d, t, u, rfl⟩ := h2
      exact ⟨d, t, u, false, rfl, rfl⟩
    | some n =>
      rw [hn] at h2
      obtain rfl : x = _ := h2
      rw [hn] at h
      refine ⟨_, _, _, true, rfl, ?_⟩
      rcases h with h | h
      · cases h
      · simp [h]
  obtain ⟨d, t, u, b, rfl, hb⟩ := hx
  have hb' : (!b || !w) = true := by cases b <;> cases w <;> simp_all
  refine yld_of_wp lowS12_0 (by kernel_rfl) (by kernel_rfl) rfl ?_
  rw [roundP]
  unfold boxP boxE
  simp (config := { maxSteps := 1000000 }) (disch := omega) [-List.map_replicate, -List.map_set, -List.getD_eq_getElem?_getD, -getElem?_pos, -getElem?_neg, wrap_i64, le_strLim, le_sliceLim, le_buildLim, le_sliceLimI, Int.tmod_eq_emod_of_nonneg, Int.tdiv_eq_ediv_of_nonneg, omLe, omLeN, omLt, omLtN, omEq, omEqN, onLe, onLeN, onLt, onLtN, onEq, onEqN, irA12_0, irB12_0, h1, hb', splice, endSt, Ex.isNormal, -opTmps, opT1, opT2]

theorem parseF_ok : ∀ (text : Str) (l : List Nd) {r : Str} {m : List Nd}, parseF text l = (r, m) → text.length < 1000000 → (∀ n ∈ l, NdOk n) → m.length ≤ l.length + text.length ∧ ∀ n ∈ m, NdOk n := by
  intro text
  induction hk : text.length using Nat.strongRecOn generalizing text with
  | _ k ih =>
    intro l r m h hlen hl
    by_cases h0 : text = []
    · subst h0; rw [parseF_end] at h; cases h; exact ⟨by omega, hl⟩
    by_cases h1 : ahead text = text.length
    · rw [parseF_torn l h0 h1] at h; cases h; exact ⟨by omega, hl⟩
    cases h2 : nodeOf (text.take (ahead text)) with
    | none => rw [parseF_bad l h0 h2] at h; cases h; exact ⟨by omega, hl⟩
    | some n =>
      rw [parseF_step l h0 h1 h2] at h
      have hpos := List.length_pos_iff.2 h0
      have hle := ahead_le text
      obtain ⟨q1, q2⟩ := ih (text.drop (ahead text + 1)).length (by simp; omega) _ rfl _ h (by simp; omega) (fun x hx => by
        rcases List.mem_append.1 hx with hx | hx
        · exact hl x hx
        · obtain rfl : x = n := by simpa using hx
          exact node_ok h2 (by simp; omega))
      simp only [List.length_append, List.length_singleton, List.length_drop] at q1
      exact ⟨by omega, q2⟩

/-- the lines of a text, each given to the loop's body -/
theorem ansLoopP (text : Str) (hs : text.length < 66000) : ansF cfg 49 [.yld 7 site12_0 (envP text), .ptr 6 0] (boxP text [] .ready) =
    some (.tup [], if (parseF text []).1 = [] then boxP [] (parseF text []).2 .ready else boxE (parseF text []).1 (parseF text []).2) := by
  refine ans_of_wp fn49 low49 ?_
  simp (config := { maxSteps := 1000000 }) (disch := omega) [-List.map_replicate, -List.map_set, -List.getD_eq_getElem?_getD, -getElem?_pos, -getElem?_neg, wrap_i64, le_strLim, le_sliceLim, le_buildLim, le_sliceLimI, Int.tmod_eq_emod_of_nonneg, Int.tdiv_eq_ediv_of_nonneg, omLe, omLeN, omLt, omLtN, omEq, omEqN, onLe, onLeN, onLt, onLtN, onEq, onEqN, ir49]
  refine Wp.loopM (fun (a : Str × List Nd) => a.1.length) (fun a => [some (.yld 7 site12_0 (envP text)), some (.ptr 6 0), none, none, none, none, none, none, none]) (fun a => boxP a.1 a.2 .ready)
    (fun a => a.1.length + a.2.length ≤ text.length ∧ parseF text [] = parseF a.1 a.2) ?_ (text, []) ⟨by simp, rfl⟩ (by simp) rfl
  rintro ⟨r, l⟩ ⟨h1, h2⟩
  simp only at h1 h2 ⊢
  have ha := ahead_le r
  by_cases h0 : r = []
  · subst h0
    rw [parseF_end] at h2
    rw [h2]
    unfold boxP
    simp (config := { maxSteps := 1000000 }) (disch := omega) [-List.map_replicate, -List.map_set, -List.getD_eq_getElem?_getD, -getElem?_pos, -getElem?_neg, wrap_i64, le_strLim, le_sliceLim, le_buildLim, le_sliceLimI, Int.tmod_eq_emod_of_nonneg, Int.tdiv_eq_ediv_of_nonneg, omLe, omLeN, omLt, omLtN, omEq, omEqN, onLe, onLeN, onLt, onLtN, onEq, onEqN]
  · have hne : (r == ([] : Str)) = false := by simpa using h0
    have hc := ansCut r (by omega)
    unfold cutA at hc
    by_cases h3 : ahead r < r.length
    · rw [if_pos h3] at hc
      cases hn : nodeOf (r.take (ahead r)) with
      | none =>
        have hy := yldBad text r (r.take (ahead r)) l true (.inl hn) (by simp; omega) (by omega)
        have hb := parseF_bad l h0 hn
        rw [← h2] at hb
        rw [hb]
        simp only [if_neg h0]
        unfold boxP at hy ⊢
        simp (config := { maxSteps := 1000000 }) (disch := omega) [-List.map_replicate, -List.map_set, -List.getD_eq_getElem?_getD, -getElem?_pos, -getElem?_neg, wrap_i64, le_strLim, le_sliceLim, le_buildLim, le_sliceLimI, Int.tmod_eq_emod_of_nonneg, Int.tdiv_eq_ediv_of_nonneg, omLe, omLeN, omLt, omLtN, omEq, omEqN, onLe, onLeN, onLt, onLtN, onEq, onEqN, h0, hne, hc, hy]
        rfl
      | some n =>
        have hy := yldOk text r (r.take (ahead r)) l n hn (by simp; omega) (by omega)
        have hst := parseF_step l h0 (by omega) hn
        rw [← h2] at hst
        unfold boxP at hy
        simp (config := { maxSteps := 1000000 }) (disch := omega) [-List.map_replicate, -List.map_set, -List.getD_eq_getElem?_getD, -getElem?_pos, -getElem?_neg, wrap_i64, le_strLim, le_sliceLim, le_buildLim, le_sliceLimI, Int.tmod_eq_emod_of_nonneg, Int.tdiv_eq_ediv_of_nonneg, omLe, omLeN, omLt, omLtN, omEq, omEqN, onLe, onLeN, onLt, onLtN, onEq, onEqN, h0, hne, hc, hy, boxP, splice]
        exact ⟨r.drop (ahead r + 1), l ++ [n], ⟨by simp; omega, hst⟩, by simp; omega, by simp, by simp, rfl⟩
    · rw [if_neg h3] at hc
      have hy := yldBad text r r l false (.inr rfl) (by omega) (by omega)
      have hb := parseF_torn l h0 (by omega)
      rw [← h2] at hb
      rw [hb]
      simp only [if_neg h0]
      unfold boxP at hy ⊢
      simp (config := { maxSteps := 1000000 }) (disch := omega) [-List.map_replicate, -List.map_set, -List.getD_eq_getElem?_getD, -getElem?_pos, -getElem?_neg, wrap_i64, le_strLim, le_sliceLim, le_buildLim, le_sliceLimI, Int.tmod_eq_emod_of_nonneg, Int.tdiv_eq_ediv_of_nonneg, omLe, omLeN, omLt, omLtN, omEq, omEqN, onLe, onLeN, onLt, onLtN, onEq, onEqN, h0, hne, hc, hy]
      rfl

theorem ansParseP (text : Str) (hs : text.length < 100000) : ansF cfg 12 [.str text] [] = some (parseA text, []) := by
  refine ans_of_wp fn12 low12 ?_
  by_cases h0 : text.length > 65536
  · unfold parseA
    simp (config := { maxSteps := 1000000 }) (disch := omega) [-List.map_replicate, -List.map_set, -List.getD_eq_getElem?_getD, -getElem?_pos, -getElem?_neg, wrap_i64, le_strLim, le_sliceLim, le_buildLim, le_sliceLimI, Int.tmod_eq_emod_of_nonneg, Int.tdiv_eq_ediv_of_nonneg, omLe, omLeN, omLt, omLtN, omEq, omEqN, onLe, onLeN, onLt, onLtN, onEq, onEqN, ir12, h0, splice]
  simp (config := { maxSteps := 1000000 }) (disch := omega) [-List.map_replicate, -List.map_set, -List.getD_eq_getElem?_getD, -getElem?_pos, -getElem?_neg, wrap_i64, le_strLim, le_sliceLim, le_buildLim, le_sliceLimI, Int.tmod_eq_emod_of_nonneg, Int.tdiv_eq_ediv_of_nonneg, omLe, omLeN, omLt, omLtN, omEq, omEqN, onLe, onLeN, onLt, onLtN, onEq, onEqN, ir12, h0, ansLinesP, ansLinesP0]
  have hl := ansLoopP text (by omega)
  obtain ⟨r, l, hf⟩ : ∃ r l, parseF text [] = (r, l) := ⟨_, _, rfl⟩
  rw [hf] at hl
  simp only at hl
  by_cases hr : r = []
  · subst hr
    rw [if_pos rfl] at hl
    refine Wp.rng (f := 49) (caps := [.ptr 6 0]) (st := .ready) (e := .normal) rfl rfl hl rfl rfl ?_
    have hp := parseA_ok h0 hf
    have hok := parseF_ok text [] hf (by omega) (fun _ h => by cases h)
    have hfl := ansFault none 3 l (fun _ => rfl) hok.2 (by have := hok.1; simp only [List.length_nil] at this; omega)
    have hfr := fault_range l
    rw [hp]
    have hol : l.length < 100000 := by have := hok.1; simp only [List.length_nil] at this; omega
    unfold boxP
    by_cases k : (faultOf l).2 = 0
    · simp (config := { maxSteps := 1000000 }) (disch := omega) [-List.map_replicate, -List.map_set, -List.getD_eq_getElem?_getD, -getElem?_pos, -getElem?_neg, wrap_i64, le_strLim, le_sliceLim, le_buildLim, le_sliceLimI, Int.tmod_eq_emod_of_nonneg, Int.tdiv_eq_ediv_of_nonneg, omLe, omLeN, omLt, omLtN, omEq, omEqN, onLe, onLeN, onLt, onLtN, onEq, onEqN, hfl, k, splice]
    · simp (config := { maxSteps := 1000000 }) (disch := omega) [-List.map_replicate, -List.map_set, -List.getD_eq_getElem?_getD, -getElem?_pos, -getElem?_neg, wrap_i64, le_strLim, le_sliceLim, le_buildLim, le_sliceLimI, Int.tmod_eq_emod_of_nonneg, Int.tdiv_eq_ediv_of_nonneg, omLe, omLeN, omLt, omLtN, omEq, omEqN, onLe, onLeN, onLt, onLtN, onEq, onEqN, hfl, k, splice]
  · rw [if_neg hr] at hl
    refine Wp.rng (f := 49) (caps := [.ptr 6 0]) (st := .done .ret) (e := .ret) rfl rfl hl rfl rfl ?_
    have hp := parseA_bad h0 hf hr
    rw [hp]
    unfold boxE
    simp (config := { maxSteps := 1000000 }) (disch := omega) [-List.map_replicate, -List.map_set, -List.getD_eq_getElem?_getD, -getElem?_pos, -getElem?_neg, wrap_i64, le_strLim, le_sliceLim, le_buildLim, le_sliceLimI, Int.tmod_eq_emod_of_nonneg, Int.tdiv_eq_ediv_of_nonneg, omLe, omLeN, omLt, omLtN, omEq, omEqN, onLe, onLeN, onLt, onLtN, onEq, onEqN]
theorem ansParsePL (text : Str) (h0 : text.length > 65536) : ansF cfg 12 [.str text] [] = some (.tup [.lst (some true) 0 [], .int .i64 0, .int .i64 8], []) := by
  refine ans_of_wp fn12 low12 ?_
  simp (config := { maxSteps := 1000000 }) (disch := omega) [-List.map_replicate, -List.map_set, -List.getD_eq_getElem?_getD, -getElem?_pos, -getElem?_neg, wrap_i64, le_strLim, le_sliceLim, le_buildLim, le_sliceLimI, Int.tmod_eq_emod_of_nonneg, Int.tdiv_eq_ediv_of_nonneg, omLe, omLeN, omLt, omLtN, omEq, omEqN, onLe, onLeN, onLt, onLtN, onEq, onEqN, ir12, h0, splice]
end Go.Proofs.YtibakcohkdfnoaaDoor
