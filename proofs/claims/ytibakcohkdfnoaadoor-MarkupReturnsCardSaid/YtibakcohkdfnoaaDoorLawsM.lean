/-
  The example that every law of markup checks first; what comes in. The laws of markup, for the abstract machine: all but MarkupPieces.
-/
import Derived.Test.YtibakcohkdfnoaaDoorParseM
import Derived.Test.YtibakcohkdfnoaaDoorTreeM
import Derived.Test.YtibakcohkdfnoaaDoorNodeM
import Derived.Test.YtibakcohkdfnoaaDoorAmShape2
set_option linter.unusedSimpArgs false
set_option linter.unusedVariables false
namespace Go.Proofs.YtibakcohkdfnoaaDoor
open Go.Am Go.RowKit
set_option maxRecDepth 100000
set_option maxHeartbeats 4000000

theorem parse_of_print {l : List Nd} (h : (faultOf l).2 = 0) (hl : (printOf l).length ≤ 65536) : parseA (printOf l) = .tup [.lst none 3 (l.map ndA), .int .i64 0, .int .i64 0] := by
  obtain ⟨_, _, hf⟩ := fault_fine h
  have h1 := parse_print l [] hf
  unfold parseA
  rw [if_neg (by omega), h1]
  simp [h]

def ab : List Nd := [⟨0, [102, 111, 110, 100, 115], [84, 111, 119, 110]⟩, ⟨1, [109, 97, 114, 107], [65, 92, 66]⟩, ⟨1, [112], []⟩]
def abText : Str := [102, 111, 110, 100, 115, 32, 84, 111, 119, 110, 10, 9, 109, 97, 114, 107, 32, 65, 92, 92, 66, 10, 9, 112, 10]
theorem ab_fault : (faultOf ab).2 = 0 := by kernel_rfl
theorem ab_print : printOf ab = abText := by kernel_rfl
theorem ab_inside0 : inside ab 0 = true := by kernel_rfl
theorem ab_inside2 : inside ab 2 = true := by kernel_rfl
theorem ab_below : belowOf ab 0 = 2 := by kernel_rfl
theorem ab_par : parOf ab 2 = 0 := by kernel_rfl
theorem ab_pr : pr ab 2 = 0 := by kernel_rfl
theorem ab_pr0 : pr ab 0 = -1 := by kernel_rfl
theorem ab_path : pathL ab 2 = [0, 2] := by
  rw [pathL_step (by rw [ab_pr]; decide), ab_pr, pathL_root (by rw [show (0 : Int).toNat = 0 from rfl, ab_pr0]; decide)]
  rfl
theorem ab_ok : ∀ n ∈ ab, NdOk n := by
  intro n hn
  simp only [ab, List.mem_cons, List.mem_nil_iff, or_false] at hn
  rcases hn with rfl | rfl | rfl <;> exact ⟨by decide, by decide, by decide, by decide⟩

theorem ansAwake : ansF cfg 11 [] [] = some (.bool true, []) := by
  refine ans_of_wp fn11 low11 ?_
  have h1 : ansF cfg 19 [.lst none 3 [.agg [.int .i64 0, .str [102, 111, 110, 100, 115], .str [84, 111, 119, 110]], .agg [.int .i64 1, .str [109, 97, 114, 107], .str [65, 92, 66]], .agg [.int .i64 1, .str [112], .str []]]] [] = _ := ansPrintP none 3 ab (fun _ => rfl) ab_ok (by decide)
  have e1 : printA ab = .tup [.str [102, 111, 110, 100, 115, 32, 84, 111, 119, 110, 10, 9, 109, 97, 114, 107, 32, 65, 92, 92, 66, 10, 9, 112, 10], .int .i64 0] := by
    unfold printA
    rw [if_pos ab_fault, ab_print]; rfl
  rw [e1] at h1
  have h2 : ansF cfg 12 [.str [102, 111, 110, 100, 115, 32, 84, 111, 119, 110, 10, 9, 109, 97, 114, 107, 32, 65, 92, 92, 66, 10, 9, 112, 10]] [] = _ := ansParseP abText (by decide)
  have e2 : parseA abText = .tup [.lst none 3 [.agg [.int .i64 0, .str [102, 111, 110, 100, 115], .str [84, 111, 119, 110]], .agg [.int .i64 1, .str [109, 97, 114, 107], .str [65, 92, 66]], .agg [.int .i64 1, .str [112], .str []]], .int .i64 0, .int .i64 0] := by
    rw [← ab_print, parse_of_print ab_fault (by rw [ab_print]; decide)]; rfl
  rw [e2] at h2
  have h3 : ansF cfg 32 [.lst none 3 [.agg [.int .i64 0, .str [102, 111, 110, 100, 115], .str [84, 111, 119, 110]], .agg [.int .i64 1, .str [109, 97, 114, 107], .str [65, 92, 66]], .agg [.int .i64 1, .str [112], .str []]], .lst none 3 [.agg [.int .i64 0, .str [102, 111, 110, 100, 115], .str [84, 111, 119, 110]], .agg [.int .i64 1, .str [109, 97, 114, 107], .str [65, 92, 66]], .agg [.int .i64 1, .str [112], .str []]]] [] = some (.bool (decide (ab = ab)), []) := ansEqN none none 3 3 ab ab (fun _ => rfl) (fun _ => rfl) (by decide) (by decide)
  rw [decide_eq_true rfl] at h3
  have h4 : ansF cfg 23 [.lst none 3 [.agg [.int .i64 0, .str [102, 111, 110, 100, 115], .str [84, 111, 119, 110]], .agg [.int .i64 1, .str [109, 97, 114, 107], .str [65, 92, 66]], .agg [.int .i64 1, .str [112], .str []]], .int .i64 0] [] = _ := ansBelP none 3 ab (fun _ => rfl) ab_ok (by decide) 0 (by decide)
  rw [ab_below] at h4
  have h5 : ansF cfg 22 [.lst none 3 [.agg [.int .i64 0, .str [102, 111, 110, 100, 115], .str [84, 111, 119, 110]], .agg [.int .i64 1, .str [109, 97, 114, 107], .str [65, 92, 66]], .agg [.int .i64 1, .str [112], .str []]], .int .i64 2] [] = some (.lst none 1 ((pathL ab 2).map (AV.int .i64)), []) := ansPathP none 3 ab (fun _ => rfl) ab_ok (by decide) 2 ab_inside2
  rw [ab_path] at h5
  have h6 : ansF cfg 25 [.lst none 1 [.int .i64 0, .int .i64 2], .lst none 1 [.int .i64 0, .int .i64 2]] [] = some (.bool (decide (([0, 2] : List Int) = [0, 2])), []) := ansEqI none none 1 1 [0, 2] [0, 2] (fun _ => rfl) (fun _ => rfl) (by decide) (by decide)
  rw [decide_eq_true rfl] at h6
  have h7 : ansF cfg 24 [.lst none 3 [.agg [.int .i64 0, .str [102, 111, 110, 100, 115], .str [84, 111, 119, 110]], .agg [.int .i64 1, .str [109, 97, 114, 107], .str [65, 92, 66]], .agg [.int .i64 1, .str [112], .str []]], .int .i64 2] [] = _ := ansParP none 3 ab (fun _ => rfl) ab_ok (by decide) 2 (by decide)
  rw [ab_par] at h7
  simp (config := { maxSteps := 1000000 }) (disch := omega) [-List.map_replicate, -List.map_set, -List.getD_eq_getElem?_getD, -getElem?_pos, -getElem?_neg, wrap_i64, le_strLim, le_sliceLim, le_buildLim, le_sliceLimI, Int.tmod_eq_emod_of_nonneg, Int.tdiv_eq_ediv_of_nonneg, ir11, h1, h2, h3, h4, h5, h6, h7, splice]


/-! ### What comes in -/

def NdIn (n : Nd) : Prop := -9223372036854775808 ≤ n.d ∧ n.d < 9223372036854775808 ∧ n.tag.length ≤ maxLen ∧ n.text.length ≤ maxLen

theorem shp_nd {m : Nat} {cs : List AV} (h : Shp Tryd.prog m 40 cs) : ∃ n : Nd, NdIn n ∧ elemOfCells (aggU (Tryd.prog.underlying 40)) cs = ndA n := by
  have hfs : Tryd.prog.underlying 40 = some (.struct (fieldsAt Tryd.prog 40)) := by kernel_rfl
  have hft : (fieldsAt Tryd.prog 40).toList.map (·.type) = [3, 9, 9] := by kernel_rfl
  obtain ⟨m, hs⟩ := h.struct hfs
  rw [hft] at hs
  obtain ⟨a, r, rfl, ha, b, r2, rfl, hb, c, r3, rfl, hc, rfl⟩ := hs
  obtain ⟨x, rfl, hx⟩ := ha.int (k := .i64) (by kernel_rfl)
  obtain ⟨s, rfl, hs⟩ := hb.str (by kernel_rfl)
  obtain ⟨t, rfl, ht⟩ := hc.str (by kernel_rfl)
  simp [Lit.wf, IntKind.min, IntKind.max, IntKind.signed, IntKind.bits] at hx
  refine ⟨⟨x, s, t⟩, ⟨by simp only; omega, by simp only; omega, hs, ht⟩, ?_⟩
  rw [hfs]; rfl

theorem args_str {xs : List AV} (h : ShpArgs Tryd.prog [9] xs) : ∃ s : Str, xs = [.str s] ∧ s.length ≤ maxLen := by
  obtain ⟨n, cs, r, rfl, h1, rfl⟩ := h
  obtain ⟨s, rfl, hs⟩ := h1.str (by kernel_rfl)
  exact ⟨s, rfl, hs⟩
theorem args_doc {ts : List TypeId} {xs : List AV} (h : ShpArgs Tryd.prog (23 :: ts) xs) : ∃ (nl : Bool) (z : Nat) (l : List Nd) (r : List AV), xs = .lst (some nl) z (l.map ndA) :: r ∧ (l ≠ [] → z = 3) ∧ (nl = true → z = 0 ∧ l = []) ∧ l.length ≤ maxLen ∧ (∀ n ∈ l, NdIn n) ∧ ShpArgs Tryd.prog ts r := by
  obtain ⟨n, cs, r, rfl, h1, h2⟩ := h
  obtain ⟨nl, z, l, rfl, k1, k2, k3, k4⟩ := h1.sliceMap (e := 40) ndA NdIn (by kernel_rfl) 3 (by kernel_rfl) (by decide) (fun _ _ h => shp_nd h)
  refine ⟨nl, z, l, r, rfl, fun hl => k1 0 (List.length_pos_iff.2 hl), k2, k3, k4, h2⟩
theorem args_int {xs : List AV} (h : ShpArgs Tryd.prog [3] xs) : ∃ i : Int, xs = [.int .i64 i] ∧ -9223372036854775808 ≤ i ∧ i < 9223372036854775808 := by
  obtain ⟨n, cs, r, rfl, h1, rfl⟩ := h
  obtain ⟨x, rfl, hx⟩ := h1.int (k := .i64) (by kernel_rfl)
  simp [Lit.wf, IntKind.min, IntKind.max, IntKind.signed, IntKind.bits] at hx
  exact ⟨x, rfl, by omega, by omega⟩

theorem few_ok {l : List Nd} (h : fewOf l = true) (hi : ∀ n ∈ l, NdIn n) : l.length ≤ 514 ∧ ∀ n ∈ l, NdOk n := by
  simp only [fewOf, Bool.and_eq_true, Bool.not_eq_true', Bool.or_eq_false_iff, decide_eq_false_iff_not, List.all_eq_true] at h
  refine ⟨by omega, fun n hn => ?_⟩
  have h1 := h.2 n hn
  simp only [few1, Bool.not_eq_true', Bool.or_eq_false_iff, decide_eq_false_iff_not] at h1
  obtain ⟨k1, k2, _, _⟩ := hi n hn
  exact ⟨k1, k2, by omega, by omega⟩
end Go.Proofs.YtibakcohkdfnoaaDoor

namespace Go.Proofs.YtibakcohkdfnoaaDoor
open Go.Am Go.RowKit
set_option maxRecDepth 10000
set_option maxHeartbeats 4000000

theorem parseA_cases (text : Str) (ht : text.length < 100000) : ∃ (nl : Option Bool) (z : Nat) (l : List Nd) (n e : Int), parseA text = .tup [.lst nl z (l.map ndA), .int .i64 n, .int .i64 e] ∧ (l ≠ [] → z = 3) ∧ l.length < 100000 ∧ (∀ x ∈ l, NdOk x) ∧ (e ≠ 0 → l = [] ∧ 0 ≤ n) ∧ (e = 0 → n = 0 ∧ (faultOf l).2 = 0 ∧ printOf l = text) := by
  by_cases h0 : text.length > 65536
  · exact ⟨some true, 0, [], 0, 8, by unfold parseA; rw [if_pos h0]; rfl, fun h => absurd rfl h, by decide, fun x hx => (by cases hx), fun _ => ⟨rfl, by decide⟩, fun h => absurd h (by decide)⟩
  obtain ⟨r, l, hf⟩ : ∃ r l, parseF text [] = (r, l) := ⟨_, _, rfl⟩
  obtain ⟨q1, q2⟩ := parseF_ok text [] hf (by omega) (fun _ h => by cases h)
  simp only [List.length_nil] at q1
  by_cases hr : r = []
  · subst hr
    rw [parseA_ok h0 hf]
    by_cases k : (faultOf l).2 = 0
    · rw [if_pos k]
      obtain ⟨m, hm1, hm2, _⟩ := print_parse text [] l (by simp [parseL, hf])
      rw [List.nil_append] at hm1
      subst hm1
      exact ⟨none, 3, l, 0, 0, rfl, fun _ => rfl, by omega, q2, fun h => absurd rfl h, fun _ => ⟨rfl, k, hm2⟩⟩
    · rw [if_neg k]
      have := fault_range l
      exact ⟨some true, 0, [], _, _, rfl, fun h => absurd rfl h, by decide, fun x hx => (by cases hx), fun _ => ⟨rfl, by omega⟩, fun h => absurd h k⟩
  · rw [parseA_bad h0 hf hr]
    exact ⟨some true, 0, [], _, 3, rfl, fun h => absurd rfl h, by decide, fun x hx => (by cases hx), fun _ => ⟨rfl, by omega⟩, fun h => absurd h (by decide)⟩

theorem ansParses {xs : List AV} (h : ShpArgs Tryd.prog [9] xs) : ansF cfg 3 xs [] = some (.bool true, []) := by
  obtain ⟨t, rfl, ht⟩ := args_str h
  refine ans_of_wp fn3 low3 ?_
  by_cases h0 : (2000 < t.length ∧ t.length ≤ 65536) ∨ 65538 < t.length
  · have h0' : ((2000 < (t.length : Int) ∧ (t.length : Int) ≤ 65536) ∨ 65538 < (t.length : Int)) = True := eq_true (by omega)
    simp (config := { maxSteps := 1000000 }) (disch := omega) [-List.map_replicate, -List.map_set, -List.getD_eq_getElem?_getD, -getElem?_pos, -getElem?_neg, wrap_i64, le_strLim, le_sliceLim, le_buildLim, le_sliceLimI, Int.tmod_eq_emod_of_nonneg, Int.tdiv_eq_ediv_of_nonneg, ir3, ansAwake, h0']
  · have h0' : ((2000 < (t.length : Int) ∧ (t.length : Int) ≤ 65536) ∨ 65538 < (t.length : Int)) = False := eq_false (by omega)
    have h1 := ansParseP t (by omega)
    have h2 := ansParseR t (by omega)
    obtain ⟨nl, z, l, n, e, hp, hz, hl, _⟩ := parseA_cases t (by omega)
    have h3 := ansSame nl nl z z l l hz hz (by omega) (by omega)
    rw [decide_eq_true rfl] at h3
    rw [hp] at h1 h2
    simp (config := { maxSteps := 1000000 }) (disch := omega) [-List.map_replicate, -List.map_set, -List.getD_eq_getElem?_getD, -getElem?_pos, -getElem?_neg, wrap_i64, le_strLim, le_sliceLim, le_buildLim, le_sliceLimI, Int.tmod_eq_emod_of_nonneg, Int.tdiv_eq_ediv_of_nonneg, ir3, ansAwake, h0', h1, h2, h3]

theorem unescA_cases (s : Str) : (∃ t, unescA s = .tup [.str t, .bool true] ∧ esc t = s ∧ t.length ≤ s.length) ∨ unescA s = .tup [.str [], .bool false] := by
  rw [unescA_eq]
  cases h : unesc s with
  | none => exact .inr rfl
  | some t =>
    have := unesc_esc h
    refine .inl ⟨t, rfl, this, ?_⟩
    rw [← this]; exact esc_ge t

theorem ansEscapes {xs : List AV} (h : ShpArgs Tryd.prog [9] xs) : ansF cfg 4 xs [] = some (.bool true, []) := by
  obtain ⟨s, rfl, hs⟩ := args_str h
  refine ans_of_wp fn4 low4 ?_
  by_cases h0 : s.length > 300
  · simp (config := { maxSteps := 1000000 }) (disch := omega) [-List.map_replicate, -List.map_set, -List.getD_eq_getElem?_getD, -getElem?_pos, -getElem?_neg, wrap_i64, le_strLim, le_sliceLim, le_buildLim, le_sliceLimI, Int.tmod_eq_emod_of_nonneg, Int.tdiv_eq_ediv_of_nonneg, omLe, omLeN, omLt, omLtN, omEq, omEqN, onLe, onLeN, onLt, onLtN, onEq, onEqN, ir4, ansAwake, h0]
  · have h1 := ansUnP s (by omega)
    have h2 := ansUnR s (by omega)
    have h3 := ansEscP s (by omega)
    have h4 := ansEscR s (by omega)
    rcases unescA_cases s with ⟨t, ht, _⟩ | ht
    · rw [ht] at h1 h2
      simp (config := { maxSteps := 1000000 }) (disch := omega) [-List.map_replicate, -List.map_set, -List.getD_eq_getElem?_getD, -getElem?_pos, -getElem?_neg, wrap_i64, le_strLim, le_sliceLim, le_buildLim, le_sliceLimI, Int.tmod_eq_emod_of_nonneg, Int.tdiv_eq_ediv_of_nonneg, omLe, omLeN, omLt, omLtN, omEq, omEqN, onLe, onLeN, onLt, onLtN, onEq, onEqN, ir4, ansAwake, h0, h1, h2, h3, h4]
    · rw [ht] at h1 h2
      simp (config := { maxSteps := 1000000 }) (disch := omega) [-List.map_replicate, -List.map_set, -List.getD_eq_getElem?_getD, -getElem?_pos, -getElem?_neg, wrap_i64, le_strLim, le_sliceLim, le_buildLim, le_sliceLimI, Int.tmod_eq_emod_of_nonneg, Int.tdiv_eq_ediv_of_nonneg, omLe, omLeN, omLt, omLtN, omEq, omEqN, onLe, onLeN, onLt, onLtN, onEq, onEqN, ir4, ansAwake, h0, h1, h2, h3, h4]

theorem ansUnique {xs : List AV} (h : ShpArgs Tryd.prog [9] xs) : ansF cfg 5 xs [] = some (.bool true, []) := by
  obtain ⟨t, rfl, ht⟩ := args_str h
  refine ans_of_wp fn5 low5 ?_
  by_cases h0 : t.length > 2000
  · simp (config := { maxSteps := 1000000 }) (disch := omega) [-List.map_replicate, -List.map_set, -List.getD_eq_getElem?_getD, -getElem?_pos, -getElem?_neg, wrap_i64, le_strLim, le_sliceLim, le_buildLim, le_sliceLimI, Int.tmod_eq_emod_of_nonneg, Int.tdiv_eq_ediv_of_nonneg, omLe, omLeN, omLt, omLtN, omEq, omEqN, onLe, onLeN, onLt, onLtN, onEq, onEqN, ir5, ansAwake, h0]
  · have h1 := ansParseP t (by omega)
    obtain ⟨nl, z, l, n, e, hp, hz, hl, hok, he, h0e⟩ := parseA_cases t (by omega)
    rw [hp] at h1
    by_cases k : e = 0
    · obtain ⟨rfl, hf, hpr⟩ := h0e k
      have h2 := ansPrintP nl z l hz hok (by omega)
      unfold printA at h2
      rw [if_pos hf, hpr] at h2
      simp (config := { maxSteps := 1000000 }) (disch := omega) [-List.map_replicate, -List.map_set, -List.getD_eq_getElem?_getD, -getElem?_pos, -getElem?_neg, wrap_i64, le_strLim, le_sliceLim, le_buildLim, le_sliceLimI, Int.tmod_eq_emod_of_nonneg, Int.tdiv_eq_ediv_of_nonneg, omLe, omLeN, omLt, omLtN, omEq, omEqN, onLe, onLeN, onLt, onLtN, onEq, onEqN, ir5, ansAwake, h0, h1, k, h2]
    · obtain ⟨rfl, hn⟩ := he k
      simp (config := { maxSteps := 1000000 }) (disch := omega) [-List.map_replicate, -List.map_set, -List.getD_eq_getElem?_getD, -getElem?_pos, -getElem?_neg, wrap_i64, le_strLim, le_sliceLim, le_buildLim, le_sliceLimI, Int.tmod_eq_emod_of_nonneg, Int.tdiv_eq_ediv_of_nonneg, omLe, omLeN, omLt, omLtN, omEq, omEqN, onLe, onLeN, onLt, onLtN, onEq, onEqN, ir5, ansAwake, h0, h1, k]

theorem ansPlain {xs : List AV} (h : ShpArgs Tryd.prog [9] xs) : ansF cfg 6 xs [] = some (.bool true, []) := by
  obtain ⟨s, rfl, hs⟩ := args_str h
  refine ans_of_wp fn6 low6 ?_
  by_cases h0 : s.length > 300
  · simp (config := { maxSteps := 1000000 }) (disch := omega) [-List.map_replicate, -List.map_set, -List.getD_eq_getElem?_getD, -getElem?_pos, -getElem?_neg, wrap_i64, le_strLim, le_sliceLim, le_buildLim, le_sliceLimI, Int.tmod_eq_emod_of_nonneg, Int.tdiv_eq_ediv_of_nonneg, omLe, omLeN, omLt, omLtN, omEq, omEqN, onLe, onLeN, onLt, onLtN, onEq, onEqN, ir6, ansAwake, h0]
  · have h1 := ansEscP s (by omega)
    have hel := esc_length s
    have h2 := ansUnP (esc s) (by omega)
    rw [unescA_eq, unesc_of_esc] at h2
    have h3 := ansUnP s (by omega)
    simp (config := { maxSteps := 1000000 }) (disch := omega) [-List.map_replicate, -List.map_set, -List.getD_eq_getElem?_getD, -getElem?_pos, -getElem?_neg, wrap_i64, le_strLim, le_sliceLim, le_buildLim, le_sliceLimI, Int.tmod_eq_emod_of_nonneg, Int.tdiv_eq_ediv_of_nonneg, omLe, omLeN, omLt, omLtN, omEq, omEqN, onLe, onLeN, onLt, onLtN, onEq, onEqN, ir6, ansAwake, h0, h1]
    refine Wp.loopM (fun (i : Nat) => (esc s).length - i) (fun i => [some (.str s), none, some (.str (esc s)), none, none, none, none, none, none, none, none, some (.int .i64 (esc s).length), some (.int .i64 i), none, none, none, none, none, none]) (fun _ => []) (fun i => i ≤ (esc s).length) ?_ 0 (by omega) (by simp) rfl
    intro i hi
    by_cases k : i < (esc s).length
    · have hg := get_str k
      have hr := esc_range (s := s) (x := (esc s).getD i 0) (List.mem_of_getElem? hg)
      generalize (esc s).getD i 0 = c at *
      have k1 : ((c.toNat : Int) < 32 ∨ 126 < (c.toNat : Int)) = False := eq_false (by omega)
      simp (config := { maxSteps := 1000000 }) (disch := omega) [-List.map_replicate, -List.map_set, -List.getD_eq_getElem?_getD, -getElem?_pos, -getElem?_neg, wrap_i64, le_strLim, le_sliceLim, le_buildLim, le_sliceLimI, Int.tmod_eq_emod_of_nonneg, Int.tdiv_eq_ediv_of_nonneg, omLe, omLeN, omLt, omLtN, omEq, omEqN, onLe, onLeN, onLt, onLtN, onEq, onEqN, hg, k1]
      exact ⟨i + 1, by omega, by omega, by omega⟩
    · rcases unescA_cases s with ⟨t, ht, h5, h6⟩ | ht
      · rw [ht] at h3
        have h4 := ansEscP t (by omega)
        rw [h5] at h4
        simp (config := { maxSteps := 1000000 }) (disch := omega) [-List.map_replicate, -List.map_set, -List.getD_eq_getElem?_getD, -getElem?_pos, -getElem?_neg, wrap_i64, le_strLim, le_sliceLim, le_buildLim, le_sliceLimI, Int.tmod_eq_emod_of_nonneg, Int.tdiv_eq_ediv_of_nonneg, omLe, omLeN, omLt, omLtN, omEq, omEqN, onLe, onLeN, onLt, onLtN, onEq, onEqN, h2, h3, h4]
      · rw [ht] at h3
        simp (config := { maxSteps := 1000000 }) (disch := omega) [-List.map_replicate, -List.map_set, -List.getD_eq_getElem?_getD, -getElem?_pos, -getElem?_neg, wrap_i64, le_strLim, le_sliceLim, le_buildLim, le_sliceLimI, Int.tmod_eq_emod_of_nonneg, Int.tdiv_eq_ediv_of_nonneg, omLe, omLeN, omLt, omLtN, omEq, omEqN, onLe, onLeN, onLt, onLtN, onEq, onEqN, h2, h3]

theorem printA_cases (l : List Nd) : ∃ s e, printA l = .tup [.str s, .int .i64 e] := by
  unfold printA
  split
  · exact ⟨_, _, rfl⟩
  · exact ⟨_, _, rfl⟩

theorem ansTexts {xs : List AV} (h : ShpArgs Tryd.prog [23] xs) : ansF cfg 8 xs [] = some (.bool true, []) := by
  obtain ⟨nl, z, l, r, rfl, hz, hnl, hlen, hin, rfl⟩ := args_doc h
  refine ans_of_wp fn8 low8 ?_
  have hlen' : l.length < 9223372036854775808 := by have : maxLen = 9223372036854775807 := rfl; omega
  have h1 := ansFew (some nl) z l hz hlen'
  cases hf : fewOf l with
  | false =>
    rw [hf] at h1
    simp (config := { maxSteps := 1000000 }) (disch := omega) [-List.map_replicate, -List.map_set, -List.getD_eq_getElem?_getD, -getElem?_pos, -getElem?_neg, wrap_i64, le_strLim, le_sliceLim, le_buildLim, le_sliceLimI, Int.tmod_eq_emod_of_nonneg, Int.tdiv_eq_ediv_of_nonneg, omLe, omLeN, omLt, omLtN, omEq, omEqN, onLe, onLeN, onLt, onLtN, onEq, onEqN, ir8, ansAwake, h1]
  | true =>
    rw [hf] at h1
    obtain ⟨hl, hok⟩ := few_ok hf hin
    obtain ⟨nl', z', h2, hz'⟩ := ansClone nl z l hz hnl (by omega)
    have h3 := ansPrintP nl' z' l hz' hok (by omega)
    have h4 := ansPrintR (some nl) z l hz hok (by omega)
    have h5 := ansCheckP nl' z' l hz' hok (by omega)
    have h6 := ansCheckR (some nl) z l hz hok (by omega)
    obtain ⟨s, e, hp⟩ := printA_cases l
    rw [hp] at h3 h4
    simp (config := { maxSteps := 1000000 }) (disch := omega) [-List.map_replicate, -List.map_set, -List.getD_eq_getElem?_getD, -getElem?_pos, -getElem?_neg, wrap_i64, le_strLim, le_sliceLim, le_buildLim, le_sliceLimI, Int.tmod_eq_emod_of_nonneg, Int.tdiv_eq_ediv_of_nonneg, omLe, omLeN, omLt, omLtN, omEq, omEqN, onLe, onLeN, onLt, onLtN, onEq, onEqN, ir8, ansAwake, h1, h2, h3, h4, h5, h6]

theorem ansPathR0 (nl : Option Bool) (z : Nat) (l : List Nd) (hz : l ≠ [] → z = 3) (hl : ∀ n ∈ l, NdOk n) (hlen : l.length < 1000000) (i : Int) (hi : -9223372036854775808 ≤ i ∧ i < 9223372036854775808) (h0 : inside l i = false) : ansF cfg 31 [.lst nl z (l.map ndA), .int .i64 i] [] = some (.lst (some true) 0 [], []) := by
  refine ans_of_wp fn31 low31 ?_
  have hh := ansIn nl z l hz hl hlen i hi
  rw [h0] at hh
  simp (config := { maxSteps := 1000000 }) (disch := omega) [-List.map_replicate, -List.map_set, -List.getD_eq_getElem?_getD, -getElem?_pos, -getElem?_neg, wrap_i64, le_strLim, le_sliceLim, le_buildLim, le_sliceLimI, Int.tmod_eq_emod_of_nonneg, Int.tdiv_eq_ediv_of_nonneg, omLe, omLeN, omLt, omLtN, omEq, omEqN, onLe, onLeN, onLt, onLtN, onEq, onEqN, ir31, hh]

theorem ansTree {xs : List AV} (h : ShpArgs Tryd.prog [23, 3] xs) : ansF cfg 9 xs [] = some (.bool true, []) := by
  obtain ⟨nl, z, l, r, rfl, hz, hnl, hlen, hin, hr⟩ := args_doc h
  obtain ⟨i, rfl, hi⟩ := args_int hr
  refine ans_of_wp fn9 low9 ?_
  have hlen' : l.length < 9223372036854775808 := by have : maxLen = 9223372036854775807 := rfl; omega
  have h1 := ansFew (some nl) z l hz hlen'
  cases hf : fewOf l with
  | false =>
    rw [hf] at h1
    simp (config := { maxSteps := 1000000 }) (disch := omega) [-List.map_replicate, -List.map_set, -List.getD_eq_getElem?_getD, -getElem?_pos, -getElem?_neg, wrap_i64, le_strLim, le_sliceLim, le_buildLim, le_sliceLimI, Int.tmod_eq_emod_of_nonneg, Int.tdiv_eq_ediv_of_nonneg, omLe, omLeN, omLt, omLtN, omEq, omEqN, onLe, onLeN, onLt, onLtN, onEq, onEqN, ir9, ansAwake, h1]
  | true =>
    rw [hf] at h1
    obtain ⟨hl, hok⟩ := few_ok hf hin
    obtain ⟨nl', z', h2, hz'⟩ := ansClone nl z l hz hnl (by omega)
    have h3 := ansParP nl' z' l hz' hok (by omega) i hi
    have h4 := ansParR (some nl) z l hz hok (by omega) i hi
    have h5 := ansBelP nl' z' l hz' hok (by omega) i hi
    have h6 := ansBelR (some nl) z l hz hok (by omega) i hi
    cases hins : inside l i with
    | false =>
      have h7 := ansPathP0 nl' z' l hz' hok (by omega) i hi hins
      have h8 := ansPathR0 (some nl) z l hz hok (by omega) i hi hins
      have h9 : ansF cfg 25 [.lst (some true) 0 [], .lst (some true) 0 []] [] = some (.bool (decide (([] : List Int) = [])), []) := ansEqI (some true) (some true) 0 0 [] [] (fun h => absurd rfl h) (fun h => absurd rfl h) (by decide) (by decide)
      rw [decide_eq_true rfl] at h9
      simp (config := { maxSteps := 1000000 }) (disch := omega) [-List.map_replicate, -List.map_set, -List.getD_eq_getElem?_getD, -getElem?_pos, -getElem?_neg, wrap_i64, le_strLim, le_sliceLim, le_buildLim, le_sliceLimI, Int.tmod_eq_emod_of_nonneg, Int.tdiv_eq_ediv_of_nonneg, omLe, omLeN, omLt, omLtN, omEq, omEqN, onLe, onLeN, onLt, onLtN, onEq, onEqN, ir9, ansAwake, h1, h2, h3, h4, h5, h6, h7, h8, h9]
    | true =>
      obtain ⟨k, rfl⟩ : ∃ k : Nat, i = k := by
        simp only [inside, decide_eq_true_eq] at hins
        exact Int.eq_ofNat_of_zero_le hins.1
      have hval : Val l ∧ k < l.length := by
        simp only [inside, decide_eq_true_eq] at hins
        exact ⟨(fault_val hins.2.2).1, by omega⟩
      have hpl := pathL_length hval.1 k hval.2
      have hpd := hval.1.le k hval.2
      have h7 := ansPathP nl' z' l hz' hok (by omega) k hins
      obtain ⟨bs0, k0, h8, s2, s3⟩ := ansPathR (some nl) z l hz hok (by omega) k hins []
      have h9 := ansEqI none none 1 1 (pathL l k) (pathL l k) (fun _ => rfl) (fun _ => rfl) (by omega) (by omega)
      rw [decide_eq_true rfl] at h9
      obtain ⟨x0, r0, rfl⟩ : ∃ x r, bs0 = x :: r := by cases bs0 with | nil => simp at s2 | cons x r => exact ⟨x, r, rfl⟩
      simp only [List.nil_append, List.length_nil, Nat.zero_add] at h8
      simp (config := { maxSteps := 1000000 }) (disch := omega) [-List.map_replicate, -List.map_set, -List.getD_eq_getElem?_getD, -getElem?_pos, -getElem?_neg, wrap_i64, le_strLim, le_sliceLim, le_buildLim, le_sliceLimI, Int.tmod_eq_emod_of_nonneg, Int.tdiv_eq_ediv_of_nonneg, omLe, omLeN, omLt, omLtN, omEq, omEqN, onLe, onLeN, onLt, onLtN, onEq, onEqN, ir9, ansAwake, h1, h2, h3, h4, h5, h6, h7, h8, h9, s3]

theorem ansReturns {xs : List AV} (h : ShpArgs Tryd.prog [23] xs) : ansF cfg 10 xs [] = some (.bool true, []) := by
  obtain ⟨nl, z, l, r, rfl, hz, hnl, hlen, hin, rfl⟩ := args_doc h
  refine ans_of_wp fn10 low10 ?_
  have hlen' : l.length < 9223372036854775808 := by have : maxLen = 9223372036854775807 := rfl; omega
  by_cases h20 : l.length > 20
  · simp (config := { maxSteps := 1000000 }) (disch := omega) [-List.map_replicate, -List.map_set, -List.getD_eq_getElem?_getD, -getElem?_pos, -getElem?_neg, wrap_i64, le_strLim, le_sliceLim, le_buildLim, le_sliceLimI, Int.tmod_eq_emod_of_nonneg, Int.tdiv_eq_ediv_of_nonneg, omLe, omLeN, omLt, omLtN, omEq, omEqN, onLe, onLeN, onLt, onLtN, onEq, onEqN, ir10, ansAwake, h20]
  have h1 := ansFew (some nl) z l hz hlen'
  cases hf : fewOf l with
  | false =>
    rw [hf] at h1
    simp (config := { maxSteps := 1000000 }) (disch := omega) [-List.map_replicate, -List.map_set, -List.getD_eq_getElem?_getD, -getElem?_pos, -getElem?_neg, wrap_i64, le_strLim, le_sliceLim, le_buildLim, le_sliceLimI, Int.tmod_eq_emod_of_nonneg, Int.tdiv_eq_ediv_of_nonneg, omLe, omLeN, omLt, omLtN, omEq, omEqN, onLe, onLeN, onLt, onLtN, onEq, onEqN, ir10, ansAwake, h20, h1]
  | true =>
    rw [hf] at h1
    obtain ⟨hl, hok⟩ := few_ok hf hin
    obtain ⟨nl', z', h2, hz'⟩ := ansClone nl z l hz hnl (by omega)
    have h3 := ansPrintP nl' z' l hz' hok (by omega)
    have h5 := ansCheckP (some nl) z l hz hok (by omega)
    unfold printA at h3
    by_cases k : (faultOf l).2 = 0
    · rw [if_pos k] at h3
      obtain ⟨_, _, hfine⟩ := fault_fine k
      have hpl := print_len hfine
      by_cases k2 : (printOf l).length > 65536
      · have h6 := ansParsePL (printOf l) k2
        simp (config := { maxSteps := 1000000 }) (disch := omega) [-List.map_replicate, -List.map_set, -List.getD_eq_getElem?_getD, -getElem?_pos, -getElem?_neg, wrap_i64, le_strLim, le_sliceLim, le_buildLim, le_sliceLimI, Int.tmod_eq_emod_of_nonneg, Int.tdiv_eq_ediv_of_nonneg, omLe, omLeN, omLt, omLtN, omEq, omEqN, onLe, onLeN, onLt, onLtN, onEq, onEqN, ir10, ansAwake, h20, h1, h2, h3, h6, k2]
      · have h6 := ansParseP (printOf l) (by omega)
        rw [parse_of_print k (by omega)] at h6
        have h7 := ansEqN none (some nl) 3 z l l (fun _ => rfl) hz (by omega) (by omega)
        rw [decide_eq_true rfl] at h7
        simp (config := { maxSteps := 1000000 }) (disch := omega) [-List.map_replicate, -List.map_set, -List.getD_eq_getElem?_getD, -getElem?_pos, -getElem?_neg, wrap_i64, le_strLim, le_sliceLim, le_buildLim, le_sliceLimI, Int.tmod_eq_emod_of_nonneg, Int.tdiv_eq_ediv_of_nonneg, omLe, omLeN, omLt, omLtN, omEq, omEqN, onLe, onLeN, onLt, onLtN, onEq, onEqN, ir10, ansAwake, h20, h1, h2, h3, h6, k2, h7]
    · rw [if_neg k] at h3
      simp (config := { maxSteps := 1000000 }) (disch := omega) [-List.map_replicate, -List.map_set, -List.getD_eq_getElem?_getD, -getElem?_pos, -getElem?_neg, wrap_i64, le_strLim, le_sliceLim, le_buildLim, le_sliceLimI, Int.tmod_eq_emod_of_nonneg, Int.tdiv_eq_ediv_of_nonneg, omLe, omLeN, omLt, omLtN, omEq, omEqN, onLe, onLeN, onLt, onLtN, onEq, onEqN, ir10, ansAwake, h20, h1, h2, h3, h5, k]
end Go.Proofs.YtibakcohkdfnoaaDoor
