/-
  The law JournalCodes, for the machine.
-/
import Derived.Test.YtfhfnehoaiegcaaGreatDoorAwkM
import Derived.Test.YtfhfnehoaiegcaaGreatDoorDecRM
set_option linter.all false
namespace Go.Proofs.YtfhfnehoaiegcaaGreatDoor
open Go.Am Go.ChangeShapes Go.WideShapes Go.RowKit
set_option maxRecDepth 10000
set_option maxHeartbeats 8000000

theorem args_ev {ts : List TypeId} {xs : List AV} (h : ShpArgs Tryz.prog (25 :: ts) xs) : ∃ (e : Ev) (r : List AV), xs = evA e :: r ∧ e.inn ∧ ShpArgs Tryz.prog ts r := by
  obtain ⟨n, cs, r, rfl, h1, h2⟩ := h
  obtain ⟨e, k1, k2, _⟩ := shp_ev h1
  exact ⟨e, r, by rw [k2], k1, h2⟩
theorem args_str {ts : List TypeId} {xs : List AV} (h : ShpArgs Tryz.prog (9 :: ts) xs) : ∃ (s : Str) (r : List AV), xs = .str s :: r ∧ s.length ≤ maxLen ∧ ShpArgs Tryz.prog ts r := by
  obtain ⟨n, cs, r, rfl, h1, h2⟩ := h
  obtain ⟨s, rfl, hs⟩ := h1.str (by kernel_rfl)
  exact ⟨s, r, by rw [show Tryz.prog.underlying 9 = some .string by kernel_rfl]; rfl, hs, h2⟩

theorem ansCodes {xs : List AV} (h : ShpArgs Tryz.prog [25, 9] xs) : ansF cfg 3 xs [] = some (.bool true, []) := by
  obtain ⟨e, r, rfl, hin, hr⟩ := args_ev h
  obtain ⟨s, r, rfl, hsl, hr⟩ := args_str hr
  obtain rfl := args_nil hr
  refine ans_of_wp fn3 low3 ?_
  have hsl2 : (s.length : Int) ≤ 9223372036854775807 := by have h2 : s.length ≤ 9223372036854775807 := hsl; omega
  have hfew := ansFew e hin.w
  have hev : evA e = .agg [.int .i64 e.c.id, .int .i64 e.c.day, .int .i64 e.c.kind, .lst e.nl e.z (intsA e.c.nums), .lst e.nl2 e.z2 (strsA e.c.texts)] := rfl
  cases hf : fewC e.c with
  | false =>
    rw [hf, hev] at hfew
    rw [hev]
    simp (config := { maxSteps := 1000000 }) (disch := omega) [-List.map_replicate, -List.map_set, -List.getD_eq_getElem?_getD, -getElem?_pos, -getElem?_neg, wrap_i64, le_strLim, le_sliceLim, le_buildLim, le_sliceLimI, Int.tmod_eq_emod_of_nonneg, Int.tdiv_eq_ediv_of_nonneg, omLe, omLeN, omLt, omLtN, omEq, omEqN, onLe, onLeN, onLt, onLtN, onEq, onEqN, ir3, ansAwake, hfew, splice]
  | true =>
  rw [hf, hev] at hfew
  by_cases k : 2000 < s.length
  · rw [hev]
    simp (config := { maxSteps := 1000000 }) (disch := omega) [-List.map_replicate, -List.map_set, -List.getD_eq_getElem?_getD, -getElem?_pos, -getElem?_neg, wrap_i64, le_strLim, le_sliceLim, le_buildLim, le_sliceLimI, Int.tmod_eq_emod_of_nonneg, Int.tdiv_eq_ediv_of_nonneg, omLe, omLeN, omLt, omLtN, omEq, omEqN, onLe, onLeN, onLt, onLtN, onEq, onEqN, ir3, ansAwake, hfew, k, splice]
  obtain ⟨b1, b2, _⟩ := few_bounds hf
  have ok : e.ok := ⟨hin.w.hz, hin.w.hz2, by omega, by omega⟩
  have q1 := ansCopyEv e ok
  have q2 := ansEncP (evCp e.c) (evCp_ok (by omega) (by omega))
  have q3 := ansEncR e ok
  have q4 := ansDecP s (by omega)
  have q5 := ansDecR s (by omega)
  rw [evCp_c] at q2
  unfold encA at q2 q3
  rw [hev] at q1 q3 ⊢
  unfold evA evCp Ev.cells at q1 q2
  simp only at q1 q2
  generalize (if encE e.c = 0 then encT e.c else []) = T at *
  generalize encE e.c = E at *
  unfold decA at q4 q5
  have q6 : ansF cfg 17 [evA (evN ⟨0, 0, 0, [], []⟩), evA (evN ⟨0, 0, 0, [], []⟩)] [] = some (.bool true, []) := ansSameEv _ _ ⟨fun _ => rfl, fun _ => rfl, by decide, by decide⟩ ⟨fun _ => rfl, fun _ => rfl, by decide, by decide⟩
  cases hd : dec s with
  | none =>
    rw [hd] at q4 q5
    simp only [zeroC] at q4 q5
    simp only [evA, evN, Ev.cells, intsA, strsA, List.map_nil] at q6
    simp (config := { maxSteps := 1000000 }) (disch := omega) [-List.map_replicate, -List.map_set, -List.getD_eq_getElem?_getD, -getElem?_pos, -getElem?_neg, wrap_i64, le_strLim, le_sliceLim, le_buildLim, le_sliceLimI, Int.tmod_eq_emod_of_nonneg, Int.tdiv_eq_ediv_of_nonneg, omLe, omLeN, omLt, omLtN, omEq, omEqN, onLe, onLeN, onLt, onLtN, onEq, onEqN, ir3, ansAwake, hfew, q1, q2, q3, q4, q5, q6, splice]
  | some c =>
    rw [hd] at q4 q5
    obtain ⟨d1, _⟩ := dec_iff.1 hd
    have hfin := enc_fine d1
    have okc : (evN c).ok := ⟨fun _ => rfl, fun _ => rfl, by simp only [evN]; omega, by simp only [evN]; omega⟩
    have q7 := ansSameEv (evN c) (evN c) okc okc
    simp only [evA, evN, Ev.cells, decide_true] at q4 q5 q7
    clear q6
    simp (config := { maxSteps := 1000000 }) (disch := omega) [-List.map_replicate, -List.map_set, -List.getD_eq_getElem?_getD, -getElem?_pos, -getElem?_neg, wrap_i64, le_strLim, le_sliceLim, le_buildLim, le_sliceLimI, Int.tmod_eq_emod_of_nonneg, Int.tdiv_eq_ediv_of_nonneg, omLe, omLeN, omLt, omLtN, omEq, omEqN, onLe, onLeN, onLt, onLtN, onEq, onEqN, ir3, ansAwake, hfew, q1, q2, q3, q4, q5, q7, splice]
end Go.Proofs.YtfhfnehoaiegcaaGreatDoor
