/-
  The law JournalAppends, for the machine. (Over a seat in which Copy hands over its slice: journal/o.)
-/
import Derived.Test.YtfhfnehoaiegcaaGreatDoorAwkM
import Derived.Test.YtfhfnehoaiegcaaGreatDoorAppM
set_option linter.all false
namespace Go.Proofs.YtfhfnehoaiegcaaGreatDoor
open Go.Am Go.ChangeShapes Go.WideShapes Go.RowKit
set_option maxRecDepth 10000
set_option maxHeartbeats 8000000

theorem ansAppends {xs : List AV} (h : ShpArgs Tryz.prog [36, 25] xs) : ansF cfg 9 xs [] = some (.bool true, []) := by
  obtain ⟨nl, z, l, r, rfl, hz, -, hlen, hin, hr⟩ := args_ens h
  obtain ⟨x, r, rfl, hxi, hr⟩ := args_ev hr
  obtain rfl := args_nil hr
  refine ans_of_wp fn9 low9 ?_
  have hlen2 : l.length ≤ 9223372036854775807 := hlen
  have hfew := ansFewEn (some nl) z l hz hin hlen2
  have hfx := ansFew x hxi.w
  have hev : evA x = .agg [.int .i64 x.c.id, .int .i64 x.c.day, .int .i64 x.c.kind, .lst x.nl x.z (intsA x.c.nums), .lst x.nl2 x.z2 (strsA x.c.texts)] := rfl
  rw [hev] at hfx ⊢
  by_cases hf : (l.all fewN && decide (l.length ≤ 20)) = true
  case neg =>
    have hf : (l.all fewN && decide (l.length ≤ 20)) = false := by simpa using hf
    rw [hf] at hfew
    simp (config := { maxSteps := 1000000 }) (disch := omega) [-List.map_replicate, -List.map_set, -List.getD_eq_getElem?_getD, -getElem?_pos, -getElem?_neg, wrap_i64, le_strLim, le_sliceLim, le_buildLim, le_sliceLimI, Int.tmod_eq_emod_of_nonneg, Int.tdiv_eq_ediv_of_nonneg, omLe, omLeN, omLt, omLtN, omEq, omEqN, onLe, onLeN, onLt, onLtN, onEq, onEqN, ir9, ansAwake, hfew, splice]
  rw [hf] at hfew
  cases hg : fewC x.c with
  | false =>
    rw [hg] at hfx
    simp (config := { maxSteps := 1000000 }) (disch := omega) [-List.map_replicate, -List.map_set, -List.getD_eq_getElem?_getD, -getElem?_pos, -getElem?_neg, wrap_i64, le_strLim, le_sliceLim, le_buildLim, le_sliceLimI, Int.tmod_eq_emod_of_nonneg, Int.tdiv_eq_ediv_of_nonneg, omLe, omLeN, omLt, omLtN, omEq, omEqN, onLe, onLeN, onLt, onLtN, onEq, onEqN, ir9, ansAwake, hfew, hfx, splice]
  | true =>
  rw [hg] at hfx
  obtain ⟨b1, b2, _⟩ := few_bounds hg
  have okx : x.ok := ⟨hxi.w.hz, hxi.w.hz2, by omega, by omega⟩
  rw [Bool.and_eq_true, List.all_eq_true, decide_eq_true_eq] at hf
  obtain ⟨hf, h20⟩ := hf
  have hb : ∀ x ∈ l, x.e.ok ∧ x.d.length ≤ 40 := fun x hx => by
    have h1 := hf x hx
    unfold fewN at h1
    rw [Bool.and_eq_true, decide_eq_true_eq] at h1
    obtain ⟨b1, b2, _⟩ := few_bounds h1.1
    exact ⟨⟨(hin x hx).e.w.hz, (hin x hx).e.w.hz2, by omega, by omega⟩, h1.2⟩
  have hgood : ∀ x ∈ cps (l.map En.c), x.good := fun x hx => by
    simp only [cps, List.map_map, List.mem_map] at hx
    obtain ⟨y, hy, rfl⟩ := hx
    obtain ⟨h1, h2⟩ := hb y hy
    exact ⟨⟨evCp_ok h1.hn h1.ht, evCp_nn _, by show y.d.length < 100000; omega⟩, evCp_fine _⟩
  have hcl : (cps (l.map En.c)).length = l.length := by simp
  have okx2 : (evCp x.c).ok := evCp_ok (by omega) (by omega)
  have q1 := ansCopyW (some nl) z l hz (fun x hx => (hb x hx).1) (by omega)
  have q2 := ansCopyEv x okx
  have q3 := ansAppP none 6 (cps (l.map En.c)) (fun _ => rfl) hgood (by omega) (evCp x.c) okx2 (evCp_nn _) (evCp_fine _)
  have q4 := ansAppR (some nl) z l hz (fun x hx => ⟨(hb x hx).1, by have := (hb x hx).2; omega⟩) (by omega) x okx
  have q5 := ansChkP none 6 (cps (l.map En.c)) (fun _ => rfl) (fun x hx => (hgood x hx).ok) (by omega)
  have q6 := ansCheckR (some nl) z l hz (fun x hx => ⟨(hb x hx).1, by have := (hb x hx).2; omega⟩) (by omega)
  have q7 := ansEventsP none 6 (cps (l.map En.c)) (fun _ => rfl) hgood (by omega)
  have q8 := ansEventsR (some nl) z l hz (fun x hx => (hb x hx).1) (by omega)
  have hevs : evsOf (cps (l.map En.c)) = evsOf l := by simp [evsOf, cps, enCp, evCp_c, En.c]
  rw [hevs] at q7
  have q9 := ansEqEvs (evsOf l) (fun y hy => by
    simp only [evsOf, List.mem_map] at hy
    obtain ⟨w, hw, rfl⟩ := hy
    have h1 := (hb w hw).1
    exact ⟨evCp_ok h1.hn h1.ht, evCp_nn _⟩) (by rw [evsOf_len]; omega)
  rw [cps_c] at q3 q5
  rw [evCp_c] at q3
  have hap : ∀ y ∈ cps (appN (l.map En.c) x.c), y.ok := fun y hy => by
    obtain ⟨q, hq, rfl⟩ := List.mem_map.1 hy
    unfold appN at hq
    rcases List.mem_append.1 hq with hq | hq
    · exact (hgood (enCp q) (List.mem_map_of_mem hq)).ok
    · rw [List.mem_singleton] at hq
      subst hq
      refine ⟨okx2, evCp_nn _, ?_⟩
      show (sealT _ _).length < 100000
      unfold sealT
      rw [sum_length]
      omega
  have hal : (cps (appN (l.map En.c) x.c)).length < 100000 := by
    unfold appN
    simp
    omega
  have q10 := ansSame none none 6 6 (cps (appN (l.map En.c) x.c)) (cps (appN (l.map En.c) x.c)) (fun _ => rfl) (fun _ => rfl) hap hap hal hal
  have q11 : ansF cfg 26 [.lst (some true) 0 [], .lst (some true) 0 []] [] = some (.bool true, []) := ansSame (some true) (some true) 0 0 [] [] (fun h => absurd rfl h) (fun h => absurd rfl h) (fun _ h => by cases h) (fun _ h => by cases h) (by decide) (by decide)
  simp only [decide_true] at q10
  unfold appA at q3 q4
  rw [hev] at q2 q4
  unfold evA evCp Ev.cells at q2 q3
  simp only at q2 q3
  unfold chkA at q5 q6
  have hnb : ¬ 1024 < (l.map En.c).length := by simp; omega
  rw [if_neg hnb] at q5 q6
  have hcA : (ensA (cps (l.map En.c))).length = l.length := by simp
  generalize ensA (cps (appN (l.map En.c) x.c)) = AA at *
  generalize ensA (cps (l.map En.c)) = A at *
  generalize evsA (evsOf l) = EV at *
  generalize chk none 0 (l.map En.c) = CK at *
  obtain ⟨ck, ce⟩ := CK
  simp only at q5 q6
  by_cases k : appE (l.map En.c) x.c = 0
  · simp only [k, if_true] at q3 q4
    simp (config := { maxSteps := 1000000 }) (disch := omega) [-List.map_replicate, -List.map_set, -List.getD_eq_getElem?_getD, -getElem?_pos, -getElem?_neg, wrap_i64, le_strLim, le_sliceLim, le_buildLim, le_sliceLimI, Int.tmod_eq_emod_of_nonneg, Int.tdiv_eq_ediv_of_nonneg, omLe, omLeN, omLt, omLtN, omEq, omEqN, onLe, onLeN, onLt, onLtN, onEq, onEqN, ir9, ansAwake, hfew, hfx, q1, q2, q3, q4, q5, q6, q7, q8, q9, q10, hcA, splice]
  · simp only [k, if_false] at q3 q4
    simp (config := { maxSteps := 1000000 }) (disch := omega) [-List.map_replicate, -List.map_set, -List.getD_eq_getElem?_getD, -getElem?_pos, -getElem?_neg, wrap_i64, le_strLim, le_sliceLim, le_buildLim, le_sliceLimI, Int.tmod_eq_emod_of_nonneg, Int.tdiv_eq_ediv_of_nonneg, omLe, omLeN, omLt, omLtN, omEq, omEqN, onLe, onLeN, onLt, onLtN, onEq, onEqN, ir9, ansAwake, hfew, hfx, q1, q2, q3, q4, q5, q6, q7, q8, q9, q11, hcA, splice]
end Go.Proofs.YtfhfnehoaiegcaaGreatDoor
