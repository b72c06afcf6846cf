/-
  The law JournalReturns, for the machine. The law JournalTorn, for the machine.
-/
import Derived.Test.YtfhfnehoaiegcaaGreatDoorAwkM
set_option linter.all false
namespace Go.Proofs.YtfhfnehoaiegcaaGreatDoor
open Go.Am
set_option maxRecDepth 10000
set_option maxHeartbeats 8000000

theorem few_ok {l : List Ev} (h : fewAll (l.map (·.c)) = true) (hi : ∀ n ∈ l, n.inn) : l.length ≤ 20 ∧ ∀ n ∈ l, n.ok := by
  obtain ⟨h1, h2⟩ := fewAll_spec h
  rw [List.length_map] at h1
  refine ⟨h1, fun n hn => ?_⟩
  obtain ⟨b1, b2, _⟩ := few_bounds (h2 n.c (List.mem_map_of_mem hn))
  exact ⟨(hi n hn).w.hz, (hi n hn).w.hz2, by omega, by omega⟩

theorem ansReturns {xs : List AV} (h : ShpArgs Tryz.prog [46] xs) : ansF cfg 5 xs [] = some (.bool true, []) := by
  obtain ⟨nl, z, l, r, rfl, hz, -, hlen, hin, hr⟩ := args_evs h
  obtain rfl := args_nil hr
  refine ans_of_wp fn5 low5 ?_
  have hfew := ansFewAll (some nl) z l hz (fun x hx => (hin x hx).w) hlen
  cases hf : fewAll (l.map (·.c)) with
  | false =>
    rw [hf] at hfew
    simp (config := { maxSteps := 1000000 }) (disch := omega) [-List.map_replicate, -List.map_set, -List.getD_eq_getElem?_getD, -getElem?_pos, -getElem?_neg, wrap_i64, le_strLim, le_sliceLim, le_buildLim, le_sliceLimI, Int.tmod_eq_emod_of_nonneg, Int.tdiv_eq_ediv_of_nonneg, omLe, omLeN, omLt, omLtN, omEq, omEqN, onLe, onLeN, onLt, onLtN, onEq, onEqN, ir5, ansAwake, hfew]
  | true =>
  rw [hf] at hfew
  obtain ⟨h20, hok⟩ := few_ok hf hin
  have hb := ansBuild (some nl) z l hz hok (by omega)
  have hJ := jl_build (l.map (·.c)) (by simpa using h20)
  have hLl := bldF_len (l.map (·.c)) []
  simp only [List.length_nil, List.length_map] at hLl
  have hbz : bldF [] (l.map (·.c)) ≠ [] → bZ (bldF [] (l.map (·.c))) = 6 := bZ_ne
  generalize bldF [] (l.map (·.c)) = L at *
  have q1 := hJ.copy (bN L) (bZ L) hbz
  have q2 := hJ.check
  have q3 := hJ.write
  have q4 := hJ.read
  have q5 : ansF cfg 26 [.lst none 6 (ensA (ensN L)), .lst (bN L) (bZ L) (ensA (cps L))] [] = some (.bool true, []) := hJ.same (fun _ => rfl) hbz
  have hcl : (cps L).length = L.length := by simp [cps]
  simp (config := { maxSteps := 1000000 }) (disch := omega) [-List.map_replicate, -List.map_set, -List.getD_eq_getElem?_getD, -getElem?_pos, -getElem?_neg, wrap_i64, le_strLim, le_sliceLim, le_buildLim, le_sliceLimI, Int.tmod_eq_emod_of_nonneg, Int.tdiv_eq_ediv_of_nonneg, omLe, omLeN, omLt, omLtN, omEq, omEqN, onLe, onLeN, onLt, onLtN, onEq, onEqN, ir5, ansAwake, hfew, hb, q1, q2, q3, q4, q5, splice]
  refine Wp.loopM (fun (a : Nat × Option AV) => L.length - a.1) (fun a => [none, none, none, none, none, none, none, none, none, none, none, none, none, none, none, none, none, none, none, none, none, none, none, none, none, none, some (.lst (bN L) (bZ L) (ensA (cps L))), some (.int .i64 L.length), some (.int .i64 a.1), none, none, none, none, none, a.2, none])
    (fun _ => []) (fun a => a.1 ≤ L.length ∧ ∀ k i r, underV k 0 i (a.2 :: r) = underV k 0 (i + 1) r) ?_ (0, none) ⟨by omega, fun k i r => rfl⟩ (by simp) rfl
  rintro ⟨i, o⟩ ⟨hi, hu⟩
  simp only at hi hu ⊢
  by_cases k : i < L.length
  · have hg : (cps L)[i]? = some (enCp L[i]) := by simp [cps, k]
    obtain ⟨e1, e2⟩ := right_mem hJ.r _ (List.getElem_mem k)
    have hz6 : bZ L = 6 := hbz (by intro e; rw [e] at k; simp at k)
    generalize L[i] = x at *
    have hfin := enc_fine e1
    have ok1 : (evCp x.c).ok := evCp_ok (by omega) (by omega)
    have r1 := ansCopyEv (evCp x.c) ok1
    have r2 := ansEncP (evCp x.c) ok1
    have hdec : dec (encT x.c) = some x.c := dec_iff.2 ⟨e1, rfl⟩
    have r3 := ansDecP (encT x.c) (by omega)
    unfold decA at r3
    rw [hdec] at r3
    unfold encA at r2
    simp only [evCp_c, e1, if_true] at r1 r2 r3
    have r4 := ansSameEv (evCp x.c) (evN x.c) ok1 ⟨fun _ => rfl, fun _ => rfl, by simp only [evN]; omega, by simp only [evN]; omega⟩
    obtain ⟨⟨id, day, kind, nums, texts⟩, d⟩ := x
    simp only at e1 e2 hfin
    simp only [evA, Ev.cells, evCp, evN, decide_true] at r1 r2 r3 r4
    simp (config := { maxSteps := 1000000 }) (disch := omega) [-List.map_replicate, -List.map_set, -List.getD_eq_getElem?_getD, -getElem?_pos, -getElem?_neg, wrap_i64, le_strLim, le_sliceLim, le_buildLim, le_sliceLimI, Int.tmod_eq_emod_of_nonneg, Int.tdiv_eq_ediv_of_nonneg, omLe, omLeN, omLt, omLtN, omEq, omEqN, onLe, onLeN, onLt, onLtN, onEq, onEqN, hg, hz6, r1, r2, r3, r4, enA, enCp, evCp, Ev.cells, splice]
    exact ⟨i + 1, some (.bool true), ⟨by omega, fun k i r => by simp [underV, AV.under]⟩, by omega, by omega, rfl⟩
  · simp (config := { maxSteps := 1000000 }) (disch := omega) [-List.map_replicate, -List.map_set, -List.getD_eq_getElem?_getD, -getElem?_pos, -getElem?_neg, wrap_i64, le_strLim, le_sliceLim, le_buildLim, le_sliceLimI, Int.tmod_eq_emod_of_nonneg, Int.tdiv_eq_ediv_of_nonneg, omLe, omLeN, omLt, omLtN, omEq, omEqN, onLe, onLeN, onLt, onLtN, onEq, onEqN, k]
end Go.Proofs.YtfhfnehoaiegcaaGreatDoor

namespace Go.Proofs.YtfhfnehoaiegcaaGreatDoor
open Go.Am
set_option maxRecDepth 10000
set_option maxHeartbeats 8000000

theorem cps_len (L : List EntC) : (cps L).length = L.length := by simp [cps]
theorem ensN_len (L : List EntC) : (ensN L).length = L.length := by simp [ensN]
theorem wr_take (L : List EntC) (k : Nat) : wr (L.take k) = (wr L).take (wr (L.take k)).length := by
  have h : wr L = wr (L.take k) ++ wr (L.drop k) := by rw [← wr_app, List.take_append_drop]
  conv => rhs; rw [h]
  rw [List.take_left' rfl]
theorem wr_take_le (L : List EntC) (k : Nat) : (wr (L.take k)).length ≤ (wr L).length := by
  have h : wr L = wr (L.take k) ++ wr (L.drop k) := by rw [← wr_app, List.take_append_drop]
  rw [h, List.length_append]; omega

theorem ansTorn {xs : List AV} (h : ShpArgs Tryz.prog [46, 53] xs) : ansF cfg 6 xs [] = some (.bool true, []) := by
  obtain ⟨nl, z, l, r, rfl, hz, -, hlen, hin, hr⟩ := args_evs h
  obtain ⟨cut, r, rfl, hcut, hr⟩ := args_u16 hr
  obtain rfl := args_nil hr
  refine ans_of_wp fn6 low6 ?_
  have hfew := ansFewAll (some nl) z l hz (fun x hx => (hin x hx).w) hlen
  cases hf : fewAll (l.map (·.c)) with
  | false =>
    rw [hf] at hfew
    simp (config := { maxSteps := 1000000 }) (disch := omega) [-List.map_replicate, -List.map_set, -List.getD_eq_getElem?_getD, -getElem?_pos, -getElem?_neg, wrap_i64, le_strLim, le_sliceLim, le_buildLim, le_sliceLimI, Int.tmod_eq_emod_of_nonneg, Int.tdiv_eq_ediv_of_nonneg, omLe, omLeN, omLt, omLtN, omEq, omEqN, onLe, onLeN, onLt, onLtN, onEq, onEqN, ir6, ansAwake, hfew]
  | true =>
  rw [hf] at hfew
  obtain ⟨h20, hok⟩ := few_ok hf hin
  have hb := ansBuild (some nl) z l hz hok (by omega)
  have hJ := jl_build (l.map (·.c)) (by simpa using h20)
  have hLl := bldF_len (l.map (·.c)) []
  simp only [List.length_nil, List.length_map] at hLl
  have hbz : bldF [] (l.map (·.c)) ≠ [] → bZ (bldF [] (l.map (·.c))) = 6 := bZ_ne
  generalize bldF [] (l.map (·.c)) = L at *
  have q1 := hJ.copy (bN L) (bZ L) hbz
  have q3 := hJ.write
  have hwl := jl_len hJ
  have hL100 := hJ.n
  obtain ⟨m, hm, hm2⟩ : ∃ m, cut % ((wr L).length + 1) = m ∧ m ≤ (wr L).length := ⟨_, rfl, by have := Nat.mod_lt cut (show 0 < (wr L).length + 1 by omega); omega⟩
  have hmod : ((cut : Int) % (((wr L).length : Int) + 1)) = (m : Int) := by
    rw [← hm]; simp
  obtain ⟨j, j1, j2, j3, j4⟩ := recF_cut sum_length L none 0 m hJ.r (by omega)
  have q4 := ansRecP ((wr L).take m) (by simp; omega)
  rw [j2] at q4
  have hT := hJ.take j
  have hT2 := hJ.take (j + 1)
  have hwt := wr_take L j
  have hjl : (L.take j).length = j := by simp; omega
  have hwle := wr_take_le L j
  have ht1 : (ensA (cps L)).take j = ensA (cps (L.take j)) := by unfold ensA cps; rw [List.map_take, List.map_take]
  have ht2 : (ensA (cps L)).take (j + 1) = ensA (cps (L.take (j + 1))) := by unfold ensA cps; rw [List.map_take, List.map_take]
  have ht0 : j = L.length → L.take j = L := fun h => by rw [h, List.take_length]
  have hGL : L.take j ≠ [] → bZ L = 6 := fun h => hbz (by intro e; rw [e] at h; simp at h)
  have hKL : L.take (j + 1) ≠ [] → bZ L = 6 := fun h => hbz (by intro e; rw [e] at h; simp at h)
  have hbe : (bZ L == 6 || (ensA (cps L)).isEmpty) = true := by
    by_cases e : L = []
    · rw [e]; rfl
    · rw [hbz e]; rfl
  generalize L.take j = G at *
  have hgl : (ensN G).length = j := by rw [ensN_len, hjl]
  have q5 : ∀ nl z, (G ≠ [] → z = 6) → ansF cfg 26 [.lst none 6 (ensA (ensN G)), .lst nl z (ensA (cps G))] [] = some (.bool true, []) := fun nl z h => hT.same (fun _ => rfl) h
  have q6 := hT.copyN none 6 (fun _ => rfl)
  have q7 := hT.write
  have q8 := hT2.copy (bN L) (bZ L) hKL
  have q9 := hT2.write
  generalize L.take (j + 1) = K at *
  generalize wr G = t at *
  generalize wr K = u at *
  have q5 := q5 (bN L) (bZ L) hGL
  have hjL : j ≤ L.length := j1
  have hte : (t == (wr L).take t.length) = true := by rw [← hwt]; simp
  by_cases hjn : j = L.length
  · rw [hjn] at ht1
    simp (config := { maxSteps := 1000000 }) (disch := omega) [-List.map_replicate, -List.map_set, -List.getD_eq_getElem?_getD, -getElem?_pos, -getElem?_neg, wrap_i64, le_strLim, le_sliceLim, le_buildLim, le_sliceLimI, Int.tmod_eq_emod_of_nonneg, Int.tdiv_eq_ediv_of_nonneg, omLe, omLeN, omLt, omLtN, omEq, omEqN, onLe, onLeN, onLt, onLtN, onEq, onEqN, ir6, ansAwake, hfew, hb, q1, q3, hmod, q4, q5, q6, q7, hgl, hjL, hjn, ht1, hbe, hwle, hte, splice]
  · have hmu := j4 (by omega)
    simp (config := { maxSteps := 1000000 }) (disch := omega) [-List.map_replicate, -List.map_set, -List.getD_eq_getElem?_getD, -getElem?_pos, -getElem?_neg, wrap_i64, le_strLim, le_sliceLim, le_buildLim, le_sliceLimI, Int.tmod_eq_emod_of_nonneg, Int.tdiv_eq_ediv_of_nonneg, omLe, omLeN, omLt, omLtN, omEq, omEqN, onLe, onLeN, onLt, onLtN, onEq, onEqN, ir6, ansAwake, hfew, hb, q1, q3, hmod, q4, q5, q6, q7, q8, q9, hgl, hjL, hjn, ht1, ht2, hbe, hwle, hte, splice]
end Go.Proofs.YtfhfnehoaiegcaaGreatDoor
