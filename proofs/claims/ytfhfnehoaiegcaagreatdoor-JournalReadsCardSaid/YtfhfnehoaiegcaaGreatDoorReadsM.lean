/-
  zeros, before, fits, entry and Check of the reference. length and Write of the reference. Recover and Read of the reference. The law JournalReads, for the machine.
-/
import Derived.Test.YtfhfnehoaiegcaaGreatDoorEncM
import Derived.Test.YtfhfnehoaiegcaaGreatDoorChkM
import Derived.Test.YtfhfnehoaiegcaaGreatDoorWrM
import Derived.Test.YtfhfnehoaiegcaaGreatDoorDecRM
import Derived.Test.YtfhfnehoaiegcaaGreatDoorAwkM
import Derived.Test.YtfhfnehoaiegcaaGreatDoorCodesM
set_option linter.all false
namespace Go.Proofs.YtfhfnehoaiegcaaGreatDoor
open Go.Am
set_option maxRecDepth 10000
set_option maxHeartbeats 8000000

/-- an entry of any kind: its slices may be nil -/
structure En.fair (x : En) : Prop where
  e : x.e.ok
  d : x.d.length < 100000
theorem En.ok.fair {x : En} (h : x.ok) : x.fair := ⟨h.e, h.d⟩

theorem ansZerosR : ansF cfg 88 [] [] = some (.str zeros, []) := by
  refine ans_of_wp fn88 low88 ?_
  simp (config := { maxSteps := 1000000 }) (disch := omega) [-List.map_replicate, -List.map_set, -List.getD_eq_getElem?_getD, -getElem?_pos, -getElem?_neg, wrap_i64, le_strLim, le_sliceLim, le_buildLim, le_sliceLimI, Int.tmod_eq_emod_of_nonneg, Int.tdiv_eq_ediv_of_nonneg, omLe, omLeN, omLt, omLtN, omEq, omEqN, onLe, onLeN, onLt, onLtN, onEq, onEqN, ir88, zeros_bytes, Cfg.descOf, zeros]

theorem ansBeforeR (nl : Option Bool) (z : Nat) (l : List En) (hz : l ≠ [] → z = 6) (hlen : l.length < 100000) (i : Nat) (hi : i ≤ l.length) : ansF cfg 68 [.lst nl z (ensA l), .int .i64 i] [] = some (.str (prevD (lastL (l.take i))), []) := by
  refine ans_of_wp fn68 low68 ?_
  cases i with
  | zero =>
    rw [List.take_zero, lastL_nil]
    unfold prevD
    simp (config := { maxSteps := 1000000 }) (disch := omega) [-List.map_replicate, -List.map_set, -List.getD_eq_getElem?_getD, -getElem?_pos, -getElem?_neg, wrap_i64, le_strLim, le_sliceLim, le_buildLim, le_sliceLimI, Int.tmod_eq_emod_of_nonneg, Int.tdiv_eq_ediv_of_nonneg, omLe, omLeN, omLt, omLtN, omEq, omEqN, onLe, onLeN, onLt, onLtN, onEq, onEqN, ir68, ansZerosR]
  | succ j =>
    have k : j < l.length := hi
    obtain rfl : z = 6 := hz (by intro h; rw [h] at k; simp at k)
    have hg : l[j]? = some l[j] := List.getElem?_eq_getElem k
    have hj : (((j + 1 : Nat) : Int) - 1).toNat = j := by omega
    rw [take_succ k, lastL_snoc]
    simp only [prevD, En.c]
    generalize l[j] = y at *
    simp (config := { maxSteps := 1000000 }) (disch := omega) [-List.map_replicate, -List.map_set, -List.getD_eq_getElem?_getD, -getElem?_pos, -getElem?_neg, wrap_i64, le_strLim, le_sliceLim, le_buildLim, le_sliceLimI, Int.tmod_eq_emod_of_nonneg, Int.tdiv_eq_ediv_of_nonneg, omLe, omLeN, omLt, omLtN, omEq, omEqN, onLe, onLeN, onLt, onLtN, onEq, onEqN, ir68, hg, hj, enA, Ev.cells]

theorem ansFitsR (nl : Option Bool) (z : Nat) (l : List En) (hz : l ≠ [] → z = 6) (hlen : l.length < 100000) (i : Nat) (hi : i ≤ l.length) (e : Ev) : ansF cfg 66 [.lst nl z (ensA l), .int .i64 i, evA e] [] = some (.bool (!late (lastL (l.take i)) e.c), []) := by
  refine ans_of_wp fn66 low66 ?_
  have hA : evA e = .agg [.int .i64 e.c.id, .int .i64 e.c.day, .int .i64 e.c.kind, .lst e.nl e.z (intsA e.c.nums), .lst e.nl2 e.z2 (strsA e.c.texts)] := rfl
  rw [hA]
  cases i with
  | zero =>
    rw [List.take_zero, lastL_nil]
    simp only [late]
    simp (config := { maxSteps := 1000000 }) (disch := omega) [-List.map_replicate, -List.map_set, -List.getD_eq_getElem?_getD, -getElem?_pos, -getElem?_neg, wrap_i64, le_strLim, le_sliceLim, le_buildLim, le_sliceLimI, Int.tmod_eq_emod_of_nonneg, Int.tdiv_eq_ediv_of_nonneg, omLe, omLeN, omLt, omLtN, omEq, omEqN, onLe, onLeN, onLt, onLtN, onEq, onEqN, ir66, splice]
  | succ j =>
    have k : j < l.length := hi
    obtain rfl : z = 6 := hz (by intro h; rw [h] at k; simp at k)
    have hg : l[j]? = some l[j] := List.getElem?_eq_getElem k
    have hj : (((j + 1 : Nat) : Int) - 1).toNat = j := by omega
    rw [take_succ k, lastL_snoc]
    simp only [late, En.c]
    generalize l[j] = y at *
    by_cases q1 : e.c.id ≤ y.e.c.id
    · simp (config := { maxSteps := 1000000 }) (disch := omega) [-List.map_replicate, -List.map_set, -List.getD_eq_getElem?_getD, -getElem?_pos, -getElem?_neg, wrap_i64, le_strLim, le_sliceLim, le_buildLim, le_sliceLimI, Int.tmod_eq_emod_of_nonneg, Int.tdiv_eq_ediv_of_nonneg, omLe, omLeN, omLt, omLtN, omEq, omEqN, onLe, onLeN, onLt, onLtN, onEq, onEqN, ir66, hg, hj, enA, Ev.cells, splice, q1]
    · by_cases q2 : e.c.day < y.e.c.day
      · simp (config := { maxSteps := 1000000 }) (disch := omega) [-List.map_replicate, -List.map_set, -List.getD_eq_getElem?_getD, -getElem?_pos, -getElem?_neg, wrap_i64, le_strLim, le_sliceLim, le_buildLim, le_sliceLimI, Int.tmod_eq_emod_of_nonneg, Int.tdiv_eq_ediv_of_nonneg, omLe, omLeN, omLt, omLtN, omEq, omEqN, onLe, onLeN, onLt, onLtN, onEq, onEqN, ir66, hg, hj, enA, Ev.cells, splice, q1, q2]
      · simp (config := { maxSteps := 1000000 }) (disch := omega) [-List.map_replicate, -List.map_set, -List.getD_eq_getElem?_getD, -getElem?_pos, -getElem?_neg, wrap_i64, le_strLim, le_sliceLim, le_buildLim, le_sliceLimI, Int.tmod_eq_emod_of_nonneg, Int.tdiv_eq_ediv_of_nonneg, omLe, omLeN, omLt, omLtN, omEq, omEqN, onLe, onLeN, onLt, onLtN, onEq, onEqN, ir66, hg, hj, enA, Ev.cells, splice, q1, q2]

theorem encT_ne (c : EvC) : encT c ≠ [] := by
  unfold encT lineS
  simp

theorem ansEntryR (nl : Option Bool) (z : Nat) (l : List En) (hz : l ≠ [] → z = 6) (hl : ∀ x ∈ l, x.fair) (hlen : l.length < 100000) (i : Nat) (k : i < l.length) : ansF cfg 57 [.lst nl z (ensA l), .int .i64 i] [] = some (.int .i64 (entE (lastL (l.take i)) l[i].c), []) := by
  refine ans_of_wp fn57 low57 ?_
  obtain rfl : z = 6 := hz (by intro h; rw [h] at k; simp at k)
  have hg : l[i]? = some l[i] := List.getElem?_eq_getElem k
  have hx := hl _ (List.getElem_mem k)
  have hE := ansEncR l[i].e hx.e
  have hF := ansFitsR nl 6 l hz hlen i (by omega) l[i].e
  have hB := ansBeforeR nl 6 l hz hlen i (by omega)
  have hpl : (prevD (lastL (l.take i))).length < 100000 := by
    rcases list_end (l.take i) with h | ⟨m, y, h⟩
    · rw [h, lastL_nil]; decide
    · rw [h, lastL_snoc]
      exact (hl y (List.mem_of_mem_take (by rw [h]; simp))).d
  have hS := fun (h : encE l[i].e.c = 0) => ansSumR (prevD (lastL (l.take i)) ++ encT l[i].e.c) (by simp [encT_ne]) (by have := (enc_fine h).2.2.2.2; simp only [List.length_append]; omega)
  have hA : evA l[i].e = .agg [.int .i64 l[i].e.c.id, .int .i64 l[i].e.c.day, .int .i64 l[i].e.c.kind, .lst l[i].e.nl l[i].e.z (intsA l[i].e.c.nums), .lst l[i].e.nl2 l[i].e.z2 (strsA l[i].e.c.texts)] := rfl
  rw [hA] at hE hF
  unfold entE fitE
  have hcc : l[i].c.c = l[i].e.c := rfl
  have hcd : l[i].c.d = l[i].d := rfl
  rw [hcc, hcd]
  unfold encA at hE
  generalize lastL (l.take i) = p at *
  have hss : ∀ t, sumR (prevD p ++ t) = sealT p t := fun t => (sum_same _).symm
  generalize l[i] = x at *
  by_cases h0 : encE x.e.c = 0
  · have hS := hS h0
    rw [hss] at hS
    have hT := (enc_fine h0).2.2.2.2
    generalize encT x.e.c = T at *
    generalize prevD p = B at *
    generalize sealT p T = D at *
    simp only [h0, if_true, ne_eq, not_true_eq_false, if_false] at hE ⊢
    by_cases h1 : late p x.e.c = true
    · simp only [h1, if_true, Bool.not_true] at hF ⊢
      simp (config := { maxSteps := 1000000 }) (disch := omega) [-List.map_replicate, -List.map_set, -List.getD_eq_getElem?_getD, -getElem?_pos, -getElem?_neg, wrap_i64, le_strLim, le_sliceLim, le_buildLim, le_sliceLimI, Int.tmod_eq_emod_of_nonneg, Int.tdiv_eq_ediv_of_nonneg, omLe, omLeN, omLt, omLtN, omEq, omEqN, onLe, onLeN, onLt, onLtN, onEq, onEqN, ir57, hg, hE, hF, enA, Ev.cells, splice]
    · have h1 : late p x.e.c = false := by simpa using h1
      simp only [h1, Bool.not_false, Bool.false_eq_true, if_false] at hF ⊢
      by_cases h2 : x.d = D
      · have h2' : (x.d != D) = false := by simp [h2]
        simp (config := { maxSteps := 1000000 }) (disch := omega) [-List.map_replicate, -List.map_set, -List.getD_eq_getElem?_getD, -getElem?_pos, -getElem?_neg, wrap_i64, le_strLim, le_sliceLim, le_buildLim, le_sliceLimI, Int.tmod_eq_emod_of_nonneg, Int.tdiv_eq_ediv_of_nonneg, omLe, omLeN, omLt, omLtN, omEq, omEqN, onLe, onLeN, onLt, onLtN, onEq, onEqN, ir57, hg, hE, hF, hB, hS, enA, Ev.cells, splice, h2, h2']
      · have h2' : (x.d != D) = true := by simp [h2]
        simp (config := { maxSteps := 1000000 }) (disch := omega) [-List.map_replicate, -List.map_set, -List.getD_eq_getElem?_getD, -getElem?_pos, -getElem?_neg, wrap_i64, le_strLim, le_sliceLim, le_buildLim, le_sliceLimI, Int.tmod_eq_emod_of_nonneg, Int.tdiv_eq_ediv_of_nonneg, omLe, omLeN, omLt, omLtN, omEq, omEqN, onLe, onLeN, onLt, onLtN, onEq, onEqN, ir57, hg, hE, hF, hB, hS, enA, Ev.cells, splice, h2, h2']
  · have h0' : (encE x.e.c == 0) = false := by rw [beq_eq_false_iff_ne]; exact h0
    simp only [h0, if_false, ne_eq, not_false_eq_true, if_true] at hE ⊢
    simp (config := { maxSteps := 1000000 }) (disch := omega) [-List.map_replicate, -List.map_set, -List.getD_eq_getElem?_getD, -getElem?_pos, -getElem?_neg, wrap_i64, le_strLim, le_sliceLim, le_buildLim, le_sliceLimI, Int.tmod_eq_emod_of_nonneg, Int.tdiv_eq_ediv_of_nonneg, omLe, omLeN, omLt, omLtN, omEq, omEqN, onLe, onLeN, onLt, onLtN, onEq, onEqN, ir57, hg, hE, enA, Ev.cells, splice, h0, h0']

theorem ansCheckR (nl : Option Bool) (z : Nat) (l : List En) (hz : l ≠ [] → z = 6) (hl : ∀ x ∈ l, x.fair) (hlen : l.length < 100000) : ansF cfg 33 [.lst nl z (ensA l)] [] = some (chkA (l.map En.c), []) := by
  refine ans_of_wp fn33 low33 ?_
  unfold chkA
  have hll : (l.map En.c).length = l.length := by simp
  rw [hll]
  by_cases hbig : 1024 < l.length
  · simp only [hbig, if_true]
    simp (config := { maxSteps := 1000000 }) (disch := omega) [-List.map_replicate, -List.map_set, -List.getD_eq_getElem?_getD, -getElem?_pos, -getElem?_neg, wrap_i64, le_strLim, le_sliceLim, le_buildLim, le_sliceLimI, Int.tmod_eq_emod_of_nonneg, Int.tdiv_eq_ediv_of_nonneg, omLe, omLeN, omLt, omLtN, omEq, omEqN, onLe, onLeN, onLt, onLtN, onEq, onEqN, ir33, hbig]
  simp only [hbig, if_false]
  simp (config := { maxSteps := 1000000 }) (disch := omega) [-List.map_replicate, -List.map_set, -List.getD_eq_getElem?_getD, -getElem?_pos, -getElem?_neg, wrap_i64, le_strLim, le_sliceLim, le_buildLim, le_sliceLimI, Int.tmod_eq_emod_of_nonneg, Int.tdiv_eq_ediv_of_nonneg, omLe, omLeN, omLt, omLtN, omEq, omEqN, onLe, onLeN, onLt, onLtN, onEq, onEqN, ir33, hbig]
  refine Wp.loopM (fun (i : Nat) => l.length - i) (fun i => [some (.lst nl z (ensA l)), none, none, some (.int .i64 i), none, none, none, none, none])
    (fun _ => []) (fun i => i ≤ l.length ∧ chk none 0 (l.map En.c) = chk (lastL (l.take i)) i ((l.drop i).map En.c)) ?_ 0 ⟨by simp, rfl⟩ (by simp) rfl
  rintro i ⟨hi, hc⟩
  by_cases k : i < l.length
  · have hd : l.drop i = l[i] :: l.drop (i + 1) := List.drop_eq_getElem_cons k
    have htk : lastL (l.take (i + 1)) = some l[i].c := by rw [take_succ k, lastL_snoc]
    have hen := ansEntryR nl z l hz hl hlen i k
    rw [hd] at hc
    simp only [List.map_cons, chk] at hc
    generalize l[i] = x at *
    generalize entE (lastL (l.take i)) x.c = E at *
    have hi2 : i + 1 ≤ l.length := k
    by_cases e0 : E = 0
    · subst e0
      simp only [if_true] at hc
      simp (config := { maxSteps := 1000000 }) (disch := omega) [-List.map_replicate, -List.map_set, -List.getD_eq_getElem?_getD, -getElem?_pos, -getElem?_neg, wrap_i64, le_strLim, le_sliceLim, le_buildLim, le_sliceLimI, Int.tmod_eq_emod_of_nonneg, Int.tdiv_eq_ediv_of_nonneg, omLe, omLeN, omLt, omLtN, omEq, omEqN, onLe, onLeN, onLt, onLtN, onEq, onEqN, hen, splice]
      exact ⟨i + 1, ⟨hi2, by rw [hc, htk, List.map_drop]⟩, by omega, by simp⟩
    · have e0' : (E == 0) = false := by rw [beq_eq_false_iff_ne]; exact e0
      simp only [e0, if_false] at hc
      rw [hc]
      simp (config := { maxSteps := 1000000 }) (disch := omega) [-List.map_replicate, -List.map_set, -List.getD_eq_getElem?_getD, -getElem?_pos, -getElem?_neg, wrap_i64, le_strLim, le_sliceLim, le_buildLim, le_sliceLimI, Int.tmod_eq_emod_of_nonneg, Int.tdiv_eq_ediv_of_nonneg, omLe, omLeN, omLt, omLtN, omEq, omEqN, onLe, onLeN, onLt, onLtN, onEq, onEqN, hen, e0, e0', splice]
  · obtain rfl : i = l.length := by omega
    rw [List.drop_length] at hc
    rw [hc]
    simp (config := { maxSteps := 1000000 }) (disch := omega) [-List.map_replicate, -List.map_set, -List.getD_eq_getElem?_getD, -getElem?_pos, -getElem?_neg, wrap_i64, le_strLim, le_sliceLim, le_buildLim, le_sliceLimI, Int.tmod_eq_emod_of_nonneg, Int.tdiv_eq_ediv_of_nonneg, omLe, omLeN, omLt, omLtN, omEq, omEqN, onLe, onLeN, onLt, onLtN, onEq, onEqN, chk]
end Go.Proofs.YtfhfnehoaiegcaaGreatDoor

namespace Go.Proofs.YtfhfnehoaiegcaaGreatDoor
open Go.Am
set_option maxRecDepth 10000
set_option maxHeartbeats 8000000

theorem ansLengthR (n : Nat) (h : n < 4294967296) : ansF cfg 55 [.int .i64 n] [] = some (.str (be4 n), []) := by
  refine ans_of_wp fn55 low55 ?_
  have w1 : IntKind.u8.wrap ((n : Int).fdiv (2 ^ min 24 IntKind.i64.bits)) = ((UInt8.ofNat (n / 16777216)).toNat : Int) := u8_shift n 24 (by decide)
  have w2 : IntKind.u8.wrap ((n : Int).fdiv (2 ^ min 16 IntKind.i64.bits)) = ((UInt8.ofNat (n / 65536)).toNat : Int) := u8_shift n 16 (by decide)
  have w3 : IntKind.u8.wrap ((n : Int).fdiv (2 ^ min 8 IntKind.i64.bits)) = ((UInt8.ofNat (n / 256)).toNat : Int) := u8_shift n 8 (by decide)
  have w4 := u8_wrap n
  unfold be4
  generalize UInt8.ofNat (n / 16777216) = a at *
  generalize UInt8.ofNat (n / 65536) = b at *
  generalize UInt8.ofNat (n / 256) = c at *
  generalize UInt8.ofNat n = d at *
  simp (config := { maxSteps := 1000000 }) (disch := omega) [-List.map_replicate, -List.map_set, -List.getD_eq_getElem?_getD, -getElem?_pos, -getElem?_neg, wrap_i64, le_strLim, le_sliceLim, le_buildLim, le_sliceLimI, Int.tmod_eq_emod_of_nonneg, Int.tdiv_eq_ediv_of_nonneg, omLe, omLeN, omLt, omLtN, omEq, omEqN, onLe, onLeN, onLt, onLtN, onEq, onEqN, ir55, w1, w2, w3, w4, Cfg.descOf]

theorem ansWrR (nl : Option Bool) (z : Nat) (l : List En) (hz : l ≠ [] → z = 6) (hl : ∀ x ∈ l, x.fair) (hd : ∀ x ∈ l, x.d.length ≤ 100) (hlen : l.length < 100000) : ansF cfg 21 [.lst nl z (ensA l)] [] = some (wrA (l.map En.c), []) := by
  refine ans_of_wp fn21 low21 ?_
  have hC := ansCheckR nl z l hz hl hlen
  have hll : (l.map En.c).length = l.length := by simp
  unfold chkA at hC
  unfold wrA
  rw [hll] at hC ⊢
  by_cases b0 : 1024 < l.length
  · simp only [b0, if_true, true_or] at hC ⊢
    simp (config := { maxSteps := 1000000 }) (disch := omega) [-List.map_replicate, -List.map_set, -List.getD_eq_getElem?_getD, -getElem?_pos, -getElem?_neg, wrap_i64, le_strLim, le_sliceLim, le_buildLim, le_sliceLimI, Int.tmod_eq_emod_of_nonneg, Int.tdiv_eq_ediv_of_nonneg, omLe, omLeN, omLt, omLtN, omEq, omEqN, onLe, onLeN, onLt, onLtN, onEq, onEqN, ir21, hC]
  simp only [b0, if_false, false_or] at hC ⊢
  by_cases b1 : (chk none 0 (l.map En.c)).2 = 0
  case neg =>
    have b1' : ((chk none 0 (l.map En.c)).2 == 0) = false := by rw [beq_eq_false_iff_ne]; exact b1
    simp only [b1, not_false_eq_true, if_true]
    simp (config := { maxSteps := 1000000 }) (disch := omega) [-List.map_replicate, -List.map_set, -List.getD_eq_getElem?_getD, -getElem?_pos, -getElem?_neg, wrap_i64, le_strLim, le_sliceLim, le_buildLim, le_sliceLimI, Int.tmod_eq_emod_of_nonneg, Int.tdiv_eq_ediv_of_nonneg, omLe, omLeN, omLt, omLtN, omEq, omEqN, onLe, onLeN, onLt, onLtN, onEq, onEqN, ir21, hC, b1, b1']
  have hr := chk_right.1 b1
  simp only [b1, not_true_eq_false, if_false] at hC ⊢
  simp (config := { maxSteps := 1000000 }) (disch := omega) [-List.map_replicate, -List.map_set, -List.getD_eq_getElem?_getD, -getElem?_pos, -getElem?_neg, wrap_i64, le_strLim, le_sliceLim, le_buildLim, le_sliceLimI, Int.tmod_eq_emod_of_nonneg, Int.tdiv_eq_ediv_of_nonneg, omLe, omLeN, omLt, omLtN, omEq, omEqN, onLe, onLeN, onLt, onLtN, onEq, onEqN, ir21, hC]
  refine Wp.loopM (fun (i : Nat) => l.length - i) (fun i => [some (.lst nl z (ensA l)), none, none, none, some (.str (wr ((l.map En.c).take i))), some (.int .i64 i), none, none, none, none, none, none])
    (fun _ => []) (fun i => i ≤ l.length) ?_ 0 (by omega) (by simp [wr]) rfl
  intro i hi
  have hdc : ∀ x ∈ l.map En.c, x.d.length ≤ 100 := fun x hx => by
    obtain ⟨y, hy, rfl⟩ := List.mem_map.1 hx
    exact hd y hy
  have hwl : (wr ((l.map En.c).take i)).length ≤ 1024 * 65640 := by
    have h1 := wr_len _ _ (right_take hr i) (fun x hx => hdc x (List.mem_of_mem_take hx))
    have h2 : ((l.map En.c).take i).length ≤ 1024 := by simp; omega
    exact Nat.le_trans h1 (Nat.mul_le_mul_right 65640 h2)
  have hwl2 : (wr ((l.map En.c).take i)).length < 70000000 := Nat.lt_of_le_of_lt hwl (by decide)
  clear hwl
  by_cases k : i < l.length
  · have hg : l[i]? = some l[i] := List.getElem?_eq_getElem k
    obtain rfl : z = 6 := hz (by intro h; rw [h] at k; simp at k)
    have hx := hl _ (List.getElem_mem k)
    have hxd := hd _ (List.getElem_mem k)
    have hkc : i < (l.map En.c).length := by simpa using k
    have hcg : (l.map En.c)[i] = l[i].c := by simp
    have hsn : wr ((l.map En.c).take (i + 1)) = wr ((l.map En.c).take i) ++ wr1 l[i].c := by
      rw [take_succ hkc, wr_app, hcg]
      simp [wr]
    have hri := right_take hr (i + 1)
    rw [take_succ hkc, right_app, hcg] at hri
    have he0 : encE l[i].e.c = 0 := (ent_fine hri.2.1).1
    have hE := ansEncR l[i].e hx.e
    have hf := (enc_fine he0).2.2.2.2
    clear hri hcg
    generalize l[i] = x at *
    unfold encA evA Ev.cells at hE
    simp only [he0, if_true] at hE
    have w1 : wr1 x.c = be4 (encT x.e.c).length ++ (encT x.e.c ++ x.d) := rfl
    rw [w1] at hsn
    generalize encT x.e.c = T at *
    have hL := ansLengthR T.length (by omega)
    have hb4 : (be4 T.length).length = 4 := rfl
    have hi2 : i + 1 ≤ l.length := k
    generalize be4 T.length = B at *
    generalize wr ((l.map En.c).take i) = S at *
    simp (config := { maxSteps := 1000000 }) (disch := omega) [-List.map_replicate, -List.map_set, -List.getD_eq_getElem?_getD, -getElem?_pos, -getElem?_neg, wrap_i64, le_strLim, le_sliceLim, le_buildLim, le_sliceLimI, Int.tmod_eq_emod_of_nonneg, Int.tdiv_eq_ediv_of_nonneg, omLe, omLeN, omLt, omLtN, omEq, omEqN, onLe, onLeN, onLt, onLtN, onEq, onEqN, hg, enA, Ev.cells, hE, hL, hb4, splice]
    exact ⟨i + 1, hi2, by omega, by rw [hsn]; simp⟩
  · obtain rfl : i = l.length := by omega
    have ht : (l.map En.c).take l.length = l.map En.c := List.take_of_length_le (by simp)
    rw [ht]
    simp (config := { maxSteps := 1000000 }) (disch := omega) [-List.map_replicate, -List.map_set, -List.getD_eq_getElem?_getD, -getElem?_pos, -getElem?_neg, wrap_i64, le_strLim, le_sliceLim, le_buildLim, le_sliceLimI, Int.tmod_eq_emod_of_nonneg, Int.tdiv_eq_ediv_of_nonneg, omLe, omLeN, omLt, omLtN, omEq, omEqN, onLe, onLeN, onLt, onLtN, onEq, onEqN, splice]
end Go.Proofs.YtfhfnehoaiegcaaGreatDoor

namespace Go.Proofs.YtfhfnehoaiegcaaGreatDoor
open Go.Am
set_option maxRecDepth 10000
set_option maxHeartbeats 8000000

theorem ix1 (a : Nat) : ((a : Int) + 1).toNat = a + 1 := by omega
theorem ix2 (a : Nat) : ((a : Int) + 2).toNat = a + 2 := by omega
theorem ix3 (a : Nat) : ((a : Int) + 3).toNat = a + 3 := by omega
theorem ix4 (a : Nat) : ((a : Int) + 4).toNat = a + 4 := by omega
theorem ix5 (a n : Nat) : ((a : Int) + 4 + (n : Int)).toNat = a + 4 + n := by omega
theorem ix6 (a n : Nat) : ((a : Int) + 4 + (n : Int) + 32).toNat = a + 4 + n + 32 := by omega
theorem dec_long {T : Str} (h : 65536 < T.length) : dec T = none := by
  cases hd : dec T with
  | none => rfl
  | some c =>
    obtain ⟨h1, h2⟩ := dec_iff.1 hd
    have := (enc_fine h1).2.2.2.2
    rw [h2] at this
    omega
theorem stepJ_eq {rest : Str} {p : Option EntC} (h : 4 + num4 rest + 32 ≤ rest.length) : stepJ rest p = stepQ p (dec ((rest.take (4 + num4 rest)).drop 4)) ((rest.take (4 + num4 rest + 32)).drop (4 + num4 rest)) (4 + num4 rest + 32) := by
  unfold stepJ stepQ
  rw [if_neg (by omega)]
  by_cases hb : 65536 < num4 rest
  · rw [if_pos (.inl hb), dec_long (by simp; omega)]
  · rw [if_neg (by omega)]
    cases dec ((rest.take (4 + num4 rest)).drop 4) <;> rfl
theorem take_at (text : Str) (a n : Nat) : ((text.drop a).take (4 + n)).drop 4 = (text.take (a + 4 + n)).drop (a + 4) := by
  rw [List.take_drop, List.drop_drop, Nat.add_assoc]
theorem take_at2 (text : Str) (a n : Nat) : ((text.drop a).take (4 + n + 32)).drop (4 + n) = (text.take (a + 4 + n + 32)).drop (a + 4 + n) := by
  rw [List.take_drop, List.drop_drop]
  simp only [Nat.add_assoc]
theorem get_at {text : Str} {a : Nat} (j : Nat) (h : a + j < text.length) : text[a + j]? = some ((text.drop a).getD j 0) := by
  simp [List.getD_eq_getElem?_getD, List.getElem?_drop, List.getElem?_eq_getElem h]
theorem lastL_N (L : List EntC) : lastL (ensN L) = lastE none L := by unfold lastL; rw [ensN_c]

theorem ansRecR (text : Str) (hl : text.length < 100000) : ansF cfg 25 [.str text] [] = some (.tup [.lst (bN (recF text none 0).1) (bZ (recF text none 0).1) (ensA (ensN (recF text none 0).1)), .int .i64 (recF text none 0).2], []) := by
  refine ans_of_wp fn25 low25 ?_
  simp (config := { maxSteps := 1000000 }) (disch := omega) [-List.map_replicate, -List.map_set, -List.getD_eq_getElem?_getD, -getElem?_pos, -getElem?_neg, wrap_i64, le_strLim, le_sliceLim, le_buildLim, le_sliceLimI, Int.tmod_eq_emod_of_nonneg, Int.tdiv_eq_ediv_of_nonneg, omLe, omLeN, omLt, omLtN, omEq, omEqN, onLe, onLeN, onLt, onLtN, onEq, onEqN, ir25]
  refine Wp.loopM (fun (a : Nat × List EntC) => text.length - a.1) (fun a => [some (.str text), none, none, some (.lst (bN a.2) (bZ a.2) (ensA (ensN a.2))), some (.int .i64 a.1), none, none, none, none, none, none, none, none, none, none, none, none, none, none, none, none])
    (fun _ => []) (fun a => (a.1 ≤ text.length ∧ a.2.length ≤ 1024) ∧ right none a.2 ∧ recF text none 0 = (a.2 ++ (recF (text.drop a.1) (lastE none a.2) a.2.length).1, a.1 + (recF (text.drop a.1) (lastE none a.2) a.2.length).2)) ?_ (0, []) ⟨⟨by simp, by simp⟩, trivial, by simp [lastE]⟩ (by simp [bN, bZ, ensN, ensA]) rfl
  rintro ⟨at0, L⟩ ⟨⟨ha, hL⟩, hr, hF⟩
  simp only at ha hL hr hF ⊢
  rw [hF]
  have hAl : (ensA (ensN L)).length = L.length := by simp [ensN]
  have hrl : (text.drop at0).length = text.length - at0 := by simp
  by_cases h4 : text.length < at0 + 4
  · have hst : stepJ (text.drop at0) (lastE none L) = none := by unfold stepJ; rw [if_pos (by omega)]
    rw [recF_none hst]
    clear hst hF
    simp (config := { maxSteps := 1000000 }) (disch := omega) [-List.map_replicate, -List.map_set, -List.getD_eq_getElem?_getD, -getElem?_pos, -getElem?_neg, wrap_i64, le_strLim, le_sliceLim, le_buildLim, le_sliceLimI, Int.tmod_eq_emod_of_nonneg, Int.tdiv_eq_ediv_of_nonneg, omLe, omLeN, omLt, omLtN, omEq, omEqN, onLe, onLeN, onLt, onLtN, onEq, onEqN, hAl, splice]
  by_cases hf : L.length = 1024
  · rw [recF_full (by omega)]
    clear hF
    simp (config := { maxSteps := 1000000 }) (disch := omega) [-List.map_replicate, -List.map_set, -List.getD_eq_getElem?_getD, -getElem?_pos, -getElem?_neg, wrap_i64, le_strLim, le_sliceLim, le_buildLim, le_sliceLimI, Int.tmod_eq_emod_of_nonneg, Int.tdiv_eq_ediv_of_nonneg, omLe, omLeN, omLt, omLtN, omEq, omEqN, onLe, onLeN, onLt, onLtN, onEq, onEqN, hAl, hf, splice]
  have g0 := get_at (text := text) (a := at0) 0 (by omega)
  have g1 := get_at (text := text) (a := at0) 1 (by omega)
  have g2 := get_at (text := text) (a := at0) 2 (by omega)
  have g3 := get_at (text := text) (a := at0) 3 (by omega)
  rw [Nat.add_zero] at g0
  obtain ⟨A, B, C, D, E, N, nn, hN, hN4⟩ := nums_all (text.drop at0)
  have hsj := stepJ_eq (rest := text.drop at0) (p := lastE none L)
  have hsn : text.length < at0 + 4 + N + 32 → stepJ (text.drop at0) (lastE none L) = none := fun h => by
    unfold stepJ
    rw [if_neg (by omega), hN, if_pos (.inr (by omega))]
  rw [hN, take_at, take_at2] at hsj
  generalize (text.drop at0).getD 0 0 = c0 at *
  generalize (text.drop at0).getD 1 0 = c1 at *
  generalize (text.drop at0).getD 2 0 = c2 at *
  generalize (text.drop at0).getD 3 0 = c3 at *
  by_cases hb : text.length < at0 + 4 + N + 32
  · rw [recF_none (hsn hb)]
    clear hsn hsj hF
    simp (config := { maxSteps := 1000000 }) (disch := omega) [-List.map_replicate, -List.map_set, -List.getD_eq_getElem?_getD, -getElem?_pos, -getElem?_neg, wrap_i64, le_strLim, le_sliceLim, le_buildLim, le_sliceLimI, Int.tmod_eq_emod_of_nonneg, Int.tdiv_eq_ediv_of_nonneg, omLe, omLeN, omLt, omLtN, omEq, omEqN, onLe, onLeN, onLt, onLtN, onEq, onEqN, g0, g1, g2, g3, n0, nn.n1, nn.n2, nn.n3, nn.n4, nn.n5, nn.n6, ix1, ix2, ix3, hAl, splice]
  have hsj := hsj (by omega)
  clear hsn
  have hTl : ((text.take (at0 + 4 + N)).drop (at0 + 4)).length = N := by simp; omega
  have hGl : ((text.take (at0 + 4 + N + 32)).drop (at0 + 4 + N)).length = 32 := by simp; omega
  have hD := ansDecR ((text.take (at0 + 4 + N)).drop (at0 + 4)) (by omega)
  generalize hTe : (text.take (at0 + 4 + N)).drop (at0 + 4) = T at *
  generalize hGe : (text.take (at0 + 4 + N + 32)).drop (at0 + 4 + N) = G at *
  unfold decA at hD
  cases hd : dec T with
  | none =>
    rw [hd] at hD hsj
    have hsj : stepJ (text.drop at0) (lastE none L) = none := hsj
    rw [recF_none hsj]
    simp only [zeroC] at hD
    clear hF hsj
    simp (config := { maxSteps := 1000000 }) (disch := omega) [-List.map_replicate, -List.map_set, -List.getD_eq_getElem?_getD, -getElem?_pos, -getElem?_neg, wrap_i64, le_strLim, le_sliceLim, le_buildLim, le_sliceLimI, Int.tmod_eq_emod_of_nonneg, Int.tdiv_eq_ediv_of_nonneg, omLe, omLeN, omLt, omLtN, omEq, omEqN, onLe, onLeN, onLt, onLtN, onEq, onEqN, g0, g1, g2, g3, n0, nn.n1, nn.n2, nn.n3, nn.n4, nn.n5, nn.n6, ix1, ix2, ix3, ix4, ix5, ix6, hTe, hGe, hD, hAl, splice]
  | some c =>
    rw [hd] at hD hsj
    obtain ⟨d1, d2⟩ := dec_iff.1 hd
    have hfin := enc_fine d1
    have hQ : stepQ (lastE none L) (some c) G (4 + N + 32) = if entE (lastE none L) ⟨c, G⟩ = 0 then some (⟨c, G⟩, 4 + N + 32) else none := rfl
    rw [hQ] at hsj
    have hnx : ensN (L ++ [⟨c, G⟩]) = ensN L ++ [enN ⟨c, G⟩] := by simp [ensN]
    have hen := ansEntryR none 6 (ensN (L ++ [⟨c, G⟩])) (fun _ => rfl) (fun x hx => by
      rw [hnx] at hx
      rcases List.mem_append.1 hx with hx | hx
      · exact (right_okN hr x hx).fair
      · rw [List.mem_singleton] at hx
        subst hx
        exact ⟨⟨fun _ => rfl, fun _ => rfl, by show c.nums.length < 1000000; omega, by show c.texts.length < 1000000; omega⟩, by show G.length < 100000; omega⟩) (by simp [ensN]; omega) L.length (by simp [ensN])
    have hgl : (ensN (L ++ [⟨c, G⟩]))[L.length]'(by simp [ensN]) = enN ⟨c, G⟩ := by simp [ensN]
    have htk : (ensN (L ++ [⟨c, G⟩])).take L.length = ensN L := by rw [hnx]; exact List.take_left' (by simp [ensN])
    rw [hgl, htk, lastL_N] at hen
    have hc0 : (enN ⟨c, G⟩).c = ⟨c, G⟩ := rfl
    rw [hc0, hnx] at hen
    have hsp : ensA (ensN L ++ [enN ⟨c, G⟩]) = ensA (ensN L) ++ [.agg [.int .i64 c.id, .int .i64 c.day, .int .i64 c.kind, .lst none 1 (intsA c.nums), .lst none 1 (strsA c.texts), .str G]] := by simp [ensA, enA, enN, evN, Ev.cells]
    rw [hsp] at hen
    unfold evA evN Ev.cells at hD
    simp only at hD
    have hA0 : L = [] → ensA (ensN L) = [] := fun h => by rw [h]; rfl
    by_cases he : entE (lastE none L) ⟨c, G⟩ = 0
    · rw [if_pos he] at hsj
      rw [he] at hen
      have hFs := recF_some (k := L.length) (by omega) hsj
      rw [hFs] at hF ⊢
      rw [List.drop_drop] at hF ⊢
      have hrr : right none (L ++ [⟨c, G⟩]) := right_app.2 ⟨hr, he, trivial⟩
      have hle : lastE none (L ++ [⟨c, G⟩]) = some ⟨c, G⟩ := by rw [lastE_app]; rfl
      have hbn : bN (L ++ [(⟨c, G⟩ : EntC)]) = none ∧ bZ (L ++ [(⟨c, G⟩ : EntC)]) = 6 := by cases L <;> exact ⟨rfl, rfl⟩
      have hf1 : L ++ (⟨c, G⟩ : EntC) :: (recF (text.drop (at0 + (4 + N + 32))) (some ⟨c, G⟩) (L.length + 1)).1 = (L ++ [⟨c, G⟩]) ++ (recF (text.drop (at0 + 4 + N + 32)) (lastE none (L ++ [⟨c, G⟩])) (L ++ [(⟨c, G⟩ : EntC)]).length).1 := by rw [hle]; simp [Nat.add_assoc]
      have hf2 : at0 + (4 + N + 32 + (recF (text.drop (at0 + (4 + N + 32))) (some ⟨c, G⟩) (L.length + 1)).2) = at0 + 4 + N + 32 + (recF (text.drop (at0 + 4 + N + 32)) (lastE none (L ++ [⟨c, G⟩])) (L ++ [(⟨c, G⟩ : EntC)]).length).2 := by rw [hle]; simp [Nat.add_assoc]
      have hMl : (L ++ [(⟨c, G⟩ : EntC)]).length ≤ 1024 := by simp; omega
      have hE2 : ensA (ensN (L ++ [⟨c, G⟩])) = ensA (ensN L) ++ [.agg [.int .i64 c.id, .int .i64 c.day, .int .i64 c.kind, .lst none 1 (intsA c.nums), .lst none 1 (strsA c.texts), .str G]] := by rw [hnx, hsp]
      cases L with
      | nil =>
        clear hF hFs hsj
        have hen : ansF cfg 57 [.lst none 6 [.agg [.int .i64 c.id, .int .i64 c.day, .int .i64 c.kind, .lst none 1 (intsA c.nums), .lst none 1 (strsA c.texts), .str G]], .int .i64 0] [] = some (.int .i64 0, []) := hen
        simp (config := { maxSteps := 1000000 }) (disch := omega) [-List.map_replicate, -List.map_set, -List.getD_eq_getElem?_getD, -getElem?_pos, -getElem?_neg, wrap_i64, le_strLim, le_sliceLim, le_buildLim, le_sliceLimI, Int.tmod_eq_emod_of_nonneg, Int.tdiv_eq_ediv_of_nonneg, omLe, omLeN, omLt, omLtN, omEq, omEqN, onLe, onLeN, onLt, onLtN, onEq, onEqN, g0, g1, g2, g3, n0, nn.n1, nn.n2, nn.n3, nn.n4, nn.n5, nn.n6, ix1, ix2, ix3, ix4, ix5, ix6, hTe, hGe, hD, hen, hAl, bN, bZ, ensN, ensA, splice]
        exact ⟨at0 + 4 + N + 32, [(⟨c, G⟩ : EntC)], ⟨⟨by omega, hMl⟩, hrr, hf1, hf2⟩, by omega, ⟨rfl, rfl, rfl⟩, by omega⟩
      | cons y r =>
        clear hF hFs hsj
        have hb1 : bN (y :: r) = none := rfl
        have hb2 : bZ (y :: r) = 6 := rfl
        have hr2 : r.length + 1 < 1024 := by simp only [List.length_cons] at hL hf; omega
        have hAA : ensA (ensN (y :: r)) = enA (enN y) :: ensA (ensN r) := rfl
        rw [hAA] at hen hAl hE2 ⊢
        simp only [List.length_cons, List.cons_append] at hen hAl hE2
        have hc1 : (((r.length + 1 : Nat)) : Int) = (r.length : Int) + 1 := by omega
        rw [hc1] at hen
        have hpl : AV.plain (enA (enN y)) = true := by simp [enA, Ev.cells, AV.plain, plainAll]
        generalize enA (enN y) = a0 at *
        have hpA : plainAll (ensA (ensN r)) = true := ensA_plain _
        generalize ensA (ensN r) = AA at *
        simp (config := { maxSteps := 1000000 }) (disch := omega) [-List.map_replicate, -List.map_set, -List.getD_eq_getElem?_getD, -getElem?_pos, -getElem?_neg, wrap_i64, le_strLim, le_sliceLim, le_buildLim, le_sliceLimI, Int.tmod_eq_emod_of_nonneg, Int.tdiv_eq_ediv_of_nonneg, omLe, omLeN, omLt, omLtN, omEq, omEqN, onLe, onLeN, onLt, onLtN, onEq, onEqN, g0, g1, g2, g3, n0, nn.n1, nn.n2, nn.n3, nn.n4, nn.n5, nn.n6, ix1, ix2, ix3, ix4, ix5, ix6, hTe, hGe, hD, hen, hAl, hb1, hb2, hr2, hpl, hpA, splice]
        exact ⟨at0 + 4 + N + 32, y :: r ++ [(⟨c, G⟩ : EntC)], ⟨⟨by omega, hMl⟩, hrr, hf1, hf2⟩, by omega, ⟨rfl, rfl, hE2.symm⟩, by omega⟩
    · rw [if_neg he] at hsj
      rw [recF_none hsj]
      generalize entE (lastE none L) ⟨c, G⟩ = EE at *
      have he' : (EE == 0) = false := by rw [beq_eq_false_iff_ne]; exact he
      cases L with
      | nil =>
        clear hF hsj
        have hen : ansF cfg 57 [.lst none 6 [.agg [.int .i64 c.id, .int .i64 c.day, .int .i64 c.kind, .lst none 1 (intsA c.nums), .lst none 1 (strsA c.texts), .str G]], .int .i64 0] [] = some (.int .i64 EE, []) := hen
        simp (config := { maxSteps := 1000000 }) (disch := omega) [-List.map_replicate, -List.map_set, -List.getD_eq_getElem?_getD, -getElem?_pos, -getElem?_neg, wrap_i64, le_strLim, le_sliceLim, le_buildLim, le_sliceLimI, Int.tmod_eq_emod_of_nonneg, Int.tdiv_eq_ediv_of_nonneg, omLe, omLeN, omLt, omLtN, omEq, omEqN, onLe, onLeN, onLt, onLtN, onEq, onEqN, g0, g1, g2, g3, n0, nn.n1, nn.n2, nn.n3, nn.n4, nn.n5, nn.n6, ix1, ix2, ix3, ix4, ix5, ix6, hTe, hGe, hD, hen, he, he', hAl, bN, bZ, ensN, ensA, splice]
      | cons y r =>
        clear hF hsj
        have hb1 : bN (y :: r) = none := rfl
        have hb2 : bZ (y :: r) = 6 := rfl
        have hr2 : r.length + 1 < 1024 := by simp only [List.length_cons] at hL hf; omega
        have hAA : ensA (ensN (y :: r)) = enA (enN y) :: ensA (ensN r) := rfl
        rw [hAA] at hen hAl ⊢
        simp only [List.length_cons, List.cons_append] at hen hAl
        have hc1 : (((r.length + 1 : Nat)) : Int) = (r.length : Int) + 1 := by omega
        rw [hc1] at hen
        have hpl : AV.plain (enA (enN y)) = true := by simp [enA, Ev.cells, AV.plain, plainAll]
        generalize enA (enN y) = a0 at *
        have hpA : plainAll (ensA (ensN r)) = true := ensA_plain _
        generalize ensA (ensN r) = AA at *
        simp (config := { maxSteps := 1000000 }) (disch := omega) [-List.map_replicate, -List.map_set, -List.getD_eq_getElem?_getD, -getElem?_pos, -getElem?_neg, wrap_i64, le_strLim, le_sliceLim, le_buildLim, le_sliceLimI, Int.tmod_eq_emod_of_nonneg, Int.tdiv_eq_ediv_of_nonneg, omLe, omLeN, omLt, omLtN, omEq, omEqN, onLe, onLeN, onLt, onLtN, onEq, onEqN, g0, g1, g2, g3, n0, nn.n1, nn.n2, nn.n3, nn.n4, nn.n5, nn.n6, ix1, ix2, ix3, ix4, ix5, ix6, hTe, hGe, hD, hen, he, he', hAl, hb1, hb2, hr2, hpl, hpA, splice]
        exact hAA.symm
def readAR (text : Str) : AV := if (recF text none 0).2 = text.length then .tup [.lst (bN (recF text none 0).1) (bZ (recF text none 0).1) (ensA (ensN (recF text none 0).1)), .int .i64 0] else .tup [.lst (some true) 0 [], .int .i64 13]
theorem ansReadR (text : Str) (hl : text.length < 100000) : ansF cfg 23 [.str text] [] = some (readAR text, []) := by
  refine ans_of_wp fn23 low23 ?_
  have h := ansRecR text hl
  have hs := recF_spec text none 0
  unfold readAR
  generalize recF text none 0 = q at *
  obtain ⟨L, n⟩ := q
  simp only at h hs ⊢
  by_cases k : n = text.length
  · have k' : ((n : Int) != (text.length : Int)) = false := by simp [k]
    simp (config := { maxSteps := 1000000 }) (disch := omega) [-List.map_replicate, -List.map_set, -List.getD_eq_getElem?_getD, -getElem?_pos, -getElem?_neg, wrap_i64, le_strLim, le_sliceLim, le_buildLim, le_sliceLimI, Int.tmod_eq_emod_of_nonneg, Int.tdiv_eq_ediv_of_nonneg, omLe, omLeN, omLt, omLtN, omEq, omEqN, onLe, onLeN, onLt, onLtN, onEq, onEqN, ir23, h, k', k, splice]
  · have k' : ((n : Int) != (text.length : Int)) = true := by simp; omega
    simp (config := { maxSteps := 1000000 }) (disch := omega) [-List.map_replicate, -List.map_set, -List.getD_eq_getElem?_getD, -getElem?_pos, -getElem?_neg, wrap_i64, le_strLim, le_sliceLim, le_buildLim, le_sliceLimI, Int.tmod_eq_emod_of_nonneg, Int.tdiv_eq_ediv_of_nonneg, omLe, omLeN, omLt, omLtN, omEq, omEqN, onLe, onLeN, onLt, onLtN, onEq, onEqN, ir23, h, k', k, splice]
end Go.Proofs.YtfhfnehoaiegcaaGreatDoor

namespace Go.Proofs.YtfhfnehoaiegcaaGreatDoor
open Go.Am Go.ChangeShapes Go.WideShapes Go.RowKit
set_option maxRecDepth 10000
set_option maxHeartbeats 8000000

/-- an entry that came in -/
structure En.inn (x : En) : Prop where
  e : x.e.inn
  d : x.d.length ≤ maxLen
theorem args_ens {ts : List TypeId} {xs : List AV} (h : ShpArgs Tryz.prog (36 :: ts) xs) : ∃ (nl : Bool) (z : Nat) (l : List En) (r : List AV), xs = .lst (some nl) z (ensA l) :: r ∧ (l ≠ [] → z = 6) ∧ (nl = true → z = 0 ∧ l = []) ∧ l.length ≤ maxLen ∧ (∀ n ∈ l, n.inn) ∧ ShpArgs Tryz.prog ts r := by
  obtain ⟨n, cs, r, rfl, h1, h2⟩ := h
  obtain ⟨nl, z, l, rfl, k1, k2, k3, k4⟩ := h1.sliceMap (e := 52) enA En.inn (by kernel_rfl) 6 (by kernel_rfl) (by decide) (fun m cs h => by
    have hfs : Tryz.prog.underlying 52 = some (.struct (fieldsAt Tryz.prog 52)) := by kernel_rfl
    have hft : (fieldsAt Tryz.prog 52).toList.map (·.type) = [25, 9] := by kernel_rfl
    obtain ⟨m, hs⟩ := h.struct hfs
    rw [hft] at hs
    obtain ⟨a, r, rfl, ha, b, r2, rfl, hb, rfl⟩ := hs
    obtain ⟨e, he, _, rfl⟩ := shp_ev ha
    obtain ⟨d, rfl, hd⟩ := hb.str (by kernel_rfl)
    exact ⟨⟨e, d⟩, ⟨he, hd⟩, by rw [hfs]; simp [enA, elemOfCells, aggU]⟩)
  refine ⟨nl, z, l, r, rfl, fun hl => k1 0 (List.length_pos_iff.2 hl), k2, k3, k4, h2⟩

def fewN (x : En) : Bool := fewC x.e.c && decide (x.d.length ≤ 40)
theorem ansFewEn (nl : Option Bool) (z : Nat) (l : List En) (hz : l ≠ [] → z = 6) (hl : ∀ x ∈ l, x.inn) (hlen : l.length ≤ 9223372036854775807) : ansF cfg 18 [.lst nl z (ensA l)] [] = some (.bool (l.all fewN && decide (l.length ≤ 20)), []) := by
  refine ans_of_wp fn18 low18 ?_
  simp (config := { maxSteps := 1000000 }) (disch := omega) [-List.map_replicate, -List.map_set, -List.getD_eq_getElem?_getD, -getElem?_pos, -getElem?_neg, wrap_i64, le_strLim, le_sliceLim, le_buildLim, le_sliceLimI, Int.tmod_eq_emod_of_nonneg, Int.tdiv_eq_ediv_of_nonneg, omLe, omLeN, omLt, omLtN, omEq, omEqN, onLe, onLeN, onLt, onLtN, onEq, onEqN, ir18]
  refine Wp.loopM (fun (i : Nat) => l.length - i) (fun i => [some (.lst nl z (ensA l)), none, some (.int .i64 i), none, none, none])
    (fun _ => []) (fun i => i ≤ l.length ∧ l.all fewN = (l.drop i).all fewN) ?_ 0 ⟨by simp, rfl⟩ (by simp) rfl
  rintro i ⟨hi, ha⟩
  by_cases k : i < l.length
  · have hg : l[i]? = some l[i] := List.getElem?_eq_getElem k
    obtain rfl : z = 6 := hz (by intro h; rw [h] at k; simp at k)
    have hx := hl _ (List.getElem_mem k)
    rw [List.drop_eq_getElem_cons k, List.all_cons] at ha
    have hF := ansFew l[i].e hx.e.w
    have hdl := hx.d
    generalize l[i] = x at *
    have hdl : x.d.length ≤ 9223372036854775807 := hdl
    unfold evA Ev.cells at hF
    have hi2 : i + 1 ≤ l.length := k
    rw [ha]
    unfold fewN
    cases hf : fewC x.e.c with
    | false =>
      rw [hf] at hF
      simp only [Bool.false_and]
      clear ha
      simp (config := { maxSteps := 1000000 }) (disch := omega) [-List.map_replicate, -List.map_set, -List.getD_eq_getElem?_getD, -getElem?_pos, -getElem?_neg, wrap_i64, le_strLim, le_sliceLim, le_buildLim, le_sliceLimI, Int.tmod_eq_emod_of_nonneg, Int.tdiv_eq_ediv_of_nonneg, omLe, omLeN, omLt, omLtN, omEq, omEqN, onLe, onLeN, onLt, onLtN, onEq, onEqN, hg, hF, enA, Ev.cells, splice]
    | true =>
      rw [hf] at hF
      by_cases hd : x.d.length ≤ 40
      · have ha2 : l.all fewN = (l.drop (i + 1)).all fewN := by rw [ha]; simp [fewN, hf, hd]
        simp only [hd, decide_true, Bool.true_and]
        clear ha
        simp (config := { maxSteps := 1000000 }) (disch := omega) [-List.map_replicate, -List.map_set, -List.getD_eq_getElem?_getD, -getElem?_pos, -getElem?_neg, wrap_i64, le_strLim, le_sliceLim, le_buildLim, le_sliceLimI, Int.tmod_eq_emod_of_nonneg, Int.tdiv_eq_ediv_of_nonneg, omLe, omLeN, omLt, omLtN, omEq, omEqN, onLe, onLeN, onLt, onLtN, onEq, onEqN, hg, hF, enA, Ev.cells, splice]
        exact ⟨i + 1, ⟨hi2, rfl⟩, by omega, by omega⟩
      · simp only [hd, decide_false, Bool.and_false, Bool.false_and]
        clear ha
        simp (config := { maxSteps := 1000000 }) (disch := omega) [-List.map_replicate, -List.map_set, -List.getD_eq_getElem?_getD, -getElem?_pos, -getElem?_neg, wrap_i64, le_strLim, le_sliceLim, le_buildLim, le_sliceLimI, Int.tmod_eq_emod_of_nonneg, Int.tdiv_eq_ediv_of_nonneg, omLe, omLeN, omLt, omLtN, omEq, omEqN, onLe, onLeN, onLt, onLtN, onEq, onEqN, hg, hF, enA, Ev.cells, splice]
  · obtain rfl : i = l.length := by omega
    rw [ha, List.drop_length]
    simp (config := { maxSteps := 1000000 }) (disch := omega) [-List.map_replicate, -List.map_set, -List.getD_eq_getElem?_getD, -getElem?_pos, -getElem?_neg, wrap_i64, le_strLim, le_sliceLim, le_buildLim, le_sliceLimI, Int.tmod_eq_emod_of_nonneg, Int.tdiv_eq_ediv_of_nonneg, omLe, omLeN, omLt, omLtN, omEq, omEqN, onLe, onLeN, onLt, onLtN, onEq, onEqN, splice]
    omega

theorem ansReads {xs : List AV} (h : ShpArgs Tryz.prog [36, 9] xs) : ansF cfg 4 xs [] = some (.bool true, []) := by
  obtain ⟨nl, z, l, r, rfl, hz, -, hlen, hin, hr⟩ := args_ens h
  obtain ⟨s, r, rfl, hsl, hr⟩ := args_str hr
  obtain rfl := args_nil hr
  refine ans_of_wp fn4 low4 ?_
  have hsl2 : (s.length : Int) ≤ 9223372036854775807 := by have h2 : s.length ≤ 9223372036854775807 := hsl; omega
  have hlen2 : l.length ≤ 9223372036854775807 := hlen
  have hfew := ansFewEn (some nl) z l hz hin hlen2
  by_cases hf : (l.all fewN && decide (l.length ≤ 20)) = true
  case neg =>
    have hf : (l.all fewN && decide (l.length ≤ 20)) = false := by simpa using hf
    rw [hf] at hfew
    simp (config := { maxSteps := 1000000 }) (disch := omega) [-List.map_replicate, -List.map_set, -List.getD_eq_getElem?_getD, -getElem?_pos, -getElem?_neg, wrap_i64, le_strLim, le_sliceLim, le_buildLim, le_sliceLimI, Int.tmod_eq_emod_of_nonneg, Int.tdiv_eq_ediv_of_nonneg, omLe, omLeN, omLt, omLtN, omEq, omEqN, onLe, onLeN, onLt, onLtN, onEq, onEqN, ir4, ansAwake, hfew, splice]
  rw [hf] at hfew
  rw [Bool.and_eq_true, List.all_eq_true, decide_eq_true_eq] at hf
  obtain ⟨hf, h20⟩ := hf
  by_cases k : 4000 < s.length
  · simp (config := { maxSteps := 1000000 }) (disch := omega) [-List.map_replicate, -List.map_set, -List.getD_eq_getElem?_getD, -getElem?_pos, -getElem?_neg, wrap_i64, le_strLim, le_sliceLim, le_buildLim, le_sliceLimI, Int.tmod_eq_emod_of_nonneg, Int.tdiv_eq_ediv_of_nonneg, omLe, omLeN, omLt, omLtN, omEq, omEqN, onLe, onLeN, onLt, onLtN, onEq, onEqN, ir4, ansAwake, hfew, k, splice]
  have hb : ∀ x ∈ l, x.e.ok ∧ x.d.length ≤ 40 := fun x hx => by
    have h1 := hf x hx
    unfold fewN at h1
    rw [Bool.and_eq_true, decide_eq_true_eq] at h1
    obtain ⟨b1, b2, _⟩ := few_bounds h1.1
    exact ⟨⟨(hin x hx).e.w.hz, (hin x hx).e.w.hz2, by omega, by omega⟩, h1.2⟩
  have q1 := ansCopyW (some nl) z l hz (fun x hx => (hb x hx).1) (by omega)
  have hcp : ∀ x ∈ cps (l.map En.c), x.ok ∧ x.d.length ≤ 100 := fun x hx => by
    simp only [cps, List.map_map, List.mem_map] at hx
    obtain ⟨y, hy, rfl⟩ := hx
    obtain ⟨h1, h2⟩ := hb y hy
    exact ⟨⟨evCp_ok h1.hn h1.ht, evCp_nn _, by show y.d.length < 100000; omega⟩, by show y.d.length ≤ 100; omega⟩
  have q2 := ansWrP none 6 (cps (l.map En.c)) (fun _ => rfl) (fun x hx => (hcp x hx).1) (fun x hx => (hcp x hx).2) (by simp; omega)
  rw [cps_c] at q2
  have q3 := ansWrR (some nl) z l hz (fun x hx => ⟨(hb x hx).1, by have := (hb x hx).2; omega⟩) (fun x hx => by have := (hb x hx).2; omega) (by omega)
  have q4 := ansReadP s (by omega)
  have q5 := ansReadR s (by omega)
  have q6 := ansRecP s (by omega)
  have q7 := ansRecR s (by omega)
  obtain ⟨hr1, _, _, _, hr5⟩ := recF_spec s none 0
  have hok := right_okN hr1
  have hbz : (recF s none 0).1 ≠ [] → bZ (recF s none 0).1 = 6 := bZ_ne
  unfold readA at q4
  unfold readAR at q5
  generalize recF s none 0 = R at *
  obtain ⟨L, n⟩ := R
  simp only at q4 q5 q6 q7 hr1 hr5 hok hbz
  have hLl : (ensN L).length < 100000 := by simp only [ensN, List.length_map]; omega
  have q8 := ansSame none (bN L) 6 (bZ L) (ensN L) (ensN L) (fun _ => rfl) (fun h => hbz (by intro e; rw [e] at h; exact h rfl)) hok hok hLl hLl
  have q9 : ansF cfg 26 [.lst (some true) 0 [], .lst (some true) 0 []] [] = some (.bool true, []) := ansSame (some true) (some true) 0 0 [] [] (fun h => absurd rfl h) (fun h => absurd rfl h) (fun _ h => by cases h) (fun _ h => by cases h) (by decide) (by decide)
  simp only [decide_true] at q8
  unfold wrA at q2 q3
  generalize ensA (ensN L) = A at *
  generalize ensA (cps (l.map En.c)) = AC at *
  by_cases kn : n = s.length
  · simp only [kn, if_true] at q4 q5
    by_cases kw : 1024 < (l.map En.c).length ∨ ¬ (chk none 0 (l.map En.c)).2 = 0
    · simp only [kw, if_true] at q2 q3
      simp (config := { maxSteps := 1000000 }) (disch := omega) [-List.map_replicate, -List.map_set, -List.getD_eq_getElem?_getD, -getElem?_pos, -getElem?_neg, wrap_i64, le_strLim, le_sliceLim, le_buildLim, le_sliceLimI, Int.tmod_eq_emod_of_nonneg, Int.tdiv_eq_ediv_of_nonneg, omLe, omLeN, omLt, omLtN, omEq, omEqN, onLe, onLeN, onLt, onLtN, onEq, onEqN, ir4, ansAwake, hfew, q1, q2, q3, q4, q5, q6, q7, q8, splice]
    · simp only [kw, if_false] at q2 q3
      simp (config := { maxSteps := 1000000 }) (disch := omega) [-List.map_replicate, -List.map_set, -List.getD_eq_getElem?_getD, -getElem?_pos, -getElem?_neg, wrap_i64, le_strLim, le_sliceLim, le_buildLim, le_sliceLimI, Int.tmod_eq_emod_of_nonneg, Int.tdiv_eq_ediv_of_nonneg, omLe, omLeN, omLt, omLtN, omEq, omEqN, onLe, onLeN, onLt, onLtN, onEq, onEqN, ir4, ansAwake, hfew, q1, q2, q3, q4, q5, q6, q7, q8, splice]
  · simp only [kn, if_false] at q4 q5
    by_cases kw : 1024 < (l.map En.c).length ∨ ¬ (chk none 0 (l.map En.c)).2 = 0
    · simp only [kw, if_true] at q2 q3
      simp (config := { maxSteps := 1000000 }) (disch := omega) [-List.map_replicate, -List.map_set, -List.getD_eq_getElem?_getD, -getElem?_pos, -getElem?_neg, wrap_i64, le_strLim, le_sliceLim, le_buildLim, le_sliceLimI, Int.tmod_eq_emod_of_nonneg, Int.tdiv_eq_ediv_of_nonneg, omLe, omLeN, omLt, omLtN, omEq, omEqN, onLe, onLeN, onLt, onLtN, onEq, onEqN, ir4, ansAwake, hfew, q1, q2, q3, q4, q5, q6, q7, q8, q9, splice]
    · simp only [kw, if_false] at q2 q3
      simp (config := { maxSteps := 1000000 }) (disch := omega) [-List.map_replicate, -List.map_set, -List.getD_eq_getElem?_getD, -getElem?_pos, -getElem?_neg, wrap_i64, le_strLim, le_sliceLim, le_buildLim, le_sliceLimI, Int.tmod_eq_emod_of_nonneg, Int.tdiv_eq_ediv_of_nonneg, omLe, omLeN, omLt, omLtN, omEq, omEqN, onLe, onLeN, onLt, onLtN, onEq, onEqN, ir4, ansAwake, hfew, q1, q2, q3, q4, q5, q6, q7, q8, q9, splice]
end Go.Proofs.YtfhfnehoaiegcaaGreatDoor
