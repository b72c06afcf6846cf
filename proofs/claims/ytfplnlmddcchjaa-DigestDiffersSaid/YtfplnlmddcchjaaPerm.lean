/-
  The permutation, as the program and as the reference compute it.
-/
import Derived.Test.YtfplnlmddcchjaaRound
namespace Go.Proofs.Ytfplnlmddcchjaa
open Go.Am
set_option maxRecDepth 10000
set_option maxHeartbeats 4000000

def rots : List Nat := [0, 1, 62, 28, 27, 36, 44, 6, 55, 20, 3, 10, 43, 25, 39, 41, 45, 15, 21, 8, 18, 2, 61, 56, 14]
def rcs : W := [0x0000000000000001, 0x0000000000008082, 0x800000000000808a, 0x8000000080008000,
  0x000000000000808b, 0x0000000080000001, 0x8000000080008081, 0x8000000000008009,
  0x000000000000008a, 0x0000000000000088, 0x0000000080008009, 0x000000008000000a,
  0x000000008000808b, 0x800000000000008b, 0x8000000000008089, 0x8000000000008003,
  0x8000000000008002, 0x8000000000000080, 0x000000000000800a, 0x800000008000000a,
  0x8000000080008081, 0x8000000000008080, 0x0000000080000001, 0x8000000080008008]

theorem rots_av : rots.map i64n = [.int .i64 0, .int .i64 1, .int .i64 62, .int .i64 28, .int .i64 27, .int .i64 36, .int .i64 44, .int .i64 6, .int .i64 55, .int .i64 20, .int .i64 3, .int .i64 10, .int .i64 43, .int .i64 25, .int .i64 39, .int .i64 41, .int .i64 45, .int .i64 15, .int .i64 21, .int .i64 8, .int .i64 18, .int .i64 2, .int .i64 61, .int .i64 56, .int .i64 14] := rfl
theorem rcs_av : rcs.map w64 = [.int .u64 0x0000000000000001, .int .u64 0x0000000000008082, .int .u64 0x800000000000808a, .int .u64 0x8000000080008000,
  .int .u64 0x000000000000808b, .int .u64 0x0000000080000001, .int .u64 0x8000000080008081, .int .u64 0x8000000000008009,
  .int .u64 0x000000000000008a, .int .u64 0x0000000000000088, .int .u64 0x0000000080008009, .int .u64 0x000000008000000a,
  .int .u64 0x000000008000808b, .int .u64 0x800000000000008b, .int .u64 0x8000000000008089, .int .u64 0x8000000000008003,
  .int .u64 0x8000000000008002, .int .u64 0x8000000000000080, .int .u64 0x000000000000800a, .int .u64 0x800000008000000a,
  .int .u64 0x8000000080008081, .int .u64 0x8000000000008080, .int .u64 0x0000000080000001, .int .u64 0x8000000080008008] := by kernel_rfl

theorem ansRotsP : ansF cfg 23 [] [] = some (.agg (rots.map i64n), []) := by
  refine ans_of_wp fn23 low23 ?_
  rw [rots_av]
  simp (disch := omega) [-List.map_replicate, -List.map_set, -List.getD_eq_getElem?_getD, -getElem?_pos, -getElem?_neg, ir23, splice]
theorem ansRotsR : ansF cfg 27 [] [] = some (.agg (rots.map i64n), []) := by
  refine ans_of_wp fn27 low27 ?_
  rw [rots_av]
  simp (disch := omega) [-List.map_replicate, -List.map_set, -List.getD_eq_getElem?_getD, -getElem?_pos, -getElem?_neg, ir27, splice]
theorem ansRcsP : ansF cfg 24 [] [] = some (.agg (rcs.map w64), []) := by
  refine ans_of_wp fn24 low24 ?_
  rw [rcs_av]
  simp (disch := omega) [-List.map_replicate, -List.map_set, -List.getD_eq_getElem?_getD, -getElem?_pos, -getElem?_neg, ir24, splice]
theorem ansRcsR : ansF cfg 26 [] [] = some (.agg (rcs.map w64), []) := by
  refine ans_of_wp fn26 low26 ?_
  rw [rcs_av]
  simp (disch := omega) [-List.map_replicate, -List.map_set, -List.getD_eq_getElem?_getD, -getElem?_pos, -getElem?_neg, ir26, splice]

theorem rots_length : rots.length = 25 := rfl
theorem rcs_length : rcs.length = 24 := rfl
theorem rots_lt (i : Nat) : rots.getD i 0 < 64 := by
  have h : ∀ n ∈ rots, n < 64 := by decide
  rw [List.getD_eq_getElem?_getD]
  cases hi : rots[i]? with
  | none => simp
  | some x => simpa using h x (List.mem_of_getElem? hi)

/-- a permuted state -/
def permP (s : W) : Nat → W
  | 0 => s
  | n + 1 => roundP (permP s n) rots (rcs.getD n 0#64)
def permR (s : W) : Nat → W
  | 0 => s
  | n + 1 => roundR (permR s n) rots (rcs.getD n 0#64)
theorem roundP_length (a : W) (r : List Nat) (c : BitVec 64) : (roundP a r c).length = 25 := by simp [roundP]
theorem roundR_length (a : W) (ha : a.length = 25) (r : List Nat) (c : BitVec 64) : (roundR a r c).length = 25 := by
  simp only [roundR, List.length_set]
  exact oR_length _ _ (aR_length _ _ ha 25) 25
theorem permP_length (s : W) (hs : s.length = 25) : ∀ n, (permP s n).length = 25
  | 0 => hs
  | _n + 1 => roundP_length _ _ _
theorem permR_length (s : W) (hs : s.length = 25) : ∀ n, (permR s n).length = 25
  | 0 => hs
  | n + 1 => roundR_length _ (permR_length s hs n) _ _

theorem ansPermP (s : W) (hs : s.length = 25) : ansF cfg 11 [.agg (s.map w64)] [] = some (.agg ((permP s 24).map w64), []) := by
  refine ans_of_wp fn11 low11 ?_
  simp (disch := omega) [-List.map_replicate, -List.map_set, -List.getD_eq_getElem?_getD, -getElem?_pos, -getElem?_neg, ir11, ansRotsP, ansRcsP, rots_length]
  rw [zeros25]
  refine Wp.loopM (fun i => 24 - i) (fun (i : Nat) => [none, some (.ptr 0 0), some (.ptr 1 0), some (.ptr 2 0), none, none, some (.agg (rcs.map w64)), some (.int .i64 i), none, none])
    (fun i => [.var 23 ((permP s i).map w64), .var 23 (z25.map w64), .var 42 (rots.map i64n)]) (fun i => i ≤ 24) ?_ 0 (by omega) (by simp) (by simp only [permP]; rfl)
  intro i hi
  by_cases h : i < 24
  · have hI : (i : Int) < 24 := by omega
    have hl := permP_length s hs i
    simp (disch := omega) [-List.map_replicate, -List.map_set, -List.getD_eq_getElem?_getD, -getElem?_pos, -getElem?_neg, wrap_i64, hI, hl, get_w64 (a := rcs) (i := i) (by rw [rcs_length]; exact h), take_w64 hl, ansRoundP (permP s i) hl rots rots_length rots_lt, roundP_length, rots_length, take_eq (l := rots.map i64n) (n := 25) rfl, splice_all (cs := (permP s i).map w64) (v := (roundP (permP s i) rots (rcs.getD i 0#64)).map w64) (by simp [hl, roundP_length])]
    exact ⟨i + 1, by omega, by omega, by omega, rfl⟩
  obtain rfl : i = 24 := by omega
  have hl := permP_length s hs 24
  simp (disch := omega) [-List.map_replicate, -List.map_set, -List.getD_eq_getElem?_getD, -getElem?_pos, -getElem?_neg, hl, take_w64 hl, z25_length, splice_all (cs := z25.map w64) (v := (permP s 24).map w64) (by simp [hl]; rfl)]

theorem ansPermR (s : W) (hs : s.length = 25) : ansF cfg 12 [.agg (s.map w64)] [] = some (.agg ((permR s 24).map w64), []) := by
  refine ans_of_wp fn12 low12 ?_
  simp (disch := omega) [-List.map_replicate, -List.map_set, -List.getD_eq_getElem?_getD, -getElem?_pos, -getElem?_neg, ir12, ansRotsR, ansRcsR, rots_length, rcs_length]
  rw [zeros25]
  refine Wp.loopM (fun i => 24 - i) (fun (i : Nat) => [none, some (.ptr 0 0), some (.ptr 1 0), some (.ptr 2 0), some (.ptr 3 0), some (.int .i64 i), none, none, none, none])
    (fun i => [.var 23 ((permR s i).map w64), .var 23 (z25.map w64), .var 44 (rcs.map w64), .var 42 (rots.map i64n)]) (fun i => i ≤ 24) ?_ 0 (by omega) (by simp) (by simp only [permR]; rfl)
  intro i hi
  by_cases h : i < 24
  · have hI : (i : Int) < 24 := by omega
    have hl := permR_length s hs i
    simp (disch := omega) [-List.map_replicate, -List.map_set, -List.getD_eq_getElem?_getD, -getElem?_pos, -getElem?_neg, wrap_i64, hI, hl, get_w64 (a := rcs) (i := i) (by rw [rcs_length]; exact h), take_w64 hl, ansRoundR (permR s i) hl rots rots_length rots_lt, roundR_length _ hl, rots_length, take_eq (l := rots.map i64n) (n := 25) rfl, splice_all (cs := (permR s i).map w64) (v := (roundR (permR s i) rots (rcs.getD i 0#64)).map w64) (by simp [hl, roundR_length _ hl])]
    exact ⟨i + 1, by omega, by omega, by omega, rfl⟩
  obtain rfl : i = 24 := by omega
  have hl := permR_length s hs 24
  simp (disch := omega) [-List.map_replicate, -List.map_set, -List.getD_eq_getElem?_getD, -getElem?_pos, -getElem?_neg, hl, take_w64 hl, z25_length, splice_all (cs := z25.map w64) (v := (permR s 24).map w64) (by simp [hl]; rfl)]

theorem round25 (a0 a1 a2 a3 a4 a5 a6 a7 a8 a9 a10 a11 a12 a13 a14 a15 a16 a17 a18 a19 a20 a21 a22 a23 a24 c : BitVec 64) : roundP [a0, a1, a2, a3, a4, a5, a6, a7, a8, a9, a10, a11, a12, a13, a14, a15, a16, a17, a18, a19, a20, a21, a22, a23, a24] rots c = roundR [a0, a1, a2, a3, a4, a5, a6, a7, a8, a9, a10, a11, a12, a13, a14, a15, a16, a17, a18, a19, a20, a21, a22, a23, a24] rots c := by kernel_rfl

theorem round_same (a : W) (ha : a.length = 25) (c : BitVec 64) : roundP a rots c = roundR a rots c := by
  match a, ha with
  | [a0, a1, a2, a3, a4, a5, a6, a7, a8, a9, a10, a11, a12, a13, a14, a15, a16, a17, a18, a19, a20, a21, a22, a23, a24], _ => exact round25 a0 a1 a2 a3 a4 a5 a6 a7 a8 a9 a10 a11 a12 a13 a14 a15 a16 a17 a18 a19 a20 a21 a22 a23 a24 c

theorem perm_same (s : W) (hs : s.length = 25) : ∀ n, permP s n = permR s n
  | 0 => rfl
  | n + 1 => by
    simp only [permP, permR]
    rw [perm_same s hs n, round_same _ (permR_length s hs n)]
end Go.Proofs.Ytfplnlmddcchjaa
