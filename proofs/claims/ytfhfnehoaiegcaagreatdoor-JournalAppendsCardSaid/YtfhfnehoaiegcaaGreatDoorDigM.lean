/-
  The rounds of Keccak, as the program and as the reference compute them. The permutation, as the program and as the reference compute it. A block, Write and Sum of the program. The reference's digest of a string. The program's digest of a string is the reference's. strings.Builder, whatever boxes lie about it: its variable is box k, its bytes are box j.
-/
import Derived.Test.YtfhfnehoaiegcaaGreatDoorIrs
import Derived.Test.YtfhfnehoaiegcaaGreatDoorMsgM
set_option linter.all false
namespace Go.Proofs.YtfhfnehoaiegcaaGreatDoor
open Go.Am
set_option maxRecDepth 10000
set_option maxHeartbeats 4000000

abbrev W := List (BitVec 64)
def rot (x : BitVec 64) (n : Nat) : BitVec 64 := x <<< n ||| x >>> (64 - n)

def z5 : W := [0, 0, 0, 0, 0]
def z25 : W := [0, 0, 0, 0, 0, 0, 0, 0, 0, 0, 0, 0, 0, 0, 0, 0, 0, 0, 0, 0, 0, 0, 0, 0, 0]

theorem z25_length : z25.length = 25 := rfl

/-- sums of columns -/
def sumsN (a : W) : Nat → W
  | 0 => z5
  | n + 1 => (sumsN a n).set (n % 5) ((sumsN a n).getD (n % 5) 0#64 ^^^ a.getD n 0#64)
/-- the program's second loop -/
def bP (a s : W) (r : List Nat) : Nat → W
  | 0 => z25
  | n + 1 => (bP a s r n).set (n / 5 + 5 * ((2 * (n % 5) + 3 * (n / 5)) % 5)) (rot ((a.getD (n % 5 + 5 * (n / 5)) 0#64 ^^^ s.getD ((n % 5 + 4) % 5) 0#64) ^^^ rot (s.getD ((n % 5 + 1) % 5) 0#64) 1) (r.getD (n % 5 + 5 * (n / 5)) 0))
/-- its third one -/
def oP (b : W) : Nat → W
  | 0 => z25
  | n + 1 => (oP b n).set (n % 5 + 5 * (n / 5)) (b.getD (n % 5 + 5 * (n / 5)) 0#64 ^^^ (~~~ b.getD ((n % 5 + 1) % 5 + 5 * (n / 5)) 0#64 &&& b.getD ((n % 5 + 2) % 5 + 5 * (n / 5)) 0#64))
def roundP (a : W) (r : List Nat) (c : BitVec 64) : W :=
  let o := oP (bP a (sumsN a 25) r 25) 25
  o.set 0 (o.getD 0 0#64 ^^^ c)

@[simp] theorem sumsN_length (a : W) : ∀ n, (sumsN a n).length = 5
  | 0 => rfl
  | n + 1 => by simp [sumsN, sumsN_length a n]
@[simp] theorem bP_length (a s : W) (r : List Nat) : ∀ n, (bP a s r n).length = 25
  | 0 => rfl
  | n + 1 => by simp [bP, bP_length a s r n]
@[simp] theorem oP_length (b : W) : ∀ n, (oP b n).length = 25
  | 0 => rfl
  | n + 1 => by simp [oP, oP_length b n]

theorem zeros25 : [AV.int .u64 0, .int .u64 0, .int .u64 0, .int .u64 0, .int .u64 0, .int .u64 0, .int .u64 0, .int .u64 0, .int .u64 0, .int .u64 0, .int .u64 0, .int .u64 0, .int .u64 0, .int .u64 0, .int .u64 0, .int .u64 0, .int .u64 0, .int .u64 0, .int .u64 0, .int .u64 0, .int .u64 0, .int .u64 0, .int .u64 0, .int .u64 0, .int .u64 0] = z25.map w64 := rfl
theorem zeros5 : [AV.int .u64 0, .int .u64 0, .int .u64 0, .int .u64 0, .int .u64 0] = z5.map w64 := rfl

theorem get_i64n {a : List Nat} {i : Nat} (h : i < a.length) : a[i]? = some (a.getD i 0) := by
  simp [List.getD_eq_getElem?_getD, List.getElem?_eq_getElem h]

theorem and63 (n : Nat) (hn : n < 64) : (BitVec.ofInt 64 (n : Int) &&& 63#64).toNat = n := by
  have h1 : (BitVec.ofInt 64 (n : Int)) = BitVec.ofNat 64 n := by simp
  rw [h1, BitVec.toNat_and, BitVec.toNat_ofNat, BitVec.toNat_ofNat, show 63 % 2 ^ 64 = 2 ^ 6 - 1 by decide, Nat.and_two_pow_sub_one_eq_mod]
  omega

theorem ixs (x y : Nat) (hx : x < 5) (hy : y < 5) : ((x : Int) + 5 * (y : Int)).toNat = x + 5 * y ∧ (x : Int) + 5 * (y : Int) < 25 ∧ 0 ≤ (x : Int) + 5 * (y : Int) ∧ (((x : Int) + 4) % 5).toNat = (x + 4) % 5 ∧ ((x : Int) + 4) % 5 < 5 ∧ 0 ≤ ((x : Int) + 4) % 5 ∧
    (((x : Int) + 1) % 5).toNat = (x + 1) % 5 ∧ ((x : Int) + 1) % 5 < 5 ∧ 0 ≤ ((x : Int) + 1) % 5 ∧ ((y : Int) + 5 * ((2 * (x : Int) + 3 * (y : Int)) % 5)).toNat = y + 5 * ((2 * x + 3 * y) % 5) ∧ (y : Int) + 5 * ((2 * (x : Int) + 3 * (y : Int)) % 5) < 25 ∧ 0 ≤ (y : Int) + 5 * ((2 * (x : Int) + 3 * (y : Int)) % 5) ∧ y + 5 * ((2 * x + 3 * y) % 5) ≤ 24 := by
  have hq : 2 * (x : Int) + 3 * (y : Int) = ((2 * x + 3 * y : Nat) : Int) := by omega
  refine ⟨by omega, by omega, by omega, by omega, by omega, by omega, by omega, by omega, by omega, by rw [hq]; omega, by omega, by omega, by omega⟩

theorem ixo (x y : Nat) (hx : x < 5) (hy : y < 5) : (((x : Int) + 1) % 5 + 5 * (y : Int)).toNat = (x + 1) % 5 + 5 * y ∧ ((x : Int) + 1) % 5 + 5 * (y : Int) < 25 ∧ 0 ≤ ((x : Int) + 1) % 5 + 5 * (y : Int) ∧ (((x : Int) + 2) % 5 + 5 * (y : Int)).toNat = (x + 2) % 5 + 5 * y ∧ ((x : Int) + 2) % 5 + 5 * (y : Int) < 25 ∧ 0 ≤ ((x : Int) + 2) % 5 + 5 * (y : Int) ∧ x + 5 * y ≤ 24 := by
  refine ⟨by omega, by omega, by omega, by omega, by omega, by omega, by omega⟩

theorem ansRotP (x : BitVec 64) (n : Nat) (hn : n < 64) : ansF cfg 139 [w64 x, .int .i64 (n : Int)] [] = some (w64 (rot x n), []) := by
  have h1 : ∀ ty, binA cfg ty .sub (.int .u64 64) (.int .u64 (n : Int)) = some (.int .u64 ((64 - n : Nat) : Int)) := fun ty => by
    have h : (64 : Int) - (n : Int) = ((64 - n : Nat) : Int) := by omega
    simp (disch := omega) [h, wrap_u64]
  have h2 : ∀ ty, binA cfg ty .and (.int .u64 (n : Int)) (.int .u64 63) = some (.int .u64 (n : Int)) := fun ty => by
    show some (AV.int .u64 (IntKind.u64.wrap ((BitVec.ofInt 64 (n : Int) &&& BitVec.ofInt 64 63).toNat : Int))) = _
    rw [show BitVec.ofInt 64 63 = 63#64 by decide, and63 n hn, wrap_u64 (by omega) (by omega)]
  refine ans_of_wp fn139 low139 ?_
  simp (config := { maxSteps := 1000000 }) (disch := omega) [-List.map_replicate, -List.map_set, -List.getD_eq_getElem?_getD, -getElem?_pos, -getElem?_neg, wrap_i64, le_strLim, le_sliceLim, le_buildLim, le_sliceLimI, Int.tmod_eq_emod_of_nonneg, Int.tdiv_eq_ediv_of_nonneg, ir139, -binA_int, wrap_u64, h2, h1, w64_shl, w64_shr, rot]

theorem ansRotR (x : BitVec 64) (n : Nat) (hn : n < 64) : ansF cfg 125 [w64 x, .int .i64 (n : Int)] [] = some (w64 (rot x n), []) := by
  have h1 : (64 : Int) - (n : Int) = ((64 - n : Nat) : Int) := by omega
  refine ans_of_wp fn125 low125 ?_
  simp (config := { maxSteps := 1000000 }) (disch := omega) [-List.map_replicate, -List.map_set, -List.getD_eq_getElem?_getD, -getElem?_pos, -getElem?_neg, wrap_i64, le_strLim, le_sliceLim, le_buildLim, le_sliceLimI, Int.tmod_eq_emod_of_nonneg, Int.tdiv_eq_ediv_of_nonneg, ir125, h1, w64_shl, w64_shr, rot]

theorem ansRotP1 (x : BitVec 64) : ansF cfg 139 [w64 x, .int .i64 1] [] = some (w64 (rot x 1), []) := ansRotP x 1 (by omega)
theorem ansRotPn (x : BitVec 64) (n : Nat) (hn : n < 64) : ansF cfg 139 [w64 x, i64n n] [] = some (w64 (rot x n), []) := ansRotP x n hn
theorem ansRotR1 (x : BitVec 64) : ansF cfg 125 [w64 x, .int .i64 1] [] = some (w64 (rot x 1), []) := ansRotR x 1 (by omega)
theorem ansRotRn (x : BitVec 64) (n : Nat) (hn : n < 64) : ansF cfg 125 [w64 x, i64n n] [] = some (w64 (rot x n), []) := ansRotR x n hn

theorem ansRoundP (a : W) (ha : a.length = 25) (r : List Nat) (hr : r.length = 25) (hr2 : ∀ i, r.getD i 0 < 64) (c : BitVec 64) : ansF cfg 121 [.agg (a.map w64), .agg (r.map i64n), w64 c] [] = some (.agg ((roundP a r c).map w64), []) := by
  refine ans_of_wp fn121 low121 ?_
  simp (config := { maxSteps := 1000000 }) (disch := omega) [-List.map_replicate, -List.map_set, -List.getD_eq_getElem?_getD, -getElem?_pos, -getElem?_neg, wrap_i64, le_strLim, le_sliceLim, le_buildLim, le_sliceLimI, Int.tmod_eq_emod_of_nonneg, Int.tdiv_eq_ediv_of_nonneg, ir121, ha, take_w64]
  rw [zeros25, zeros5]
  refine Wp.loopM (fun i => 25 - i) (fun (i : Nat) => [none, none, some (w64 c), some (.ptr 0 0), some (.ptr 1 0), some (.ptr 2 0), some (.ptr 3 0), none, none, none, none, none, none, none, none, none, none, some (.agg (a.map w64)), some (.int .i64 i), none, none, none, none, none, none, none, none, none, none, none, none])
    (fun i => [.var 116 (a.map w64), .var 141 (r.map i64n), .var 116 (z25.map w64), .var 164 ((sumsN a i).map w64)]) (fun i => i ≤ 25) ?_ 0 (by omega) (by simp) (by simp only [sumsN])
  intro i hi
  by_cases h : i < 25
  · have hI : (i : Int) < 25 := by omega
    have h2I : (i : Int) % 5 < 5 := by omega
    have h3 : i % 5 < (sumsN a i).length := by simp; omega
    have h4 : i < a.length := by omega
    have h5 : i % 5 ≤ 4 := by omega
    simp (config := { maxSteps := 1000000 }) (disch := omega) [-List.map_replicate, -List.map_set, -List.getD_eq_getElem?_getD, -getElem?_pos, -getElem?_neg, wrap_i64, le_strLim, le_sliceLim, le_buildLim, le_sliceLimI, Int.tmod_eq_emod_of_nonneg, Int.tdiv_eq_ediv_of_nonneg, hI, h2I, h3, h5, get_w64 h3, get_w64 h4, splice_w64]
    exact ⟨i + 1, by omega, by omega, by omega, by simp [sumsN, List.map_set]⟩
  obtain rfl : i = 25 := by omega
  clear hi h
  generalize hs : sumsN a 25 = s
  have hsl : s.length = 5 := by rw [← hs]; simp
  simp (config := { maxSteps := 1000000 }) (disch := omega) [-List.map_replicate, -List.map_set, -List.getD_eq_getElem?_getD, -getElem?_pos, -getElem?_neg, wrap_i64, le_strLim, le_sliceLim, le_buildLim, le_sliceLimI, Int.tmod_eq_emod_of_nonneg, Int.tdiv_eq_ediv_of_nonneg]
  rw [zeros25]
  refine Wp.loopM (fun y => 5 - y) (fun (y : Nat) => [none, none, some (w64 c), some (.ptr 0 0), some (.ptr 1 0), some (.ptr 2 0), some (.ptr 3 0), none, none, some (.ptr 4 0), none, none, none, none, none, none, none, none, none, none, some (.int .i64 y), none, none, none, none, none, none, none, none, none, none])
    (fun y => [.var 116 (a.map w64), .var 141 (r.map i64n), .var 116 (z25.map w64), .var 164 (s.map w64), .var 116 ((bP a s r (5 * y)).map w64)]) (fun y => y ≤ 5) ?_ 0 (by omega) (by simp) (by simp only [bP, Nat.mul_zero])
  intro y hy
  by_cases hy2 : y < 5
  · have hyI : (y : Int) < 5 := by omega
    simp (config := { maxSteps := 1000000 }) (disch := omega) [-List.map_replicate, -List.map_set, -List.getD_eq_getElem?_getD, -getElem?_pos, -getElem?_neg, wrap_i64, le_strLim, le_sliceLim, le_buildLim, le_sliceLimI, Int.tmod_eq_emod_of_nonneg, Int.tdiv_eq_ediv_of_nonneg, hyI]
    refine Wp.loopM (fun x => 5 - x) (fun (x : Nat) => [none, none, some (w64 c), some (.ptr 0 0), some (.ptr 1 0), some (.ptr 2 0), some (.ptr 3 0), none, none, some (.ptr 4 0), some (.int .i64 y), none, none, none, none, none, none, none, none, none, some (.int .i64 y), none, some (.int .i64 x), none, none, none, none, none, none, none, none])
      (fun x => [.var 116 (a.map w64), .var 141 (r.map i64n), .var 116 (z25.map w64), .var 164 (s.map w64), .var 116 ((bP a s r (5 * y + x)).map w64)]) (fun x => x ≤ 5) ?_ 0 (by omega) (by simp) (by simp)
    intro x hx
    by_cases hx2 : x < 5
    · have hxI : (x : Int) < 5 := by omega
      have j9 := hr2 (x + 5 * y)
      simp (config := { maxSteps := 1000000 }) (disch := omega) [-List.map_replicate, -List.map_set, -List.getD_eq_getElem?_getD, -getElem?_pos, -getElem?_neg, wrap_i64, le_strLim, le_sliceLim, le_buildLim, le_sliceLimI, Int.tmod_eq_emod_of_nonneg, Int.tdiv_eq_ediv_of_nonneg, hxI, ixs x y hx2 hy2, get_w64 (a := a) (i := x + 5 * y) (by omega), get_w64 (a := s) (i := (x + 4) % 5) (by omega), get_w64 (a := s) (i := (x + 1) % 5) (by omega), get_i64n (a := r) (i := x + 5 * y) (by omega), ansRotP1, ansRotPn, splice_w64 (a := bP a s r (5 * y + x)) (i := y + 5 * ((2 * x + 3 * y) % 5)) (by simp; omega)]
      refine ⟨x + 1, by omega, by omega, by omega, ?_⟩
      rw [← Nat.add_assoc, bP, show (5 * y + x) % 5 = x by omega, show (5 * y + x) / 5 = y by omega]
    obtain rfl : x = 5 := by omega
    simp (config := { maxSteps := 1000000 }) (disch := omega) [-List.map_replicate, -List.map_set, -List.getD_eq_getElem?_getD, -getElem?_pos, -getElem?_neg, wrap_i64, le_strLim, le_sliceLim, le_buildLim, le_sliceLimI, Int.tmod_eq_emod_of_nonneg, Int.tdiv_eq_ediv_of_nonneg]
    exact ⟨y + 1, by omega, by omega, by omega, by rw [show 5 * (y + 1) = 5 * y + 5 by omega]⟩
  obtain rfl : y = 5 := by omega
  clear hy hy2
  generalize hb : bP a s r 25 = b
  have hbl : b.length = 25 := by rw [← hb]; simp
  simp (config := { maxSteps := 1000000 }) (disch := omega) [-List.map_replicate, -List.map_set, -List.getD_eq_getElem?_getD, -getElem?_pos, -getElem?_neg, wrap_i64, le_strLim, le_sliceLim, le_buildLim, le_sliceLimI, Int.tmod_eq_emod_of_nonneg, Int.tdiv_eq_ediv_of_nonneg, hb]
  rw [zeros25]
  refine Wp.loopM (fun y => 5 - y) (fun (y : Nat) => [none, none, some (w64 c), none, none, some (.ptr 2 0), none, none, none, some (.ptr 4 0), none, none, none, none, some (.ptr 5 0), none, none, none, none, none, none, none, none, none, none, none, none, some (.int .i64 y), none, none, none])
    (fun y => [.var 116 (a.map w64), .var 141 (r.map i64n), .var 116 (z25.map w64), .var 164 (s.map w64), .var 116 (b.map w64), .var 116 ((oP b (5 * y)).map w64)]) (fun y => y ≤ 5) ?_ 0 (by omega) (by simp) (by simp only [oP, Nat.mul_zero])
  intro y hy
  by_cases hy2 : y < 5
  · have hyI : (y : Int) < 5 := by omega
    simp (config := { maxSteps := 1000000 }) (disch := omega) [-List.map_replicate, -List.map_set, -List.getD_eq_getElem?_getD, -getElem?_pos, -getElem?_neg, wrap_i64, le_strLim, le_sliceLim, le_buildLim, le_sliceLimI, Int.tmod_eq_emod_of_nonneg, Int.tdiv_eq_ediv_of_nonneg, hyI]
    refine Wp.loopM (fun x => 5 - x) (fun (x : Nat) => [none, none, some (w64 c), none, none, some (.ptr 2 0), none, none, none, some (.ptr 4 0), none, none, none, none, some (.ptr 5 0), some (.int .i64 y), none, none, none, none, none, none, none, none, none, none, none, some (.int .i64 y), none, some (.int .i64 x), none])
      (fun x => [.var 116 (a.map w64), .var 141 (r.map i64n), .var 116 (z25.map w64), .var 164 (s.map w64), .var 116 (b.map w64), .var 116 ((oP b (5 * y + x)).map w64)]) (fun x => x ≤ 5) ?_ 0 (by omega) (by simp) (by simp)
    intro x hx
    by_cases hx2 : x < 5
    · have hxI : (x : Int) < 5 := by omega
      simp (config := { maxSteps := 1000000 }) (disch := omega) [-List.map_replicate, -List.map_set, -List.getD_eq_getElem?_getD, -getElem?_pos, -getElem?_neg, wrap_i64, le_strLim, le_sliceLim, le_buildLim, le_sliceLimI, Int.tmod_eq_emod_of_nonneg, Int.tdiv_eq_ediv_of_nonneg, hxI, ixs x y hx2 hy2, ixo x y hx2 hy2, get_w64 (a := b) (i := x + 5 * y) (by omega), get_w64 (a := b) (i := (x + 1) % 5 + 5 * y) (by omega), get_w64 (a := b) (i := (x + 2) % 5 + 5 * y) (by omega), splice_w64 (a := oP b (5 * y + x)) (i := x + 5 * y) (by simp; omega)]
      refine ⟨x + 1, by omega, by omega, by omega, ?_⟩
      rw [← Nat.add_assoc, oP, show (5 * y + x) % 5 = x by omega, show (5 * y + x) / 5 = y by omega]
    obtain rfl : x = 5 := by omega
    simp (config := { maxSteps := 1000000 }) (disch := omega) [-List.map_replicate, -List.map_set, -List.getD_eq_getElem?_getD, -getElem?_pos, -getElem?_neg, wrap_i64, le_strLim, le_sliceLim, le_buildLim, le_sliceLimI, Int.tmod_eq_emod_of_nonneg, Int.tdiv_eq_ediv_of_nonneg]
    exact ⟨y + 1, by omega, by omega, by omega, by rw [show 5 * (y + 1) = 5 * y + 5 by omega]⟩
  obtain rfl : y = 5 := by omega
  generalize ho : oP b 25 = o
  have hol : o.length = 25 := by rw [← ho]; simp
  have hol2 : (o.set 0 (o.getD 0 0#64 ^^^ c)).length = 25 := by simp [hol]
  simp (config := { maxSteps := 1000000 }) (disch := omega) [-List.map_replicate, -List.map_set, -List.getD_eq_getElem?_getD, -getElem?_pos, -getElem?_neg, wrap_i64, le_strLim, le_sliceLim, le_buildLim, le_sliceLimI, Int.tmod_eq_emod_of_nonneg, Int.tdiv_eq_ediv_of_nonneg, ho, hol, get_w64 (a := o) (i := 0) (by omega), splice_w64 (a := o) (i := 0) (by omega), take_w64 hol2, splice_all (cs := z25.map w64) (v := (o.set 0 (o.getD 0 0#64 ^^^ c)).map w64) (by simp [hol]; rfl), z25_length]
  simp only [roundP, hs, hb, ho]

/-! ### The reference -/

/-- its second loop -/
def aR (a s : W) : Nat → W
  | 0 => a
  | n + 1 => (aR a s n).set n (((aR a s n).getD n 0#64 ^^^ s.getD ((n + 4) % 5) 0#64) ^^^ rot (s.getD ((n + 1) % 5) 0#64) 1)
/-- its third one -/
def bR (a : W) (r : List Nat) : Nat → W
  | 0 => z25
  | n + 1 => (bR a r n).set (n % 5 + 5 * ((2 * (n / 5) + 3 * (n % 5)) % 5)) (rot (a.getD (n / 5 + 5 * (n % 5)) 0#64) (r.getD (n / 5 + 5 * (n % 5)) 0))
/-- its fourth one -/
def oR (a b : W) : Nat → W
  | 0 => a
  | n + 1 => (oR a b n).set (n / 5 + 5 * (n % 5)) (b.getD (n / 5 + 5 * (n % 5)) 0#64 ^^^ (~~~ b.getD ((n / 5 + 1) % 5 + 5 * (n % 5)) 0#64 &&& b.getD ((n / 5 + 2) % 5 + 5 * (n % 5)) 0#64))
def roundR (a : W) (r : List Nat) (c : BitVec 64) : W :=
  let a2 := aR a (sumsN a 25) 25
  let o := oR a2 (bR a2 r 25) 25
  o.set 0 (o.getD 0 0#64 ^^^ c)
theorem aR_length (a s : W) (ha : a.length = 25) : ∀ n, (aR a s n).length = 25
  | 0 => ha
  | n + 1 => by simp [aR, aR_length a s ha n]
@[simp] theorem bR_length (a : W) (r : List Nat) : ∀ n, (bR a r n).length = 25
  | 0 => rfl
  | n + 1 => by simp [bR, bR_length a r n]
theorem oR_length (a b : W) (ha : a.length = 25) : ∀ n, (oR a b n).length = 25
  | 0 => ha
  | n + 1 => by simp [oR, oR_length a b ha n]

theorem ixr (i : Nat) (hi : i < 25) : (((i : Int) + 4) % 5).toNat = (i + 4) % 5 ∧ ((i : Int) + 4) % 5 < 5 ∧ 0 ≤ ((i : Int) + 4) % 5 ∧ (((i : Int) + 1) % 5).toNat = (i + 1) % 5 ∧ ((i : Int) + 1) % 5 < 5 ∧ 0 ≤ ((i : Int) + 1) % 5 ∧ i ≤ 24 := by
  refine ⟨by omega, by omega, by omega, by omega, by omega, by omega, by omega⟩

theorem ansRoundR (a : W) (ha : a.length = 25) (r : List Nat) (hr : r.length = 25) (hr2 : ∀ i, r.getD i 0 < 64) (c : BitVec 64) : ansF cfg 106 [.agg (a.map w64), w64 c, .agg (r.map i64n)] [] = some (.agg ((roundR a r c).map w64), []) := by
  refine ans_of_wp fn106 low106 ?_
  simp (config := { maxSteps := 1000000 }) (disch := omega) [-List.map_replicate, -List.map_set, -List.getD_eq_getElem?_getD, -getElem?_pos, -getElem?_neg, wrap_i64, le_strLim, le_sliceLim, le_buildLim, le_sliceLimI, Int.tmod_eq_emod_of_nonneg, Int.tdiv_eq_ediv_of_nonneg, ir106, ha, splice_all]
  rw [zeros25, zeros5]
  refine Wp.loopM (fun i => 25 - i) (fun (i : Nat) => [none, some (w64 c), none, some (.ptr 0 0), some (.ptr 1 0), some (.ptr 2 0), some (.ptr 3 0), some (.int .i64 i), none, none, none, none, none, none, none, none, none, none, none, none, none, none, none, none, none])
    (fun i => [.var 116 (a.map w64), .var 141 (r.map i64n), .var 116 (z25.map w64), .var 164 ((sumsN a i).map w64)]) (fun i => i ≤ 25) ?_ 0 (by omega) (by simp) (by simp only [sumsN])
  intro i hi
  by_cases h : i < 25
  · have hI : (i : Int) < 25 := by omega
    have h2I : (i : Int) % 5 < 5 := by omega
    have h5 : i % 5 ≤ 4 := by omega
    simp (config := { maxSteps := 1000000 }) (disch := omega) [-List.map_replicate, -List.map_set, -List.getD_eq_getElem?_getD, -getElem?_pos, -getElem?_neg, wrap_i64, le_strLim, le_sliceLim, le_buildLim, le_sliceLimI, Int.tmod_eq_emod_of_nonneg, Int.tdiv_eq_ediv_of_nonneg, hI, h2I, h5, get_w64 (a := sumsN a i) (i := i % 5) (by simp; omega), get_w64 (a := a) (i := i) (by omega), splice_w64 (a := sumsN a i) (i := i % 5) (by simp; omega)]
    exact ⟨i + 1, by omega, by omega, by omega, by rw [sumsN]⟩
  obtain rfl : i = 25 := by omega
  clear hi h
  generalize hs : sumsN a 25 = s
  have hsl : s.length = 5 := by rw [← hs]; simp
  simp (config := { maxSteps := 1000000 }) (disch := omega) [-List.map_replicate, -List.map_set, -List.getD_eq_getElem?_getD, -getElem?_pos, -getElem?_neg, wrap_i64, le_strLim, le_sliceLim, le_buildLim, le_sliceLimI, Int.tmod_eq_emod_of_nonneg, Int.tdiv_eq_ediv_of_nonneg]
  refine Wp.loopM (fun i => 25 - i) (fun (i : Nat) => [none, some (w64 c), none, some (.ptr 0 0), some (.ptr 1 0), some (.ptr 2 0), some (.ptr 3 0), none, some (.int .i64 i), none, none, none, none, none, none, none, none, none, none, none, none, none, none, none, none])
    (fun i => [.var 116 ((aR a s i).map w64), .var 141 (r.map i64n), .var 116 (z25.map w64), .var 164 (s.map w64)]) (fun i => i ≤ 25) ?_ 0 (by omega) (by simp) (by simp only [aR])
  intro i hi
  by_cases h : i < 25
  · have hI : (i : Int) < 25 := by omega
    have hl := aR_length a s ha i
    simp (config := { maxSteps := 1000000 }) (disch := omega) [-List.map_replicate, -List.map_set, -List.getD_eq_getElem?_getD, -getElem?_pos, -getElem?_neg, wrap_i64, le_strLim, le_sliceLim, le_buildLim, le_sliceLimI, Int.tmod_eq_emod_of_nonneg, Int.tdiv_eq_ediv_of_nonneg, hI, hl, ixr i h, get_w64 (a := aR a s i) (i := i) (by omega), get_w64 (a := s) (i := (i + 4) % 5) (by omega), get_w64 (a := s) (i := (i + 1) % 5) (by omega), ansRotR1, splice_w64 (a := aR a s i) (i := i) (by omega)]
    exact ⟨i + 1, by omega, by omega, by omega, by rw [aR]⟩
  obtain rfl : i = 25 := by omega
  clear hi h
  generalize ha2 : aR a s 25 = a2
  have ha2l : a2.length = 25 := by rw [← ha2]; exact aR_length a s ha 25
  simp (config := { maxSteps := 1000000 }) (disch := omega) [-List.map_replicate, -List.map_set, -List.getD_eq_getElem?_getD, -getElem?_pos, -getElem?_neg, wrap_i64, le_strLim, le_sliceLim, le_buildLim, le_sliceLimI, Int.tmod_eq_emod_of_nonneg, Int.tdiv_eq_ediv_of_nonneg]
  rw [zeros25]
  simp (config := { maxSteps := 1000000 }) (disch := omega) [-List.map_replicate, -List.map_set, -List.getD_eq_getElem?_getD, -getElem?_pos, -getElem?_neg, wrap_i64, le_strLim, le_sliceLim, le_buildLim, le_sliceLimI, Int.tmod_eq_emod_of_nonneg, Int.tdiv_eq_ediv_of_nonneg, splice_all, z25_length]
  refine Wp.loopM (fun y => 5 - y) (fun (y : Nat) => [none, some (w64 c), none, some (.ptr 0 0), some (.ptr 1 0), some (.ptr 2 0), none, none, none, some (.ptr 4 0), some (.int .i64 y), none, none, none, none, none, none, none, none, none, none, none, none, none, none])
    (fun y => [.var 116 (a2.map w64), .var 141 (r.map i64n), .var 116 (z25.map w64), .var 164 (s.map w64), .var 116 ((bR a2 r (5 * y)).map w64)]) (fun y => y ≤ 5) ?_ 0 (by omega) (by simp) (by simp only [bR, Nat.mul_zero])
  intro y hy
  by_cases hy2 : y < 5
  · have hyI : (y : Int) < 5 := by omega
    simp (config := { maxSteps := 1000000 }) (disch := omega) [-List.map_replicate, -List.map_set, -List.getD_eq_getElem?_getD, -getElem?_pos, -getElem?_neg, wrap_i64, le_strLim, le_sliceLim, le_buildLim, le_sliceLimI, Int.tmod_eq_emod_of_nonneg, Int.tdiv_eq_ediv_of_nonneg, hyI]
    refine Wp.loopM (fun x => 5 - x) (fun (x : Nat) => [none, some (w64 c), none, some (.ptr 0 0), some (.ptr 1 0), some (.ptr 2 0), none, none, none, some (.ptr 4 0), some (.int .i64 y), some (.int .i64 x), none, none, none, none, none, none, none, none, none, none, none, none, none])
      (fun x => [.var 116 (a2.map w64), .var 141 (r.map i64n), .var 116 (z25.map w64), .var 164 (s.map w64), .var 116 ((bR a2 r (5 * y + x)).map w64)]) (fun x => x ≤ 5) ?_ 0 (by omega) (by simp) (by simp)
    intro x hx
    by_cases hx2 : x < 5
    · have hxI : (x : Int) < 5 := by omega
      have j9 := hr2 (y + 5 * x)
      simp (config := { maxSteps := 1000000 }) (disch := omega) [-List.map_replicate, -List.map_set, -List.getD_eq_getElem?_getD, -getElem?_pos, -getElem?_neg, wrap_i64, le_strLim, le_sliceLim, le_buildLim, le_sliceLimI, Int.tmod_eq_emod_of_nonneg, Int.tdiv_eq_ediv_of_nonneg, hxI, ixs y x hy2 hx2, get_w64 (a := a2) (i := y + 5 * x) (by omega), get_i64n (a := r) (i := y + 5 * x) (by omega), ansRotRn, splice_w64 (a := bR a2 r (5 * y + x)) (i := x + 5 * ((2 * y + 3 * x) % 5)) (by simp; omega)]
      refine ⟨x + 1, by omega, by omega, by omega, ?_⟩
      rw [← Nat.add_assoc, bR, show (5 * y + x) % 5 = x by omega, show (5 * y + x) / 5 = y by omega]
    obtain rfl : x = 5 := by omega
    simp (config := { maxSteps := 1000000 }) (disch := omega) [-List.map_replicate, -List.map_set, -List.getD_eq_getElem?_getD, -getElem?_pos, -getElem?_neg, wrap_i64, le_strLim, le_sliceLim, le_buildLim, le_sliceLimI, Int.tmod_eq_emod_of_nonneg, Int.tdiv_eq_ediv_of_nonneg]
    exact ⟨y + 1, by omega, by omega, by omega, by rw [show 5 * (y + 1) = 5 * y + 5 by omega]⟩
  obtain rfl : y = 5 := by omega
  clear hy hy2
  generalize hb : bR a2 r 25 = b
  have hbl : b.length = 25 := by rw [← hb]; simp
  simp (config := { maxSteps := 1000000 }) (disch := omega) [-List.map_replicate, -List.map_set, -List.getD_eq_getElem?_getD, -getElem?_pos, -getElem?_neg, wrap_i64, le_strLim, le_sliceLim, le_buildLim, le_sliceLimI, Int.tmod_eq_emod_of_nonneg, Int.tdiv_eq_ediv_of_nonneg, hb]
  refine Wp.loopM (fun y => 5 - y) (fun (y : Nat) => [none, some (w64 c), none, some (.ptr 0 0), none, some (.ptr 2 0), none, none, none, some (.ptr 4 0), none, none, some (.int .i64 y), none, none, none, none, none, none, none, none, none, none, none, none])
    (fun y => [.var 116 ((oR a2 b (5 * y)).map w64), .var 141 (r.map i64n), .var 116 (z25.map w64), .var 164 (s.map w64), .var 116 (b.map w64)]) (fun y => y ≤ 5) ?_ 0 (by omega) (by simp) (by simp only [oR, Nat.mul_zero])
  intro y hy
  by_cases hy2 : y < 5
  · have hyI : (y : Int) < 5 := by omega
    simp (config := { maxSteps := 1000000 }) (disch := omega) [-List.map_replicate, -List.map_set, -List.getD_eq_getElem?_getD, -getElem?_pos, -getElem?_neg, wrap_i64, le_strLim, le_sliceLim, le_buildLim, le_sliceLimI, Int.tmod_eq_emod_of_nonneg, Int.tdiv_eq_ediv_of_nonneg, hyI]
    refine Wp.loopM (fun x => 5 - x) (fun (x : Nat) => [none, some (w64 c), none, some (.ptr 0 0), none, some (.ptr 2 0), none, none, none, some (.ptr 4 0), none, none, some (.int .i64 y), some (.int .i64 x), none, none, none, none, none, none, none, none, none, none, none])
      (fun x => [.var 116 ((oR a2 b (5 * y + x)).map w64), .var 141 (r.map i64n), .var 116 (z25.map w64), .var 164 (s.map w64), .var 116 (b.map w64)]) (fun x => x ≤ 5) ?_ 0 (by omega) (by simp) (by simp)
    intro x hx
    by_cases hx2 : x < 5
    · have hxI : (x : Int) < 5 := by omega
      have hl := oR_length a2 b ha2l (5 * y + x)
      simp (config := { maxSteps := 1000000 }) (disch := omega) [-List.map_replicate, -List.map_set, -List.getD_eq_getElem?_getD, -getElem?_pos, -getElem?_neg, wrap_i64, le_strLim, le_sliceLim, le_buildLim, le_sliceLimI, Int.tmod_eq_emod_of_nonneg, Int.tdiv_eq_ediv_of_nonneg, hxI, hl, ixs y x hy2 hx2, ixo y x hy2 hx2, get_w64 (a := b) (i := y + 5 * x) (by omega), get_w64 (a := b) (i := (y + 1) % 5 + 5 * x) (by omega), get_w64 (a := b) (i := (y + 2) % 5 + 5 * x) (by omega), splice_w64 (a := oR a2 b (5 * y + x)) (i := y + 5 * x) (by omega)]
      refine ⟨x + 1, by omega, by omega, by omega, ?_⟩
      rw [← Nat.add_assoc, oR, show (5 * y + x) % 5 = x by omega, show (5 * y + x) / 5 = y by omega]
    obtain rfl : x = 5 := by omega
    simp (config := { maxSteps := 1000000 }) (disch := omega) [-List.map_replicate, -List.map_set, -List.getD_eq_getElem?_getD, -getElem?_pos, -getElem?_neg, wrap_i64, le_strLim, le_sliceLim, le_buildLim, le_sliceLimI, Int.tmod_eq_emod_of_nonneg, Int.tdiv_eq_ediv_of_nonneg]
    exact ⟨y + 1, by omega, by omega, by omega, by rw [show 5 * (y + 1) = 5 * y + 5 by omega]⟩
  obtain rfl : y = 5 := by omega
  generalize ho : oR a2 b 25 = o
  have hol : o.length = 25 := by rw [← ho]; exact oR_length a2 b ha2l 25
  have hol2 : (o.set 0 (o.getD 0 0#64 ^^^ c)).length = 25 := by simp [hol]
  simp (config := { maxSteps := 1000000 }) (disch := omega) [-List.map_replicate, -List.map_set, -List.getD_eq_getElem?_getD, -getElem?_pos, -getElem?_neg, wrap_i64, le_strLim, le_sliceLim, le_buildLim, le_sliceLimI, Int.tmod_eq_emod_of_nonneg, Int.tdiv_eq_ediv_of_nonneg, ho, hol, get_w64 (a := o) (i := 0) (by omega), splice_w64 (a := o) (i := 0) (by omega), take_w64 hol2, splice_all (cs := z25.map w64) (v := (o.set 0 (o.getD 0 0#64 ^^^ c)).map w64) (by simp [hol]; rfl), z25_length]
  simp only [roundR, hs, hb, ho, ha2]
end Go.Proofs.YtfhfnehoaiegcaaGreatDoor

namespace Go.Proofs.YtfhfnehoaiegcaaGreatDoor
open Go.Am
set_option maxRecDepth 10000
set_option maxHeartbeats 4000000

def rots : List Nat := [0, 1, 62, 28, 27, 36, 44, 6, 55, 20, 3, 10, 43, 25, 39, 41, 45, 15, 21, 8, 18, 2, 61, 56, 14]
def rcs : W := [0x0000000000000001, 0x0000000000008082, 0x800000000000808a, 0x8000000080008000,
  0x000000000000808b, 0x0000000080000001, 0x8000000080008081, 0x8000000000008009,
  0x000000000000008a, 0x0000000000000088, 0x0000000080008009, 0x000000008000000a,
  0x000000008000808b, 0x800000000000008b, 0x8000000000008089, 0x8000000000008003,
  0x8000000000008002, 0x8000000000000080, 0x000000000000800a, 0x800000008000000a,
  0x8000000080008081, 0x8000000000008080, 0x0000000080000001, 0x8000000080008008]

theorem rots_av : rots.map i64n = [.int .i64 0, .int .i64 1, .int .i64 62, .int .i64 28, .int .i64 27, .int .i64 36, .int .i64 44, .int .i64 6, .int .i64 55, .int .i64 20, .int .i64 3, .int .i64 10, .int .i64 43, .int .i64 25, .int .i64 39, .int .i64 41, .int .i64 45, .int .i64 15, .int .i64 21, .int .i64 8, .int .i64 18, .int .i64 2, .int .i64 61, .int .i64 56, .int .i64 14] := rfl
theorem rcs_av : rcs.map w64 = [.int .u64 0x0000000000000001, .int .u64 0x0000000000008082, .int .u64 0x800000000000808a, .int .u64 0x8000000080008000,
  .int .u64 0x000000000000808b, .int .u64 0x0000000080000001, .int .u64 0x8000000080008081, .int .u64 0x8000000000008009,
  .int .u64 0x000000000000008a, .int .u64 0x0000000000000088, .int .u64 0x0000000080008009, .int .u64 0x000000008000000a,
  .int .u64 0x000000008000808b, .int .u64 0x800000000000008b, .int .u64 0x8000000000008089, .int .u64 0x8000000000008003,
  .int .u64 0x8000000000008002, .int .u64 0x8000000000000080, .int .u64 0x000000000000800a, .int .u64 0x800000008000000a,
  .int .u64 0x8000000080008081, .int .u64 0x8000000000008080, .int .u64 0x0000000080000001, .int .u64 0x8000000080008008] := by kernel_rfl

theorem ansRotsP : ansF cfg 119 [] [] = some (.agg (rots.map i64n), []) := by
  refine ans_of_wp fn119 low119 ?_
  rw [rots_av]
  simp (config := { maxSteps := 1000000 }) (disch := omega) [-List.map_replicate, -List.map_set, -List.getD_eq_getElem?_getD, -getElem?_pos, -getElem?_neg, wrap_i64, le_strLim, le_sliceLim, le_buildLim, le_sliceLimI, Int.tmod_eq_emod_of_nonneg, Int.tdiv_eq_ediv_of_nonneg, ir119, splice]
theorem ansRotsR : ansF cfg 105 [] [] = some (.agg (rots.map i64n), []) := by
  refine ans_of_wp fn105 low105 ?_
  rw [rots_av]
  simp (config := { maxSteps := 1000000 }) (disch := omega) [-List.map_replicate, -List.map_set, -List.getD_eq_getElem?_getD, -getElem?_pos, -getElem?_neg, wrap_i64, le_strLim, le_sliceLim, le_buildLim, le_sliceLimI, Int.tmod_eq_emod_of_nonneg, Int.tdiv_eq_ediv_of_nonneg, ir105, splice]
theorem ansRcsP : ansF cfg 120 [] [] = some (.agg (rcs.map w64), []) := by
  refine ans_of_wp fn120 low120 ?_
  rw [rcs_av]
  simp (config := { maxSteps := 1000000 }) (disch := omega) [-List.map_replicate, -List.map_set, -List.getD_eq_getElem?_getD, -getElem?_pos, -getElem?_neg, wrap_i64, le_strLim, le_sliceLim, le_buildLim, le_sliceLimI, Int.tmod_eq_emod_of_nonneg, Int.tdiv_eq_ediv_of_nonneg, ir120, splice]
theorem ansRcsR : ansF cfg 104 [] [] = some (.agg (rcs.map w64), []) := by
  refine ans_of_wp fn104 low104 ?_
  rw [rcs_av]
  simp (config := { maxSteps := 1000000 }) (disch := omega) [-List.map_replicate, -List.map_set, -List.getD_eq_getElem?_getD, -getElem?_pos, -getElem?_neg, wrap_i64, le_strLim, le_sliceLim, le_buildLim, le_sliceLimI, Int.tmod_eq_emod_of_nonneg, Int.tdiv_eq_ediv_of_nonneg, ir104, splice]

theorem rots_length : rots.length = 25 := rfl
theorem rcs_length : rcs.length = 24 := rfl
theorem rots_lt (i : Nat) : rots.getD i 0 < 64 := by
  have h : ∀ n ∈ rots, n < 64 := by decide
  rw [List.getD_eq_getElem?_getD]
  cases hi : rots[i]? with
  | none => simp
  | some x => simpa using h x (List.mem_of_getElem? hi)

/-- a permuted state -/
def permP (s : W) : Nat → W
  | 0 => s
  | n + 1 => roundP (permP s n) rots (rcs.getD n 0#64)
def permR (s : W) : Nat → W
  | 0 => s
  | n + 1 => roundR (permR s n) rots (rcs.getD n 0#64)
theorem roundP_length (a : W) (r : List Nat) (c : BitVec 64) : (roundP a r c).length = 25 := by simp [roundP]
theorem roundR_length (a : W) (ha : a.length = 25) (r : List Nat) (c : BitVec 64) : (roundR a r c).length = 25 := by
  simp only [roundR, List.length_set]
  exact oR_length _ _ (aR_length _ _ ha 25) 25
theorem permP_length (s : W) (hs : s.length = 25) : ∀ n, (permP s n).length = 25
  | 0 => hs
  | n + 1 => roundP_length _ _ _
theorem permR_length (s : W) (hs : s.length = 25) : ∀ n, (permR s n).length = 25
  | 0 => hs
  | n + 1 => roundR_length _ (permR_length s hs n) _ _

theorem ansPermP (s : W) (hs : s.length = 25) : ansF cfg 101 [.agg (s.map w64)] [] = some (.agg ((permP s 24).map w64), []) := by
  refine ans_of_wp fn101 low101 ?_
  simp (config := { maxSteps := 1000000 }) (disch := omega) [-List.map_replicate, -List.map_set, -List.getD_eq_getElem?_getD, -getElem?_pos, -getElem?_neg, wrap_i64, le_strLim, le_sliceLim, le_buildLim, le_sliceLimI, Int.tmod_eq_emod_of_nonneg, Int.tdiv_eq_ediv_of_nonneg, ir101, ansRotsP, ansRcsP, rots_length]
  rw [zeros25]
  refine Wp.loopM (fun i => 24 - i) (fun (i : Nat) => [none, some (.ptr 0 0), some (.ptr 1 0), some (.ptr 2 0), none, none, some (.agg (rcs.map w64)), some (.int .i64 i), none, none])
    (fun i => [.var 116 ((permP s i).map w64), .var 116 (z25.map w64), .var 141 (rots.map i64n)]) (fun i => i ≤ 24) ?_ 0 (by omega) (by simp) (by simp only [permP]; rfl)
  intro i hi
  by_cases h : i < 24
  · have hI : (i : Int) < 24 := by omega
    have hl := permP_length s hs i
    simp (config := { maxSteps := 1000000 }) (disch := omega) [-List.map_replicate, -List.map_set, -List.getD_eq_getElem?_getD, -getElem?_pos, -getElem?_neg, wrap_i64, le_strLim, le_sliceLim, le_buildLim, le_sliceLimI, Int.tmod_eq_emod_of_nonneg, Int.tdiv_eq_ediv_of_nonneg, hI, hl, get_w64 (a := rcs) (i := i) (by rw [rcs_length]; exact h), take_w64 hl, ansRoundP (permP s i) hl rots rots_length rots_lt, roundP_length, rots_length, take_eq (l := rots.map i64n) (n := 25) rfl, splice_all (cs := (permP s i).map w64) (v := (roundP (permP s i) rots (rcs.getD i 0#64)).map w64) (by simp [hl, roundP_length])]
    exact ⟨i + 1, by omega, by omega, by omega, rfl⟩
  obtain rfl : i = 24 := by omega
  have hl := permP_length s hs 24
  simp (config := { maxSteps := 1000000 }) (disch := omega) [-List.map_replicate, -List.map_set, -List.getD_eq_getElem?_getD, -getElem?_pos, -getElem?_neg, wrap_i64, le_strLim, le_sliceLim, le_buildLim, le_sliceLimI, Int.tmod_eq_emod_of_nonneg, Int.tdiv_eq_ediv_of_nonneg, hl, take_w64 hl, z25_length, splice_all (cs := z25.map w64) (v := (permP s 24).map w64) (by simp [hl]; rfl)]

theorem ansPermR (s : W) (hs : s.length = 25) : ansF cfg 87 [.agg (s.map w64)] [] = some (.agg ((permR s 24).map w64), []) := by
  refine ans_of_wp fn87 low87 ?_
  simp (config := { maxSteps := 1000000 }) (disch := omega) [-List.map_replicate, -List.map_set, -List.getD_eq_getElem?_getD, -getElem?_pos, -getElem?_neg, wrap_i64, le_strLim, le_sliceLim, le_buildLim, le_sliceLimI, Int.tmod_eq_emod_of_nonneg, Int.tdiv_eq_ediv_of_nonneg, ir87, ansRotsR, ansRcsR, rots_length, rcs_length]
  rw [zeros25]
  refine Wp.loopM (fun i => 24 - i) (fun (i : Nat) => [none, some (.ptr 0 0), some (.ptr 1 0), some (.ptr 2 0), some (.ptr 3 0), some (.int .i64 i), none, none, none, none])
    (fun i => [.var 116 ((permR s i).map w64), .var 116 (z25.map w64), .var 139 (rcs.map w64), .var 141 (rots.map i64n)]) (fun i => i ≤ 24) ?_ 0 (by omega) (by simp) (by simp only [permR]; rfl)
  intro i hi
  by_cases h : i < 24
  · have hI : (i : Int) < 24 := by omega
    have hl := permR_length s hs i
    simp (config := { maxSteps := 1000000 }) (disch := omega) [-List.map_replicate, -List.map_set, -List.getD_eq_getElem?_getD, -getElem?_pos, -getElem?_neg, wrap_i64, le_strLim, le_sliceLim, le_buildLim, le_sliceLimI, Int.tmod_eq_emod_of_nonneg, Int.tdiv_eq_ediv_of_nonneg, hI, hl, get_w64 (a := rcs) (i := i) (by rw [rcs_length]; exact h), take_w64 hl, ansRoundR (permR s i) hl rots rots_length rots_lt, roundR_length _ hl, rots_length, take_eq (l := rots.map i64n) (n := 25) rfl, splice_all (cs := (permR s i).map w64) (v := (roundR (permR s i) rots (rcs.getD i 0#64)).map w64) (by simp [hl, roundR_length _ hl])]
    exact ⟨i + 1, by omega, by omega, by omega, rfl⟩
  obtain rfl : i = 24 := by omega
  have hl := permR_length s hs 24
  simp (config := { maxSteps := 1000000 }) (disch := omega) [-List.map_replicate, -List.map_set, -List.getD_eq_getElem?_getD, -getElem?_pos, -getElem?_neg, wrap_i64, le_strLim, le_sliceLim, le_buildLim, le_sliceLimI, Int.tmod_eq_emod_of_nonneg, Int.tdiv_eq_ediv_of_nonneg, hl, take_w64 hl, z25_length, splice_all (cs := z25.map w64) (v := (permR s 24).map w64) (by simp [hl]; rfl)]

theorem round25 (a0 a1 a2 a3 a4 a5 a6 a7 a8 a9 a10 a11 a12 a13 a14 a15 a16 a17 a18 a19 a20 a21 a22 a23 a24 c : BitVec 64) : roundP [a0, a1, a2, a3, a4, a5, a6, a7, a8, a9, a10, a11, a12, a13, a14, a15, a16, a17, a18, a19, a20, a21, a22, a23, a24] rots c = roundR [a0, a1, a2, a3, a4, a5, a6, a7, a8, a9, a10, a11, a12, a13, a14, a15, a16, a17, a18, a19, a20, a21, a22, a23, a24] rots c := by kernel_rfl

theorem round_same (a : W) (ha : a.length = 25) (c : BitVec 64) : roundP a rots c = roundR a rots c := by
  match a, ha with
  | [a0, a1, a2, a3, a4, a5, a6, a7, a8, a9, a10, a11, a12, a13, a14, a15, a16, a17, a18, a19, a20, a21, a22, a23, a24], _ => exact round25 a0 a1 a2 a3 a4 a5 a6 a7 a8 a9 a10 a11 a12 a13 a14 a15 a16 a17 a18 a19 a20 a21 a22 a23 a24 c

theorem perm_same (s : W) (hs : s.length = 25) : ∀ n, permP s n = permR s n
  | 0 => rfl
  | n + 1 => by
    simp only [permP, permR]
    rw [perm_same s hs n, round_same _ (permR_length s hs n)]
end Go.Proofs.YtfhfnehoaiegcaaGreatDoor

namespace Go.Proofs.YtfhfnehoaiegcaaGreatDoor
open Go.Am
set_option maxRecDepth 10000
set_option maxHeartbeats 4000000

def wb (c : UInt8) : BitVec 64 := BitVec.ofNat 64 c.toNat

theorem toInt_byte (c : UInt8) : toInt1 .u64 (.int .u8 (c.toNat : Int)) = some (w64 (wb c)) := by
  have h := UInt8.toNat_lt c
  simp only [toInt1_int, w64, wb, BitVec.toNat_ofNat]
  rw [wrap_u64 (by omega) (by omega), Nat.mod_eq_of_lt (by omega)]

theorem shl8 (c : Cfg) (ty : TypeId) (x : BitVec 64) (i : Nat) : binA c ty .shl (w64 x) (.int .i64 (8 * ((i : Int) % 8))) = some (w64 (x <<< (8 * (i % 8)))) := by
  have h : 8 * ((i : Int) % 8) = ((8 * (i % 8) : Nat) : Int) := by omega
  rw [h]; exact w64_shl c ty x (by omega)
theorem shr8 (c : Cfg) (ty : TypeId) (x : BitVec 64) (i : Nat) : binA c ty .shr (w64 x) (.int .i64 (8 * ((i : Int) % 8))) = some (w64 (x >>> (8 * (i % 8)))) := by
  have h : 8 * ((i : Int) % 8) = ((8 * (i % 8) : Nat) : Int) := by omega
  rw [h]; exact w64_shr c ty x (by omega)

/-- a block taken into a state: its first n bytes -/
def absN (s : W) (d : Str) : Nat → W
  | 0 => s
  | n + 1 => (absN s d n).set (n / 8) ((absN s d n).getD (n / 8) 0#64 ^^^ (wb (d.getD n 0) <<< (8 * (n % 8))))
theorem absN_length (s : W) (d : Str) : ∀ n, (absN s d n).length = s.length
  | 0 => rfl
  | n + 1 => by simp [absN, absN_length s d n]

def blockP (s : W) (d : Str) : W := permP (absN s d d.length) 24

theorem ansBlock (s : W) (hs : s.length = 25) (d : Str) (hd : d.length ≤ 136) : ansF cfg 83 [.agg (s.map w64), .str d] [] = some (.agg ((blockP s d).map w64), []) := by
  refine ans_of_wp fn83 low83 ?_
  simp (config := { maxSteps := 1000000 }) (disch := omega) [-List.map_replicate, -List.map_set, -List.getD_eq_getElem?_getD, -getElem?_pos, -getElem?_neg, wrap_i64, le_strLim, le_sliceLim, le_buildLim, le_sliceLimI, Int.tmod_eq_emod_of_nonneg, Int.tdiv_eq_ediv_of_nonneg, ir83]
  rw [zeros25]
  refine Wp.loopM (fun i => d.length - i) (fun (i : Nat) => [none, some (.str d), some (.ptr 0 0), some (.ptr 1 0), none, some (.int .i64 d.length), some (.int .i64 i), none, none])
    (fun i => [.var 116 ((absN s d i).map w64), .var 116 (z25.map w64)]) (fun i => i ≤ d.length) ?_ 0 (by omega) (by simp) (by simp only [absN])
  intro i hi
  by_cases h : i < d.length
  · have hI : (i : Int) < (d.length : Int) := by omega
    have hl : (absN s d i).length = 25 := by rw [absN_length]; exact hs
    have h8 : (i : Int) / 8 < 25 := by omega
    have h9 : i / 8 ≤ 24 := by omega
    simp (config := { maxSteps := 1000000 }) (disch := omega) [-List.map_replicate, -List.map_set, -List.getD_eq_getElem?_getD, -getElem?_pos, -getElem?_neg, wrap_i64, le_strLim, le_sliceLim, le_buildLim, le_sliceLimI, Int.tmod_eq_emod_of_nonneg, Int.tdiv_eq_ediv_of_nonneg, hI, hl, h8, h9, h, get_str h, -toInt1_int, toInt_byte, shl8, get_w64 (a := absN s d i) (i := i / 8) (by omega), splice_w64 (a := absN s d i) (i := i / 8) (by omega)]
    exact ⟨i + 1, by omega, by omega, by omega, by rw [absN]⟩
  obtain rfl : i = d.length := by omega
  have hl : (absN s d d.length).length = 25 := by rw [absN_length]; exact hs
  have hp := permP_length _ hl 24
  simp (config := { maxSteps := 1000000 }) (disch := omega) [-List.map_replicate, -List.map_set, -List.getD_eq_getElem?_getD, -getElem?_pos, -getElem?_neg, wrap_i64, le_strLim, le_sliceLim, le_buildLim, le_sliceLimI, Int.tmod_eq_emod_of_nonneg, Int.tdiv_eq_ediv_of_nonneg, hl, hp, take_w64 hl, take_w64 hp, ansPermP _ hl, z25_length, splice_all (cs := z25.map w64) (v := (permP (absN s d d.length) 24).map w64) (by simp [hp]; rfl)]
  rfl

theorem blockP_length (s : W) (hs : s.length = 25) (d : Str) : (blockP s d).length = 25 := permP_length _ (by rw [absN_length]; exact hs) 24

/-! ### Write -/

/-- a hash -/
structure Hash where
  st : W
  rest : Str
  taken : Int
def Hash.av (h : Hash) : List AV := h.st.map w64 ++ [.str h.rest, .int .i64 h.taken]

/-- blocks taken in while there are any -/
def drain (s : W) (r : Str) : W × Str :=
  if h : 136 ≤ r.length then drain (blockP s (r.take 136)) (r.drop 136) else (s, r)
termination_by r.length
decreasing_by simp; omega

def Hash.write1 (h : Hash) (p : Str) : Hash :=
  let x := drain h.st (h.rest ++ p)
  ⟨x.1, x.2, h.taken + p.length⟩

section
variable (h : Hash) (hs : h.st.length = 25)
include hs
theorem av_length : h.av.length = 27 := by simp [Hash.av, hs]
theorem av_rest : h.av[25]? = some (.str h.rest) := by simp [Hash.av, List.getElem?_append, hs]
theorem av_taken : h.av[26]? = some (.int .i64 h.taken) := by simp [Hash.av, List.getElem?_append, hs]
theorem av_st : h.av.take 25 = h.st.map w64 := by simp [Hash.av, List.take_append, hs]
theorem av_set_rest (x : Str) : splice h.av 25 [.str x] = (⟨h.st, x, h.taken⟩ : Hash).av := by
  rw [splice_one (by rw [av_length h hs]; omega)]
  simp [Hash.av, List.set_append, hs]
theorem av_set_taken (x : Int) : splice h.av 26 [.int .i64 x] = (⟨h.st, h.rest, x⟩ : Hash).av := by
  rw [splice_one (by rw [av_length h hs]; omega)]
  simp [Hash.av, List.set_append, hs]
theorem av_set_st (x : W) (hx : x.length = 25) : splice h.av 0 (x.map w64) = (⟨x, h.rest, h.taken⟩ : Hash).av := by
  simp [splice, Hash.av, hx, hs]
end

theorem at_set (bs : List Box) (k : Nat) (x : Box) (hk : k < bs.length) : Box.at (bs.set k x) k = x := by
  simp [Box.at, List.getD_eq_getElem?_getD, hk]

theorem at_set_ne (bs : List Box) (k j : Nat) (x : Box) (h : j ≠ k) : Box.at (bs.set k x) j = Box.at bs j := by
  simp only [Box.at, List.getD_eq_getElem?_getD]
  rw [List.getElem?_set_ne (Ne.symm h)]

theorem drain_st (s : W) (hs : s.length = 25) (r : Str) : (drain s r).1.length = 25 := by
  rw [drain]
  split
  · exact drain_st _ (blockP_length s hs _) _
  · exact hs
termination_by r.length
decreasing_by simp; omega

theorem drain_step {s : W} {r : Str} (h : 136 ≤ r.length) : drain s r = drain (blockP s (r.take 136)) (r.drop 136) := by
  rw [drain, dif_pos h]
theorem drain_end {s : W} {r : Str} (h : ¬ 136 ≤ r.length) : drain s r = (s, r) := by
  rw [drain, dif_neg h]
theorem drain_rest (s : W) (r : Str) : (drain s r).2.length < 136 := by
  rw [drain]
  split
  · exact drain_rest _ _
  · rename_i h; simp only; omega
termination_by r.length
decreasing_by simp; omega

def Hash.writeN (h : Hash) (ps : List Str) : Nat → Hash
  | 0 => h
  | n + 1 => (h.writeN ps n).write1 (ps.getD n [])
theorem writeN_st (h : Hash) (hs : h.st.length = 25) (ps : List Str) : ∀ n, (h.writeN ps n).st.length = 25
  | 0 => hs
  | n + 1 => drain_st _ (writeN_st h hs ps n) _
theorem writeN_rest (h : Hash) (hr : h.rest.length < 136) (ps : List Str) : ∀ n, (h.writeN ps n).rest.length < 136
  | 0 => hr
  | _ + 1 => drain_rest _ _
/-- how many bytes the first strings have -/
def bytesN' (ps : List Str) : Nat → Nat
  | 0 => 0
  | n + 1 => bytesN' ps n + (ps.getD n []).length
theorem writeN_taken (h : Hash) (ps : List Str) : ∀ n, (h.writeN ps n).taken = h.taken + (bytesN' ps n : Nat)
  | 0 => by simp [Hash.writeN, bytesN']
  | n + 1 => by
    simp only [Hash.writeN, Hash.write1, bytesN', writeN_taken h ps n]
    push_cast
    omega

theorem ansWrite (bs : List Box) (k : Nat) (h : Hash) (hk : Box.at bs k = .var 118 h.av) (hs : h.st.length = 25) (hr : h.rest.length < 136) (ht : 0 ≤ h.taken) (nl : Option Bool) (ps : List Str) (hb : ∀ n, h.taken + (bytesN' ps n : Nat) < 1000000000) (hps : ps.length < 1000000000) :
    ansF cfg 63 [.ptr k 0, .lst nl 1 (ps.map .str)] bs = some (.int .i64 (h.writeN ps ps.length).taken, bs.set k (.var 118 (h.writeN ps ps.length).av)) := by
  have hkl : k < bs.length := at_lt (by rw [hk]; simp)
  refine ans_of_wp fn63 low63 ?_
  simp (config := { maxSteps := 1000000 }) (disch := omega) [-List.map_replicate, -List.map_set, -List.getD_eq_getElem?_getD, -getElem?_pos, -getElem?_neg, wrap_i64, le_strLim, le_sliceLim, le_buildLim, le_sliceLimI, Int.tmod_eq_emod_of_nonneg, Int.tdiv_eq_ediv_of_nonneg, ir63]
  refine Wp.loopM (fun i => ps.length - i) (fun (i : Nat) => [some (.ptr k 0), none, none, none, some (.lst nl 1 (ps.map .str)), some (.int .i64 ps.length), some (.int .i64 i), none, none, none])
    (fun i => bs.set k (.var 118 (h.writeN ps i).av)) (fun i => i ≤ ps.length) ?_ 0 (by omega) (by simp) (by
      simp only [Hash.writeN, ← hk]
      apply List.ext_getElem?
      intro j
      by_cases hj : k = j
      · subst hj; simp [hkl, Box.at, List.getD_eq_getElem?_getD]
      · rw [List.getElem?_set_ne hj])
  intro i hi
  by_cases h1 : i < ps.length
  · have hI : (i : Int) < (ps.length : Int) := by omega
    have hp : ps[i]? = some (ps.getD i []) := by simp [List.getD_eq_getElem?_getD, List.getElem?_eq_getElem h1]
    generalize hg : h.writeN ps i = g
    have gs : g.st.length = 25 := by rw [← hg]; exact writeN_st h hs ps i
    have gr : g.rest.length < 136 := by rw [← hg]; exact writeN_rest h hr ps i
    have gt : g.taken = h.taken + (bytesN' ps i : Nat) := by rw [← hg]; exact writeN_taken h ps i
    generalize hq : ps.getD i [] = p at hp
    have hb1 := hb i
    have hb2 := hb (i + 1)
    simp only [bytesN', hq] at hb2
    have hsl : g.rest.length + p.length ≤ strLim := by unfold strLim; omega
    simp (config := { maxSteps := 1000000 }) (disch := omega) [-List.map_replicate, -List.map_set, -List.getD_eq_getElem?_getD, -getElem?_pos, -getElem?_neg, wrap_i64, le_strLim, le_sliceLim, le_buildLim, le_sliceLimI, Int.tmod_eq_emod_of_nonneg, Int.tdiv_eq_ediv_of_nonneg, hI, hp, at_set, hkl, hsl, av_length, gs, av_taken, av_rest, av_set_taken, av_set_rest]
    refine Wp.loopM (fun (a : Hash) => a.rest.length) (fun _ => [some (.ptr k 0), none, none, none, some (.lst nl 1 (ps.map .str)), some (.int .i64 ps.length), some (.int .i64 i), none, none, none])
      (fun a => bs.set k (.var 118 a.av)) (fun a => a.st.length = 25 ∧ drain a.st a.rest = drain g.st (g.rest ++ p) ∧ a.taken = g.taken + p.length) ?_ ⟨g.st, g.rest ++ p, g.taken + p.length⟩ ⟨gs, rfl, rfl⟩ (by simp) (by rfl)
    rintro a ⟨al, ad, at2⟩
    by_cases h2 : 136 ≤ a.rest.length
    · have h2I : (136 : Int) ≤ (a.rest.length : Int) := by omega
      have hl2 := blockP_length a.st al (a.rest.take 136)
      simp (config := { maxSteps := 1000000 }) (disch := omega) [-List.map_replicate, -List.map_set, -List.getD_eq_getElem?_getD, -getElem?_pos, -getElem?_neg, wrap_i64, le_strLim, le_sliceLim, le_buildLim, le_sliceLimI, Int.tmod_eq_emod_of_nonneg, Int.tdiv_eq_ediv_of_nonneg, h2I, at_set, hkl, al, av_length, av_rest, av_st, h2, ansBlock a.st al (a.rest.take 136) (by simp; omega), hl2, av_set_st, av_set_rest]
      have hd2 : drain (blockP a.st (a.rest.take 136)) (a.rest.drop 136) = drain g.st (g.rest ++ p) := (drain_step (s := a.st) h2).symm.trans ad
      have hd3 : (a.rest.drop 136).length < a.rest.length := by simp; omega
      generalize blockP a.st (a.rest.take 136) = N at hl2 hd2 ⊢
      generalize a.rest.drop 136 = R at hd2 hd3 ⊢
      exact ⟨⟨N, R, a.taken⟩, ⟨hl2, hd2, at2⟩, hd3, rfl⟩
    · have h2I : ¬ (136 : Int) ≤ (a.rest.length : Int) := by omega
      simp (config := { maxSteps := 1000000 }) (disch := omega) [-List.map_replicate, -List.map_set, -List.getD_eq_getElem?_getD, -getElem?_pos, -getElem?_neg, wrap_i64, le_strLim, le_sliceLim, le_buildLim, le_sliceLimI, Int.tmod_eq_emod_of_nonneg, Int.tdiv_eq_ediv_of_nonneg, h2I, at_set, hkl, al, av_rest]
      refine ⟨i + 1, by omega, by omega, by omega, ?_⟩
      rw [drain_end h2] at ad
      simp only [Hash.writeN, Hash.write1, hg, hq, ← ad, ← at2]
  obtain rfl : i = ps.length := by omega
  have gs := writeN_st h hs ps ps.length
  simp (config := { maxSteps := 1000000 }) (disch := omega) [-List.map_replicate, -List.map_set, -List.getD_eq_getElem?_getD, -getElem?_pos, -getElem?_neg, wrap_i64, le_strLim, le_sliceLim, le_buildLim, le_sliceLimI, Int.tmod_eq_emod_of_nonneg, Int.tdiv_eq_ediv_of_nonneg, at_set, hkl, av_taken, gs]

theorem ansWriteO (bs : List Box) (k : Nat) (h : Hash) (hk : Box.at bs k = .var 118 h.av) (hs : h.st.length = 25) (hr : h.rest.length < 136) (ht : 0 ≤ h.taken) (j : Nat) (hjk : j ≠ k) (sh : Hd) (ps : List Str) (hj : Box.at bs j = .sl sh 1 (ps.map .str)) (hb : ∀ n, h.taken + (bytesN' ps n : Nat) < 1000000000) (hps : ps.length < 1000000000) :
    ansF cfg 63 [.ptr k 0, .osl j ps.length] bs = some (.int .i64 (h.writeN ps ps.length).taken, bs.set k (.var 118 (h.writeN ps ps.length).av)) := by
  have hkl : k < bs.length := at_lt (by rw [hk]; simp)
  refine ans_of_wp fn63 low63 ?_
  simp (config := { maxSteps := 1000000 }) (disch := omega) [-List.map_replicate, -List.map_set, -List.getD_eq_getElem?_getD, -getElem?_pos, -getElem?_neg, wrap_i64, le_strLim, le_sliceLim, le_buildLim, le_sliceLimI, Int.tmod_eq_emod_of_nonneg, Int.tdiv_eq_ediv_of_nonneg, ir63, hj]
  refine Wp.loopM (fun i => ps.length - i) (fun (i : Nat) => [some (.ptr k 0), none, none, none, some (.osl j ps.length), some (.int .i64 ps.length), some (.int .i64 i), none, none, none])
    (fun i => bs.set k (.var 118 (h.writeN ps i).av)) (fun i => i ≤ ps.length) ?_ 0 (by omega) (by simp) (by
      simp only [Hash.writeN, ← hk]
      apply List.ext_getElem?
      intro j
      by_cases hj : k = j
      · subst hj; simp [hkl, Box.at, List.getD_eq_getElem?_getD]
      · rw [List.getElem?_set_ne hj])
  intro i hi
  by_cases h1 : i < ps.length
  · have hI : (i : Int) < (ps.length : Int) := by omega
    have hp : ps[i]? = some (ps.getD i []) := by simp [List.getD_eq_getElem?_getD, List.getElem?_eq_getElem h1]
    generalize hg : h.writeN ps i = g
    have gs : g.st.length = 25 := by rw [← hg]; exact writeN_st h hs ps i
    have gr : g.rest.length < 136 := by rw [← hg]; exact writeN_rest h hr ps i
    have gt : g.taken = h.taken + (bytesN' ps i : Nat) := by rw [← hg]; exact writeN_taken h ps i
    generalize hq : ps.getD i [] = p at hp
    have hb1 := hb i
    have hb2 := hb (i + 1)
    simp only [bytesN', hq] at hb2
    have hsl : g.rest.length + p.length ≤ strLim := by unfold strLim; omega
    simp (config := { maxSteps := 1000000 }) (disch := omega) [-List.map_replicate, -List.map_set, -List.getD_eq_getElem?_getD, -getElem?_pos, -getElem?_neg, wrap_i64, le_strLim, le_sliceLim, le_buildLim, le_sliceLimI, Int.tmod_eq_emod_of_nonneg, Int.tdiv_eq_ediv_of_nonneg, hI, hp, at_set, at_set_ne, hjk, hj, hkl, hsl, av_length, gs, av_taken, av_rest, av_set_taken, av_set_rest]
    refine Wp.loopM (fun (a : Hash) => a.rest.length) (fun _ => [some (.ptr k 0), none, none, none, some (.osl j ps.length), some (.int .i64 ps.length), some (.int .i64 i), none, none, none])
      (fun a => bs.set k (.var 118 a.av)) (fun a => a.st.length = 25 ∧ drain a.st a.rest = drain g.st (g.rest ++ p) ∧ a.taken = g.taken + p.length) ?_ ⟨g.st, g.rest ++ p, g.taken + p.length⟩ ⟨gs, rfl, rfl⟩ (by simp) (by rfl)
    rintro a ⟨al, ad, at2⟩
    by_cases h2 : 136 ≤ a.rest.length
    · have h2I : (136 : Int) ≤ (a.rest.length : Int) := by omega
      have hl2 := blockP_length a.st al (a.rest.take 136)
      simp (config := { maxSteps := 1000000 }) (disch := omega) [-List.map_replicate, -List.map_set, -List.getD_eq_getElem?_getD, -getElem?_pos, -getElem?_neg, wrap_i64, le_strLim, le_sliceLim, le_buildLim, le_sliceLimI, Int.tmod_eq_emod_of_nonneg, Int.tdiv_eq_ediv_of_nonneg, h2I, at_set, at_set_ne, hjk, hj, hkl, al, av_length, av_rest, av_st, h2, ansBlock a.st al (a.rest.take 136) (by simp; omega), hl2, av_set_st, av_set_rest]
      have hd2 : drain (blockP a.st (a.rest.take 136)) (a.rest.drop 136) = drain g.st (g.rest ++ p) := (drain_step (s := a.st) h2).symm.trans ad
      have hd3 : (a.rest.drop 136).length < a.rest.length := by simp; omega
      generalize blockP a.st (a.rest.take 136) = N at hl2 hd2 ⊢
      generalize a.rest.drop 136 = R at hd2 hd3 ⊢
      exact ⟨⟨N, R, a.taken⟩, ⟨hl2, hd2, at2⟩, hd3, rfl⟩
    · have h2I : ¬ (136 : Int) ≤ (a.rest.length : Int) := by omega
      simp (config := { maxSteps := 1000000 }) (disch := omega) [-List.map_replicate, -List.map_set, -List.getD_eq_getElem?_getD, -getElem?_pos, -getElem?_neg, wrap_i64, le_strLim, le_sliceLim, le_buildLim, le_sliceLimI, Int.tmod_eq_emod_of_nonneg, Int.tdiv_eq_ediv_of_nonneg, h2I, at_set, at_set_ne, hjk, hj, hkl, al, av_rest]
      refine ⟨i + 1, by omega, by omega, by omega, ?_⟩
      rw [drain_end h2] at ad
      simp only [Hash.writeN, Hash.write1, hg, hq, ← ad, ← at2]
  obtain rfl : i = ps.length := by omega
  have gs := writeN_st h hs ps ps.length
  simp (config := { maxSteps := 1000000 }) (disch := omega) [-List.map_replicate, -List.map_set, -List.getD_eq_getElem?_getD, -getElem?_pos, -getElem?_neg, wrap_i64, le_strLim, le_sliceLim, le_buildLim, le_sliceLimI, Int.tmod_eq_emod_of_nonneg, Int.tdiv_eq_ediv_of_nonneg, at_set, at_set_ne, hjk, hj, hkl, av_taken, gs]

/-! ### Sum -/

/-- the first n bytes of a state -/
def outN (s : W) : Nat → Str
  | 0 => []
  | n + 1 => outN s n ++ [UInt8.ofNat ((s.getD (n / 8) 0#64 >>> (8 * (n % 8))).toNat % 256)]

theorem toInt_w64 (x : BitVec 64) : toInt1 .u8 (w64 x) = some (ofByte (UInt8.ofNat (x.toNat % 256))) := by
  simp only [w64, toInt1_int, ofByte, UInt8.toNat_ofNat']
  have h : IntKind.u8.wrap (x.toNat : Int) = ((x.toNat % 256 : Nat) : Int) := by
    simp only [IntKind.wrap, IntKind.bits, IntKind.signed, Bool.false_and]
    rw [if_neg (by simp)]
    omega
  rw [h]
  simp

def Hash.lastB (h : Hash) : Str := h.rest ++ 6 :: List.replicate (135 - h.rest.length) 0
def Hash.lastB2 (h : Hash) : Str := h.lastB.set 135 (h.lastB.getD 135 0 ||| 128)
def Hash.sum (h : Hash) : Str := outN (blockP h.st h.lastB2) 32

theorem repeat_zero : ∀ n, Lib.repeatL [0] n = List.replicate n (0 : UInt8)
  | 0 => rfl
  | n + 1 => by
    rw [Lib.repeatL, repeat_zero n]
    rfl
theorem lastB_length (h : Hash) (hr : h.rest.length < 136) : h.lastB.length = 136 := by simp [Hash.lastB]; omega

theorem ansSumM (bs : List Box) (hsh : shut bs.length bs = true) (k : Nat) (h : Hash) (hk : Box.at bs k = .var 118 h.av) (hs : h.st.length = 25) (hr : h.rest.length < 136) :
    ansF cfg 64 [.ptr k 0] bs = some (.str h.sum, bs) := by
  have hkl : k < bs.length := at_lt (by rw [hk]; simp)
  have hrep : repeatG [.str [0], .int .i64 (135 - (h.rest.length : Int))] = some (.str (List.replicate (135 - h.rest.length) 0)) := by
    have e1 : (135 - (h.rest.length : Int)).toNat = 135 - h.rest.length := by omega
    simp only [repeatG, e1, repeat_zero]
    rw [if_pos]
    refine ⟨by omega, by omega, ?_⟩
    simp; omega
  have hfold : h.rest ++ 6 :: List.replicate (135 - h.rest.length) 0 = h.lastB := rfl
  have hL := lastB_length h hr
  generalize h.lastB = L at *
  refine ans_of_wp fn64 low64 ?_
  have hor : ∀ ty (x : UInt8), binA cfg ty .or (ofByte x) (.int .u8 128) = some (ofByte (x ||| 128)) := fun ty x => ofByte_or cfg ty x 128 (by omega)
  have hg := get_str (d := L) (i := 135) (by omega)
  generalize hM : L.set 135 (L.getD 135 0 ||| 128) = M
  have hMl : M.length = 136 := by rw [← hM]; simp [hL]
  have hLne : L ≠ [] := by intro e; rw [e] at hL; simp at hL
  simp (config := { maxSteps := 1000000 }) (disch := omega) [-List.map_replicate, -List.map_set, -List.getD_eq_getElem?_getD, -getElem?_pos, -getElem?_neg, wrap_i64, le_strLim, le_sliceLim, le_buildLim, le_sliceLimI, Int.tmod_eq_emod_of_nonneg, Int.tdiv_eq_ediv_of_nonneg, ir64, hLne, at_app_l, hkl, hk, hrep, hfold, hL, hg, hor, set_ofByte, hM, hMl, av_length h hs, av_rest h hs, av_st h hs, Cfg.descOf, Nat.add_assoc, Nat.add_sub_cancel_left, ansBlock h.st hs M (by omega), blockP_length h.st hs M]
  rw [zeros25]
  generalize hS : blockP h.st M = X
  have hX : X.length = 25 := by rw [← hS]; exact blockP_length h.st hs M
  rw [splice_all (by simp [hX]; rfl)]
  refine Wp.loopM (fun i => 32 - i) (fun (i : Nat) => [none, none, none, some (.ptr (bs.length + 2) 0), some (.osl (bs.length + 3) i), none, none, none, none, none, some (.int .i64 i), none, none, none])
    (fun i => bs ++ [.sl ⟨false, some 5⟩ 1 (M.map ofByte), .dead, .var 116 (X.map w64), .sl ⟨false, some 5⟩ 1 ((outN X i).map ofByte)]) (fun i => i ≤ 32) ?_ 0 (by omega) (by simp) (by simp [outN])
  intro i hi
  have hol : ∀ n, (outN X n).length = n := by
    intro n
    induction n with
    | zero => rfl
    | succ n ih => simp [outN, ih]
  by_cases h1 : i < 32
  · have hI : (i : Int) < 32 := by omega
    have h8 : (i : Int) / 8 < 25 := by omega
    simp (config := { maxSteps := 1000000 }) (disch := omega) [-List.map_replicate, -List.map_set, -List.getD_eq_getElem?_getD, -getElem?_pos, -getElem?_neg, wrap_i64, le_strLim, le_sliceLim, le_buildLim, le_sliceLimI, Int.tmod_eq_emod_of_nonneg, Int.tdiv_eq_ediv_of_nonneg, hI, h8, at_app_l, Nat.add_assoc, Nat.add_sub_cancel_left, get_w64 (a := X) (i := i / 8) (by omega), shr8, -toInt1_int, toInt_w64, hol, shut_map (n := bs.length + 4) (by omega) hsh]
    refine ⟨i + 1, by omega, by omega, ⟨rfl, by omega⟩, ?_⟩
    rw [List.take_length_add_append]
    simp [outN]
  obtain rfl : i = 32 := by omega
  simp (config := { maxSteps := 1000000 }) (disch := omega) [-List.map_replicate, -List.map_set, -List.getD_eq_getElem?_getD, -getElem?_pos, -getElem?_neg, wrap_i64, le_strLim, le_sliceLim, le_buildLim, le_sliceLimI, Int.tmod_eq_emod_of_nonneg, Int.tdiv_eq_ediv_of_nonneg, at_app_l, Nat.add_assoc, Nat.add_sub_cancel_left, hol, shut_map (n := bs.length) (by omega) hsh, Cfg.descOf]
  refine ⟨by simp only [Hash.sum, Hash.lastB2, Hash.lastB, hfold, hM, hS], ?_⟩
  rw [show decide (bs.length + 5 ≤ bs.length) = false by simp]

/-! ### The digest of a string -/

def hash0 : Hash := ⟨z25, [], 0⟩
def sumP (d : Str) : Str := (hash0.write1 d).sum
theorem hash0_av : hash0.av = z25.map w64 ++ [.str [], .int .i64 0] := rfl

theorem ansNew (bs : List Box) : ansF cfg 62 [] bs = some (.ptr bs.length 0, bs ++ [.var 118 hash0.av]) := by
  refine ans_of_wp fn62 low62 ?_
  simp (config := { maxSteps := 1000000 }) (disch := omega) [-List.map_replicate, -List.map_set, -List.getD_eq_getElem?_getD, -getElem?_pos, -getElem?_neg, wrap_i64, le_strLim, le_sliceLim, le_buildLim, le_sliceLimI, Int.tmod_eq_emod_of_nonneg, Int.tdiv_eq_ediv_of_nonneg, ir62]
  rfl

theorem writeN_one (h : Hash) (d : Str) : h.writeN [d] 1 = h.write1 d := rfl

theorem ansSumP (d : Str) (hd : d.length ≤ 1000000) : ansF cfg 30 [.str d] [] = some (.str (sumP d), []) := by
  refine ans_of_wp fn30 low30 ?_
  have hst : hash0.st.length = 25 := rfl
  have hw := fun bs k hk j hjk sh hj => ansWriteO bs k hash0 hk hst (by decide) (by decide) j hjk sh [d] hj (fun n => by
    match n with
    | 0 => simp [bytesN', hash0]
    | n + 1 =>
      have : ∀ m, bytesN' [d] m ≤ d.length := fun m => by
        match m with
        | 0 => simp [bytesN']
        | m + 1 =>
          induction m with
          | zero => simp [bytesN']
          | succ m ih => simpa [bytesN'] using ih
      have := this (n + 1)
      simp only [hash0]
      omega) (by simp)
  have hs1 : (hash0.writeN [d] 1).st.length = 25 := writeN_st hash0 hst [d] 1
  have hr1 : (hash0.writeN [d] 1).rest.length < 136 := writeN_rest hash0 (by decide) [d] 1
  have hu : ∀ h : Hash, ∀ n, underAll n h.av = true := fun h n => by
    simp only [Hash.av]
    have : ∀ l m : List AV, underAll n (l ++ m) = (underAll n l && underAll n m) := by
      intro l m
      induction l with
      | nil => simp
      | cons a l ih => simp [ih, Bool.and_assoc]
    rw [this]; simp
  have hw1 := hw [.var 118 hash0.av, .sl ⟨false, some 9⟩ 1 [.str d]] 0 rfl 1 (by omega) ⟨false, some 9⟩ rfl
  have hs2 := ansSumM [.var 118 (hash0.writeN [d] 1).av, .sl ⟨false, some 9⟩ 1 [.str d]] (by simp [shut, hu]) 0 (hash0.writeN [d] 1) rfl hs1 hr1
  simp only [List.length_singleton, List.set_cons_zero] at hw1
  simp (config := { maxSteps := 1000000 }) (disch := omega) [-List.map_replicate, -List.map_set, -List.getD_eq_getElem?_getD, -getElem?_pos, -getElem?_neg, wrap_i64, le_strLim, le_sliceLim, le_buildLim, le_sliceLimI, Int.tmod_eq_emod_of_nonneg, Int.tdiv_eq_ediv_of_nonneg, ir30, ansNew, hw1, hs2]
  rfl
end Go.Proofs.YtfhfnehoaiegcaaGreatDoor

namespace Go.Proofs.YtfhfnehoaiegcaaGreatDoor
open Go.Am
set_option maxRecDepth 10000
set_option maxHeartbeats 4000000

def padN (d : Str) (m : Nat) : Str := d ++ 6 :: List.replicate m 0
def need (d : Str) : Nat := (136 - (d.length + 1) % 136) % 136
theorem padN_length (d : Str) (m : Nat) : (padN d m).length = d.length + 1 + m := by simp [padN]; omega
theorem padN_succ (d : Str) (m : Nat) : padN d m ++ [0] = padN d (m + 1) := by
  simp [padN, List.replicate_succ']
def padded (d : Str) : Str := (padN d (need d)).set ((padN d (need d)).length - 1) ((padN d (need d)).getD ((padN d (need d)).length - 1) 0 ||| 128)
/-- the first n blocks taken in -/
def absB (b : Str) : Nat → W
  | 0 => z25
  | n + 1 => permR (absN (absB b n) ((b.drop (136 * n)).take 136) 136) 24
def sumR (d : Str) : Str := outN (absB (padded d) ((padded d).length / 136)) 32

theorem window (b : Str) (q i : Nat) (h : i < 136) : ((b.drop q).take 136).getD i 0 = b.getD (q + i) 0 := by
  simp only [List.getD_eq_getElem?_getD, List.getElem?_take, h, if_true, List.getElem?_drop]

theorem ansSumR (d : Str) (hne : d ≠ []) (hd : d.length ≤ 1000000) : ansF cfg 67 [.str d] [] = some (.str (sumR d), []) := by
  refine ans_of_wp fn67 low67 ?_
  have h6 : AV.int .u8 6 = ofByte 6 := rfl
  have h0 : AV.int .u8 0 = ofByte 0 := rfl
  simp (config := { maxSteps := 1000000 }) (disch := omega) [-List.map_replicate, -List.map_set, -List.getD_eq_getElem?_getD, -getElem?_pos, -getElem?_neg, wrap_i64, le_strLim, le_sliceLim, le_buildLim, le_sliceLimI, Int.tmod_eq_emod_of_nonneg, Int.tdiv_eq_ediv_of_nonneg, ir67, Cfg.descOf, h6, hne]
  refine Wp.loopM (fun m => need d - m) (fun (m : Nat) => [none, none, some (.osl 0 (padN d m).length), none, none, none, none, none, none, none, none, none, none, none, none, none, none, none, none, none, none, none])
    (fun m => [.sl ⟨false, some 5⟩ 1 ((padN d m).map ofByte), .sl ⟨false, some 5⟩ 1 [ofByte 6], .dead]) (fun m => m ≤ need d) ?_ 0 (by omega) (by simp [padN]) (by simp [padN])
  intro m hm
  have hl := padN_length d m
  have hneed : need d < 136 := by unfold need; omega
  generalize hp : padN d m = p at *
  by_cases h1 : p.length % 136 = 0
  · have hme : m = need d := by rw [hl] at h1; unfold need at hm ⊢; omega
    have h1I : (p.length : Int) % 136 = 0 := by omega
    have hpos : 0 < p.length := by omega
    have hA : (1 : Int) ≤ (p.length : Int) := by omega
    have hB : (p.length : Int) - 1 < (p.length : Int) := by omega
    have hC : p.length - 1 < p.length := by omega
    have e1 : ((p.length : Int) - 1).toNat = p.length - 1 := by omega
    have hor : ∀ ty (x : UInt8), binA cfg ty .or (ofByte x) (.int .u8 128) = some (ofByte (x ||| 128)) := fun ty x => ofByte_or cfg ty x 128 (by omega)
    have hg := get_str (d := p) (i := p.length - 1) (by omega)
    have hP : p.set (p.length - 1) (p.getD (p.length - 1) 0 ||| 128) = padded d := by
      rw [← hp, hme]; rfl
    have hPl : (padded d).length = p.length := by rw [← hP]; simp
    generalize hbd : padded d = b at *
    simp (config := { maxSteps := 1000000 }) (disch := omega) [-List.map_replicate, -List.map_set, -List.getD_eq_getElem?_getD, -getElem?_pos, -getElem?_neg, wrap_i64, le_strLim, le_sliceLim, le_buildLim, le_sliceLimI, Int.tmod_eq_emod_of_nonneg, Int.tdiv_eq_ediv_of_nonneg, h1I, hpos, hA, hB, hC, e1, hor, hg, set_ofByte, hP, hPl, splice_all, Cfg.descOf]
    rw [zeros25]
    obtain ⟨K, hK⟩ : ∃ K, p.length = 136 * K := ⟨p.length / 136, by omega⟩
    have hsum : sumR d = outN (absB b K) 32 := by rw [sumR, hbd, hPl, hK, Nat.mul_div_cancel_left K (by omega)]
    have hbl : ∀ q, (absB b q).length = 25 := by
      intro q
      induction q with
      | zero => rfl
      | succ q ih => exact permR_length _ (by rw [absN_length]; exact ih) 24
    refine Wp.loopM (fun q => K - q) (fun (q : Nat) => [none, none, some (.osl 0 p.length), some (.ptr 3 0), some (.int .i64 (136 * (q : Int))), none, none, none, none, none, none, none, none, none, none, none, none, none, none, none, none, none])
      (fun q => [.sl ⟨false, some 5⟩ 1 (b.map ofByte), .sl ⟨false, some 5⟩ 1 [ofByte 6], .dead, .var 116 ((absB b q).map w64)]) (fun q => q ≤ K) ?_ 0 (by omega) (by simp) (by simp [absB])
    intro q hq
    by_cases h2 : q < K
    · have h2I : 136 * (q : Int) < (p.length : Int) := by omega
      simp (config := { maxSteps := 1000000 }) (disch := omega) [-List.map_replicate, -List.map_set, -List.getD_eq_getElem?_getD, -getElem?_pos, -getElem?_neg, wrap_i64, le_strLim, le_sliceLim, le_buildLim, le_sliceLimI, Int.tmod_eq_emod_of_nonneg, Int.tdiv_eq_ediv_of_nonneg, h2I, hPl]
      refine Wp.loopM (fun i => 136 - i) (fun (i : Nat) => [none, none, some (.osl 0 p.length), some (.ptr 3 0), some (.int .i64 (136 * (q : Int))), some (.int .i64 i), none, none, none, none, none, none, none, none, none, none, none, none, none, none, none, none])
        (fun i => [.sl ⟨false, some 5⟩ 1 (b.map ofByte), .sl ⟨false, some 5⟩ 1 [ofByte 6], .dead, .var 116 ((absN (absB b q) ((b.drop (136 * q)).take 136) i).map w64)]) (fun i => i ≤ 136) ?_ 0 (by omega) (by simp) (by simp only [absN])
      intro i hi
      have hl2 : (absN (absB b q) ((b.drop (136 * q)).take 136) i).length = 25 := by rw [absN_length]; exact hbl q
      by_cases h3 : i < 136
      · have h3I : (i : Int) < 136 := by omega
        have h8 : (i : Int) / 8 < 25 := by omega
        have h9 : i / 8 ≤ 24 := by omega
        have e2 : (136 * (q : Int) + (i : Int)).toNat = 136 * q + i := by omega
        have e3 : 136 * (q : Int) + (i : Int) < (p.length : Int) := by omega
        have e4 : 0 ≤ 136 * (q : Int) + (i : Int) := by omega
        have hg2 := get_str (d := b) (i := 136 * q + i) (by omega)
        have htb : ∀ c : UInt8, toInt1 .u64 (ofByte c) = some (w64 (wb c)) := toInt_byte
        simp (config := { maxSteps := 1000000 }) (disch := omega) [-List.map_replicate, -List.map_set, -List.getD_eq_getElem?_getD, -getElem?_pos, -getElem?_neg, wrap_i64, le_strLim, le_sliceLim, le_buildLim, le_sliceLimI, Int.tmod_eq_emod_of_nonneg, Int.tdiv_eq_ediv_of_nonneg, h3I, hPl, hl2, h8, h9, e2, e3, e4, hg2, -toInt1_int, htb, shl8, get_w64 (a := absN (absB b q) ((b.drop (136 * q)).take 136) i) (i := i / 8) (by omega), splice_w64 (a := absN (absB b q) ((b.drop (136 * q)).take 136) i) (i := i / 8) (by omega)]
        exact ⟨i + 1, by omega, by omega, by omega, by rw [absN, window b (136 * q) i h3]⟩
      obtain rfl : i = 136 := by omega
      have hp2 := permR_length _ hl2 24
      simp (config := { maxSteps := 1000000 }) (disch := omega) [-List.map_replicate, -List.map_set, -List.getD_eq_getElem?_getD, -getElem?_pos, -getElem?_neg, wrap_i64, le_strLim, le_sliceLim, le_buildLim, le_sliceLimI, Int.tmod_eq_emod_of_nonneg, Int.tdiv_eq_ediv_of_nonneg, hl2, hp2, take_w64 hl2, take_w64 hp2, ansPermR _ hl2, splice_all (cs := (absN (absB b q) ((b.drop (136 * q)).take 136) 136).map w64) (v := (permR (absN (absB b q) ((b.drop (136 * q)).take 136) 136) 24).map w64) (by simp [hl2, hp2])]
      exact ⟨q + 1, by omega, by omega, by omega, by rw [absB]⟩
    obtain rfl : q = K := by omega
    have h2I : ¬ 136 * (q : Int) < (p.length : Int) := by omega
    simp (config := { maxSteps := 1000000 }) (disch := omega) [-List.map_replicate, -List.map_set, -List.getD_eq_getElem?_getD, -getElem?_pos, -getElem?_neg, wrap_i64, le_strLim, le_sliceLim, le_buildLim, le_sliceLimI, Int.tmod_eq_emod_of_nonneg, Int.tdiv_eq_ediv_of_nonneg, h2I, hPl]
    rw [hsum]
    have hX := hbl q
    generalize absB b q = X at hX ⊢
    have hol : ∀ n, (outN X n).length = n := by
      intro n
      induction n with
      | zero => rfl
      | succ n ih => simp [outN, ih]
    refine Wp.loopM (fun i => 32 - i) (fun (i : Nat) => if i = 0 then [none, none, none, some (.ptr 3 0), none, none, some (.cap0 (some false)), some (.int .i64 0), none, none, none, none, none, none, none, none, none, none, none, none, none, none] else [none, none, none, some (.ptr 3 0), none, none, some (.osl 7 i), some (.int .i64 i), none, none, none, none, none, none, none, none, none, none, none, none, none, none])
      (fun i => if i = 0 then [.sl ⟨false, some 5⟩ 1 (b.map ofByte), .sl ⟨false, some 5⟩ 1 [ofByte 6], .dead, .var 116 (X.map w64), .dead]
        else [.sl ⟨false, some 5⟩ 1 (b.map ofByte), .sl ⟨false, some 5⟩ 1 [ofByte 6], .dead, .var 116 (X.map w64), .dead, .dead, .sl ⟨false, some 5⟩ 1 ((outN X 1).map ofByte), .sl ⟨false, some 5⟩ 1 ((outN X i).map ofByte)]) (fun i => i ≤ 32) ?_ 0 (by omega) (by simp) (by simp [outN])
    intro i hi
    by_cases hz : i = 0
    · subst hz
      simp only [if_true]
      have hshr : ∀ ty x, binA cfg ty .shr (w64 x) (.int .i64 0) = some (w64 (x >>> 0)) := fun ty x => shr8 cfg ty x 0
      simp (config := { maxSteps := 1000000 }) (disch := omega) [-List.map_replicate, -List.map_set, -List.getD_eq_getElem?_getD, -getElem?_pos, -getElem?_neg, wrap_i64, le_strLim, le_sliceLim, le_buildLim, le_sliceLimI, Int.tmod_eq_emod_of_nonneg, Int.tdiv_eq_ediv_of_nonneg, get_w64 (a := X) (i := 0) (by omega), hshr, -toInt1_int, toInt_w64, hol]
      refine ⟨1, by omega, by omega, by simp, ?_⟩
      simp [outN]
    simp only [if_neg hz]
    by_cases h1 : i < 32
    · have hI : (i : Int) < 32 := by omega
      have h8 : (i : Int) / 8 < 25 := by omega
      simp (config := { maxSteps := 1000000 }) (disch := omega) [-List.map_replicate, -List.map_set, -List.getD_eq_getElem?_getD, -getElem?_pos, -getElem?_neg, wrap_i64, le_strLim, le_sliceLim, le_buildLim, le_sliceLimI, Int.tmod_eq_emod_of_nonneg, Int.tdiv_eq_ediv_of_nonneg, hI, h8, get_w64 (a := X) (i := i / 8) (by omega), shr8, -toInt1_int, toInt_w64, hol]
      refine ⟨i + 1, by omega, by omega, ?_⟩
      simp [outN]
    obtain rfl : i = 32 := by omega
    simp (config := { maxSteps := 1000000 }) (disch := omega) [-List.map_replicate, -List.map_set, -List.getD_eq_getElem?_getD, -getElem?_pos, -getElem?_neg, wrap_i64, le_strLim, le_sliceLim, le_buildLim, le_sliceLimI, Int.tmod_eq_emod_of_nonneg, Int.tdiv_eq_ediv_of_nonneg, hol, Cfg.descOf]
  · have h1I : ¬ ((p.length : Int) % 136 = 0) := by omega
    have hne : m ≠ need d := by
      intro h
      apply h1
      rw [hl, h]
      unfold need
      omega
    simp (config := { maxSteps := 1000000 }) (disch := omega) [-List.map_replicate, -List.map_set, -List.getD_eq_getElem?_getD, -getElem?_pos, -getElem?_neg, wrap_i64, le_strLim, le_sliceLim, le_buildLim, le_sliceLimI, Int.tmod_eq_emod_of_nonneg, Int.tdiv_eq_ediv_of_nonneg, h1I, Cfg.descOf, h1]
    exact ⟨m + 1, by omega, by omega, by rw [padN_length]; omega, by rw [← padN_succ, hp]; simp; rfl⟩
end Go.Proofs.YtfhfnehoaiegcaaGreatDoor

namespace Go.Proofs.YtfhfnehoaiegcaaGreatDoor
open Go.Am
set_option maxRecDepth 10000

/-- blocks taken in, one after the other -/
def foldB (f : W → Str → W) (s : W) (b : Str) : Nat → W
  | 0 => s
  | n + 1 => foldB f (f s (b.take 136)) (b.drop 136) n

theorem foldB_succ (f : W → Str → W) : ∀ (n : Nat) (s : W) (b : Str), foldB f s b (n + 1) = f (foldB f s b n) ((b.drop (136 * n)).take 136)
  | 0, s, b => by simp [foldB]
  | n + 1, s, b => by
    rw [foldB, foldB_succ f n]
    simp only [foldB, List.drop_drop]
    rw [show 136 + 136 * n = 136 * (n + 1) by omega]

theorem foldB_length (f : W → Str → W) (hf : ∀ s x, s.length = 25 → (f s x).length = 25) : ∀ (n : Nat) (s : W) (_ : s.length = 25) (b : Str), (foldB f s b n).length = 25
  | 0, s, hs, b => hs
  | n + 1, s, hs, b => foldB_length f hf n _ (hf _ _ hs) _

theorem drain_fold (f : W → Str → W) (hf : ∀ s x, s.length = 25 → (f s x).length = 25) (hb : ∀ s x, s.length = 25 → x.length = 136 → blockP s x = f s x) (n : Nat) : ∀ (s : W) (_ : s.length = 25) (r : Str), r.length / 136 = n → drain s r = (foldB f s r n, r.drop (136 * n)) := by
  induction n with
  | zero => intro s hs r h; rw [drain_end (by omega)]; simp [foldB]
  | succ n ih =>
    intro s hs r h
    have h136 : 136 ≤ r.length := by omega
    have hl : (r.take 136).length = 136 := by simp; omega
    rw [drain_step h136, hb s _ hs hl, ih _ (hf _ _ hs) _ (by simp; omega), foldB, List.drop_drop]
    rw [show 136 + 136 * n = 136 * (n + 1) by omega]

def stepR (s : W) (x : Str) : W := permR (absN s x 136) 24

theorem stepR_length (s : W) (x : Str) (hs : s.length = 25) : (stepR s x).length = 25 := permR_length _ (by rw [absN_length]; exact hs) 24

theorem blockP_R (s : W) (x : Str) (hs : s.length = 25) (hd : x.length = 136) : blockP s x = stepR s x := by
  unfold blockP stepR
  rw [hd, perm_same _ (by rw [absN_length]; exact hs)]

theorem absB_F (b : Str) : ∀ n, absB b n = foldB stepR z25 b n
  | 0 => by simp only [absB, foldB]
  | n + 1 => by
    rw [foldB_succ, ← absB_F b n]
    unfold stepR
    rw [absB]

/-- only the bytes that are asked for matter -/
theorem foldB_congr (f : W → Str → W) : ∀ (n : Nat) (s : W) (a b : Str), a.take (136 * n) = b.take (136 * n) → foldB f s a n = foldB f s b n
  | 0, _, _, _, _ => rfl
  | n + 1, s, a, b, h => by
    have h1 : a.take 136 = b.take 136 := by
      have := congrArg (List.take 136) h
      simpa [List.take_take, show min 136 (136 * (n + 1)) = 136 by omega] using this
    have h2 : (a.drop 136).take (136 * n) = (b.drop 136).take (136 * n) := by
      have := congrArg (List.drop 136) h
      simpa [List.drop_take, show 136 * (n + 1) - 136 = 136 * n by omega] using this
    rw [foldB, foldB, h1, foldB_congr f n _ _ _ h2]

theorem sum_same (d : Str) : sumP d = sumR d := by
  have hq : ∃ q t, d.length = 136 * q + t ∧ t < 136 := ⟨d.length / 136, d.length % 136, by omega, by omega⟩
  obtain ⟨q, t, hd, ht⟩ := hq
  have hz : z25.length = 25 := rfl
  have hneed : need d = 135 - t := by unfold need; omega
  have hpl : (padN d (need d)).length = 136 * (q + 1) := by rw [padN_length, hneed]; omega
  have hpd : (padded d).length = 136 * (q + 1) := by rw [padded, List.length_set, hpl]
  unfold sumP sumR Hash.sum
  rw [hpd, Nat.mul_div_cancel_left _ (by omega), absB_F]
  have hdr := drain_fold stepR stepR_length blockP_R q z25 hz d (by omega)
  have hF := foldB_length stepR stepR_length q z25 hz d
  generalize hFe : foldB stepR z25 d q = F at *
  have hw : hash0.write1 d = ⟨F, d.drop (136 * q), (0 : Int) + d.length⟩ := by
    simp only [Hash.write1, hash0, List.nil_append, hdr]
  rw [hw]
  rw [foldB_succ]
  have hpre : (padded d).take (136 * q) = d.take (136 * q) := by
    rw [padded, hpl, List.take_set_of_le (by omega)]
    simp only [padN]
    rw [List.take_append_of_le_length (by omega)]
  rw [foldB_congr stepR q z25 (padded d) d hpre, hFe]
  have hlast : (padded d).drop (136 * q) = (Hash.lastB2 ⟨F, d.drop (136 * q), (0 : Int) + d.length⟩) := by
    have e1 : (padN d (need d)).drop (136 * q) = d.drop (136 * q) ++ 6 :: List.replicate (135 - t) 0 := by
      rw [padN, hneed, List.drop_append_of_le_length (by omega)]
    have e2 : (d.drop (136 * q)).length = t := by simp; omega
    simp only [Hash.lastB2, Hash.lastB, e2, ← e1]
    rw [padded, hpl, List.drop_set, if_neg (by omega)]
    rw [show 136 * (q + 1) - 1 - 136 * q = 135 by omega]
    congr 2
    simp only [List.getD_eq_getElem?_getD, List.getElem?_drop]
    rw [show 136 * q + 135 = 136 * (q + 1) - 1 by omega]
  have hll : (Hash.lastB2 ⟨F, d.drop (136 * q), (0 : Int) + d.length⟩).length = 136 := by
    rw [← hlast]; simp; omega
  rw [hlast, List.take_of_length_le (by omega), blockP_R _ _ hF hll]
end Go.Proofs.YtfhfnehoaiegcaaGreatDoor

namespace Go.Proofs.YtfhfnehoaiegcaaGreatDoor
open Go.Am
set_option maxRecDepth 10000
set_option maxHeartbeats 4000000

abbrev BStr := List UInt8
/-- a Builder in box k, its bytes in box j -/
structure Bld (bs : List Box) (k j : Nat) (a : AV) (s : BStr) : Prop where
  hk : Box.at bs k = .var 69 [a, .osl j s.length]
  hj : Box.at bs j = .sl ⟨false, some 5⟩ 1 (s.map ofByte)
  ne : j ≠ k
  ha : a = .nilp ∨ a = .ptr k 0
  kl : k < bs.length
  jl : j < bs.length
  sh : shut bs.length bs = true
theorem shut_set {n : Nat} : ∀ {bs : List Box} (k : Nat) {x : Box}, shut n bs = true → shut n [x] = true → shut n (bs.set k x) = true
  | [], _, _, _, _ => rfl
  | b :: r, 0, x, h, hx => by
    cases x <;> cases b <;> simp_all [shut]
  | b :: r, k + 1, x, h, hx => by
    have := fun (h : shut n r = true) => shut_set (bs := r) k h hx
    cases b <;> simp_all [shut]
/-- the boxes behind a write -/
def bldSet (bs : List Box) (k j : Nat) (s : BStr) : List Box := (bs.set k (.var 69 [.ptr k 0, .osl j s.length])).set j (.sl ⟨false, some 5⟩ 1 (s.map ofByte))
theorem bldSet_length (bs : List Box) (k j : Nat) (s : BStr) : (bldSet bs k j s).length = bs.length := by simp [bldSet]
theorem bldSet_bld {bs : List Box} {k j : Nat} {a : AV} {s : BStr} (h : Bld bs k j a s) (t : BStr) : Bld (bldSet bs k j t) k j (.ptr k 0) t := by
  obtain ⟨hk, hj, ne, ha, kl, jl, sh⟩ := h
  refine ⟨?_, ?_, ne, .inr rfl, by simpa [bldSet] using kl, by simpa [bldSet] using jl, ?_⟩
  case refine_3 =>
    rw [bldSet_length]
    exact shut_set _ (shut_set _ sh (by simp [shut, underAll, AV.under, kl, jl])) rfl
  · unfold bldSet
    rw [Go.Am.at_set _ _ _ (by simpa using jl), if_neg ne, Go.Am.at_set _ _ _ kl, if_pos rfl]
  · unfold bldSet
    rw [Go.Am.at_set _ _ _ (by simpa using jl), if_pos rfl]
theorem bldSet_at {bs : List Box} {k j : Nat} {s : BStr} (kl : k < bs.length) (jl : j < bs.length) {i : Nat} (h1 : i ≠ k) (h2 : i ≠ j) : Box.at (bldSet bs k j s) i = Box.at bs i := by
  unfold bldSet
  rw [Go.Am.at_set _ _ _ (by simpa using jl), if_neg (Ne.symm h2), Go.Am.at_set _ _ _ kl, if_neg (Ne.symm h1)]

theorem ansCopyCheck {bs : List Box} {k j : Nat} {a : AV} {s : BStr} (h : Bld bs k j a s) : ansF cfg 71 [.ptr k 0] bs = some (.tup [], bs.set k (.var 69 [.ptr k 0, .osl j s.length])) := by
  obtain ⟨hk, hj, ne, ha, kl, jl, sh⟩ := h
  refine ans_of_wp fn71 low71 ?_
  have a1 : ∀ l, Box.at (bs ++ l) k = .var 69 [a, .osl j s.length] := fun l => by rw [at_app_l _ _ kl, hk]
  have s1 : ∀ l b, (bs ++ l).set k b = bs.set k b ++ l := fun l b => List.set_append_left _ _ kl
  have m1 := shut_map (Nat.le_refl bs.length) (shut_set k sh (x := .var 69 [.ptr k 0, .osl j s.length]) (by simp [shut, underAll, AV.under, kl, jl]))
  rcases ha with rfl | rfl
  · simp (config := { maxSteps := 1000000 }) (disch := omega) [-List.map_replicate, -List.map_set, -List.getD_eq_getElem?_getD, -getElem?_pos, -getElem?_neg, wrap_i64, le_strLim, le_sliceLim, le_buildLim, le_sliceLimI, Int.tmod_eq_emod_of_nonneg, Int.tdiv_eq_ediv_of_nonneg, omLe, omLeN, omLt, omLtN, omEq, omEqN, onLe, onLeN, onLt, onLtN, onEq, onEqN, ir71, sameG, splice, Cfg.descOf, hk, a1, s1, m1]
    exact List.take_left' (by simp)
  · have e : bs.set k (.var 69 [.ptr k 0, .osl j s.length]) = bs := by
      rw [← hk]
      apply List.ext_getElem?
      intro i
      by_cases hi : i = k
      · subst hi; simp [Box.at, kl, List.getD_eq_getElem?_getD]
      · rw [List.getElem?_set_ne (Ne.symm hi)]
    simp (config := { maxSteps := 1000000 }) (disch := omega) [-List.map_replicate, -List.map_set, -List.getD_eq_getElem?_getD, -getElem?_pos, -getElem?_neg, wrap_i64, le_strLim, le_sliceLim, le_buildLim, le_sliceLimI, Int.tmod_eq_emod_of_nonneg, Int.tdiv_eq_ediv_of_nonneg, omLe, omLeN, omLt, omLtN, omEq, omEqN, onLe, onLeN, onLt, onLtN, onEq, onEqN, ir71, Cfg.descOf, hk, e]

theorem ansWriteStr {bs : List Box} {k j : Nat} {a : AV} {s : BStr} (h : Bld bs k j a s) (x : BStr) (hl : s.length < 100000000) (hx : x.length < 1000000) :
    ansF cfg 41 [.ptr k 0, .str x] bs = some (.tup [.int .i64 x.length, .ifc false], bldSet bs k j (s ++ x)) := by
  have hc := ansCopyCheck h
  obtain ⟨hk, hj, ne, ha, kl, jl, sh⟩ := h
  refine ans_of_wp fn41 low41 ?_
  have e1 : Box.at (bs.set k (.var 69 [.ptr k 0, .osl j s.length])) k = .var 69 [.ptr k 0, .osl j s.length] := by rw [Go.Am.at_set _ _ _ kl, if_pos rfl]
  have e2 : Box.at (bs.set k (.var 69 [.ptr k 0, .osl j s.length])) j = .sl ⟨false, some 5⟩ 1 (s.map ofByte) := by rw [Go.Am.at_set _ _ _ kl, if_neg (Ne.symm ne), hj]
  have shc := shut_set k sh (x := .var 69 [.ptr k 0, .osl j s.length]) (by simp [shut, underAll, AV.under, kl, jl])
  have m2 := shut_map (Nat.le_refl bs.length) (shut_set j shc (x := .sl ⟨false, some 5⟩ 1 ((s ++ x).map ofByte)) rfl)
  have hCl : (bs.set k (.var 69 [.ptr k 0, .osl j s.length])).length = bs.length := by simp
  have hfin : bldSet bs k j (s ++ x) = ((bs.set k (.var 69 [.ptr k 0, .osl j s.length])).set j (.sl ⟨false, some 5⟩ 1 ((s ++ x).map ofByte))).set k (.var 69 [.ptr k 0, .osl j (s ++ x).length]) := by
    unfold bldSet
    rw [List.set_comm _ _ ne, List.set_set]
  rw [hfin]
  generalize bs.set k (.var 69 [.ptr k 0, .osl j s.length]) = C at *
  have a1 : ∀ l, Box.at (C ++ l) k = .var 69 [.ptr k 0, .osl j s.length] := fun l => by rw [at_app_l _ _ (by omega), e1]
  have a2 : ∀ l, Box.at (C ++ l) j = .sl ⟨false, some 5⟩ 1 (s.map ofByte) := fun l => by rw [at_app_l _ _ (by omega), e2]
  have s2 : ∀ l b, (C ++ l).set j b = C.set j b ++ l := fun l b => List.set_append_left _ _ (by omega)
  have e3 : Box.at (C.set j (.sl ⟨false, some 5⟩ 1 (s.map ofByte ++ x.map ofByte))) k = .var 69 [.ptr k 0, .osl j s.length] := by rw [Go.Am.at_set _ _ _ (by omega), if_neg ne, e1]
  have m3 := shut_map (Nat.le_refl bs.length) (shut_set k (shut_set j shc (x := .sl ⟨false, some 5⟩ 1 (s.map ofByte ++ x.map ofByte)) rfl) (x := .var 69 [.ptr k 0, .osl j (s.length + x.length)]) (by simp [shut, underAll, AV.under, kl, jl]))
  have hDl : (C.set j (.sl ⟨false, some 5⟩ 1 (s.map ofByte ++ x.map ofByte))).length = bs.length := by simp [hCl]
  generalize hD : C.set j (.sl ⟨false, some 5⟩ 1 (s.map ofByte ++ x.map ofByte)) = D at *
  have b1 : ∀ l, Box.at (D ++ l) k = .var 69 [.ptr k 0, .osl j s.length] := fun l => by rw [at_app_l _ _ (by omega), e3]
  have t2 : ∀ l b, (D ++ l).set k b = D.set k b ++ l := fun l b => List.set_append_left _ _ (by omega)
  simp (config := { maxSteps := 1000000 }) (disch := omega) [-List.map_replicate, -List.map_set, -List.getD_eq_getElem?_getD, -getElem?_pos, -getElem?_neg, wrap_i64, le_strLim, le_sliceLim, le_buildLim, le_sliceLimI, Int.tmod_eq_emod_of_nonneg, Int.tdiv_eq_ediv_of_nonneg, omLe, omLeN, omLt, omLtN, omEq, omEqN, onLe, onLeN, onLt, onLtN, onEq, onEqN, ir41, hc, splice, a1, a2, s2, hCl, hD, b1, t2, m3, hDl]
  try exact List.take_left' (by simp [hDl])
theorem ansLenB {bs : List Box} {k j : Nat} {a : AV} {s : BStr} (h : Bld bs k j a s) : ansF cfg 44 [.ptr k 0] bs = some (.int .i64 s.length, bs) := by
  obtain ⟨hk, hj, ne, ha, kl, jl, sh⟩ := h
  refine ans_of_wp fn44 low44 ?_
  simp (config := { maxSteps := 1000000 }) (disch := omega) [-List.map_replicate, -List.map_set, -List.getD_eq_getElem?_getD, -getElem?_pos, -getElem?_neg, wrap_i64, le_strLim, le_sliceLim, le_buildLim, le_sliceLimI, Int.tmod_eq_emod_of_nonneg, Int.tdiv_eq_ediv_of_nonneg, omLe, omLeN, omLt, omLtN, omEq, omEqN, onLe, onLeN, onLt, onLtN, onEq, onEqN, ir44, hk, hj]
theorem ansWriteL {bs : List Box} {k j : Nat} {a : AV} {s : BStr} (h : Bld bs k j a s) (nl : Option Bool) (z : Nat) (x : BStr) (hz : x ≠ [] → z = 1) (hl : s.length < 100000000) (hx : x.length < 1000000) :
    ansF cfg 54 [.ptr k 0, .lst nl z (x.map ofByte)] bs = some (.tup [.int .i64 x.length, .ifc false], bldSet bs k j (s ++ x)) := by
  have hc := ansCopyCheck h
  have hzx : z = 1 ∨ x = [] := by
    by_cases h0 : x = []
    · exact .inr h0
    · exact .inl (hz h0)
  obtain ⟨hk, hj, ne, ha, kl, jl, sh⟩ := h
  refine ans_of_wp fn54 low54 ?_
  have e1 : Box.at (bs.set k (.var 69 [.ptr k 0, .osl j s.length])) k = .var 69 [.ptr k 0, .osl j s.length] := by rw [Go.Am.at_set _ _ _ kl, if_pos rfl]
  have e2 : Box.at (bs.set k (.var 69 [.ptr k 0, .osl j s.length])) j = .sl ⟨false, some 5⟩ 1 (s.map ofByte) := by rw [Go.Am.at_set _ _ _ kl, if_neg (Ne.symm ne), hj]
  have shc := shut_set k sh (x := .var 69 [.ptr k 0, .osl j s.length]) (by simp [shut, underAll, AV.under, kl, jl])
  have m2 := shut_map (Nat.le_refl bs.length) (shut_set j shc (x := .sl ⟨false, some 5⟩ 1 ((s ++ x).map ofByte)) rfl)
  have hCl : (bs.set k (.var 69 [.ptr k 0, .osl j s.length])).length = bs.length := by simp
  have hfin : bldSet bs k j (s ++ x) = ((bs.set k (.var 69 [.ptr k 0, .osl j s.length])).set j (.sl ⟨false, some 5⟩ 1 ((s ++ x).map ofByte))).set k (.var 69 [.ptr k 0, .osl j (s ++ x).length]) := by
    unfold bldSet
    rw [List.set_comm _ _ ne, List.set_set]
  rw [hfin]
  generalize bs.set k (.var 69 [.ptr k 0, .osl j s.length]) = C at *
  have a1 : ∀ l, Box.at (C ++ l) k = .var 69 [.ptr k 0, .osl j s.length] := fun l => by rw [at_app_l _ _ (by omega), e1]
  have a2 : ∀ l, Box.at (C ++ l) j = .sl ⟨false, some 5⟩ 1 (s.map ofByte) := fun l => by rw [at_app_l _ _ (by omega), e2]
  have s2 : ∀ l b, (C ++ l).set j b = C.set j b ++ l := fun l b => List.set_append_left _ _ (by omega)
  have e3 : Box.at (C.set j (.sl ⟨false, some 5⟩ 1 (s.map ofByte ++ x.map ofByte))) k = .var 69 [.ptr k 0, .osl j s.length] := by rw [Go.Am.at_set _ _ _ (by omega), if_neg ne, e1]
  have m3 := shut_map (Nat.le_refl bs.length) (shut_set k (shut_set j shc (x := .sl ⟨false, some 5⟩ 1 (s.map ofByte ++ x.map ofByte)) rfl) (x := .var 69 [.ptr k 0, .osl j (s.length + x.length)]) (by simp [shut, underAll, AV.under, kl, jl]))
  have hDl : (C.set j (.sl ⟨false, some 5⟩ 1 (s.map ofByte ++ x.map ofByte))).length = bs.length := by simp [hCl]
  generalize hD : C.set j (.sl ⟨false, some 5⟩ 1 (s.map ofByte ++ x.map ofByte)) = D at *
  have b1 : ∀ l, Box.at (D ++ l) k = .var 69 [.ptr k 0, .osl j s.length] := fun l => by rw [at_app_l _ _ (by omega), e3]
  have t2 : ∀ l b, (D ++ l).set k b = D.set k b ++ l := fun l b => List.set_append_left _ _ (by omega)
  simp (config := { maxSteps := 1000000 }) (disch := omega) [-List.map_replicate, -List.map_set, -List.getD_eq_getElem?_getD, -getElem?_pos, -getElem?_neg, wrap_i64, le_strLim, le_sliceLim, le_buildLim, le_sliceLimI, Int.tmod_eq_emod_of_nonneg, Int.tdiv_eq_ediv_of_nonneg, omLe, omLeN, omLt, omLtN, omEq, omEqN, onLe, onLeN, onLt, onLtN, onEq, onEqN, ir54, hc, hzx, splice, a1, a2, s2, hCl, hD, b1, t2, m3, hDl]
  try exact List.take_left' (by simp [hDl])
theorem ansWriteOwn {bs : List Box} {k j : Nat} {a : AV} {s : BStr} (h : Bld bs k j a s) (m : Nat) (x : BStr) (sho : Hd) (hm : Box.at bs m = .sl sho 1 (x.map ofByte)) (hmk : m ≠ k) (hmj : m ≠ j) (ml : m < bs.length) (hl : s.length < 100000000) (hx : x.length < 1000000) :
    ansF cfg 54 [.ptr k 0, .osl m x.length] bs = some (.tup [.int .i64 x.length, .ifc false], bldSet bs k j (s ++ x)) := by
  have hc := ansCopyCheck h
  obtain ⟨hk, hj, ne, ha, kl, jl, sh⟩ := h
  refine ans_of_wp fn54 low54 ?_
  have e1 : Box.at (bs.set k (.var 69 [.ptr k 0, .osl j s.length])) k = .var 69 [.ptr k 0, .osl j s.length] := by rw [Go.Am.at_set _ _ _ kl, if_pos rfl]
  have e2 : Box.at (bs.set k (.var 69 [.ptr k 0, .osl j s.length])) j = .sl ⟨false, some 5⟩ 1 (s.map ofByte) := by rw [Go.Am.at_set _ _ _ kl, if_neg (Ne.symm ne), hj]
  have e5 : Box.at (bs.set k (.var 69 [.ptr k 0, .osl j s.length])) m = .sl sho 1 (x.map ofByte) := by rw [Go.Am.at_set _ _ _ kl, if_neg (Ne.symm hmk), hm]
  have shc := shut_set k sh (x := .var 69 [.ptr k 0, .osl j s.length]) (by simp [shut, underAll, AV.under, kl, jl])
  have m2 := shut_map (Nat.le_refl bs.length) (shut_set j shc (x := .sl ⟨false, some 5⟩ 1 ((s ++ x).map ofByte)) rfl)
  have hCl : (bs.set k (.var 69 [.ptr k 0, .osl j s.length])).length = bs.length := by simp
  have hfin : bldSet bs k j (s ++ x) = ((bs.set k (.var 69 [.ptr k 0, .osl j s.length])).set j (.sl ⟨false, some 5⟩ 1 ((s ++ x).map ofByte))).set k (.var 69 [.ptr k 0, .osl j (s ++ x).length]) := by
    unfold bldSet
    rw [List.set_comm _ _ ne, List.set_set]
  rw [hfin]
  generalize bs.set k (.var 69 [.ptr k 0, .osl j s.length]) = C at *
  have a1 : ∀ l, Box.at (C ++ l) k = .var 69 [.ptr k 0, .osl j s.length] := fun l => by rw [at_app_l _ _ (by omega), e1]
  have a2 : ∀ l, Box.at (C ++ l) j = .sl ⟨false, some 5⟩ 1 (s.map ofByte) := fun l => by rw [at_app_l _ _ (by omega), e2]
  have a5 : ∀ l, Box.at (C ++ l) m = .sl sho 1 (x.map ofByte) := fun l => by rw [at_app_l _ _ (by omega), e5]
  have e6 : Box.at (C.set j (.sl ⟨false, some 5⟩ 1 (s.map ofByte ++ x.map ofByte))) m = .sl sho 1 (x.map ofByte) := by rw [Go.Am.at_set _ _ _ (by omega), if_neg (Ne.symm hmj), e5]
  have s2 : ∀ l b, (C ++ l).set j b = C.set j b ++ l := fun l b => List.set_append_left _ _ (by omega)
  have e3 : Box.at (C.set j (.sl ⟨false, some 5⟩ 1 (s.map ofByte ++ x.map ofByte))) k = .var 69 [.ptr k 0, .osl j s.length] := by rw [Go.Am.at_set _ _ _ (by omega), if_neg ne, e1]
  have m3 := shut_map (Nat.le_refl bs.length) (shut_set k (shut_set j shc (x := .sl ⟨false, some 5⟩ 1 (s.map ofByte ++ x.map ofByte)) rfl) (x := .var 69 [.ptr k 0, .osl j (s.length + x.length)]) (by simp [shut, underAll, AV.under, kl, jl]))
  have hDl : (C.set j (.sl ⟨false, some 5⟩ 1 (s.map ofByte ++ x.map ofByte))).length = bs.length := by simp [hCl]
  generalize hD : C.set j (.sl ⟨false, some 5⟩ 1 (s.map ofByte ++ x.map ofByte)) = D at *
  have b1 : ∀ l, Box.at (D ++ l) k = .var 69 [.ptr k 0, .osl j s.length] := fun l => by rw [at_app_l _ _ (by omega), e3]
  have b5 : ∀ l, Box.at (D ++ l) m = .sl sho 1 (x.map ofByte) := fun l => by rw [at_app_l _ _ (by omega), e6]
  have t2 : ∀ l b, (D ++ l).set k b = D.set k b ++ l := fun l b => List.set_append_left _ _ (by omega)
  have b6 : ∀ l, Box.at (D.set k (.var 69 [.ptr k 0, .osl j (s.length + x.length)]) ++ l) m = .sl sho 1 (x.map ofByte) := fun l => by rw [at_app_l _ _ (by simp; omega), Go.Am.at_set _ _ _ (by omega), if_neg (Ne.symm hmk), e6]
  simp (config := { maxSteps := 1000000 }) (disch := omega) [-List.map_replicate, -List.map_set, -List.getD_eq_getElem?_getD, -getElem?_pos, -getElem?_neg, wrap_i64, le_strLim, le_sliceLim, le_buildLim, le_sliceLimI, Int.tmod_eq_emod_of_nonneg, Int.tdiv_eq_ediv_of_nonneg, omLe, omLeN, omLt, omLtN, omEq, omEqN, onLe, onLeN, onLt, onLtN, onEq, onEqN, ir54, hc, splice, a1, a2, a5, b5, b6, e5, s2, hCl, hD, b1, t2, m3, hDl]
  try exact List.take_left' (by simp [hDl])
theorem ansStringB {bs : List Box} {k j : Nat} {a : AV} {s : BStr} (h : Bld bs k j a s) (hl : s.length < 100000000) (h0 : s ≠ []) :
    ansF cfg 45 [.ptr k 0] bs = some (.str s, bs.set j (.sl ⟨false, none⟩ 1 (s.map ofByte))) := by
  obtain ⟨hk, hj, ne, ha, kl, jl, sh⟩ := h
  refine ans_of_wp fn45 low45 ?_
  have hb := bytesN_ofByte s
  have e1 : Box.at (bs.set j (.sl ⟨false, none⟩ 1 (s.map ofByte))) k = .var 69 [a, .osl j s.length] := by rw [Go.Am.at_set _ _ _ jl, if_neg ne, hk]
  have e2 : Box.at (bs.set j (.sl ⟨false, none⟩ 1 (s.map ofByte))) j = .sl ⟨false, none⟩ 1 (s.map ofByte) := by rw [Go.Am.at_set _ _ _ jl, if_pos rfl]
  cases s with
  | nil => exact absurd rfl h0
  | cons c s =>
    simp only [List.length_cons, List.map_cons] at *
    simp (config := { maxSteps := 1000000 }) (disch := omega) [-List.map_replicate, -List.map_set, -List.getD_eq_getElem?_getD, -getElem?_pos, -getElem?_neg, wrap_i64, le_strLim, le_sliceLim, le_buildLim, le_sliceLimI, Int.tmod_eq_emod_of_nonneg, Int.tdiv_eq_ediv_of_nonneg, omLe, omLeN, omLt, omLtN, omEq, omEqN, onLe, onLeN, onLt, onLtN, onEq, onEqN, ir45, hk, hj, e1, e2, hb, Cfg.descOf]
theorem ansStringB0 {bs : List Box} {k j : Nat} {a : AV} (h : Bld bs k j a []) :
    ansF cfg 45 [.ptr k 0] bs = some (.str [], bs.set j (.sl ⟨false, none⟩ 1 [])) := by
  obtain ⟨hk, hj, ne, ha, kl, jl, sh⟩ := h
  refine ans_of_wp fn45 low45 ?_
  have e1 : Box.at (bs.set j (.sl ⟨false, none⟩ 1 [])) k = .var 69 [a, .osl j 0] := by rw [Go.Am.at_set _ _ _ jl, if_neg ne, hk]; rfl
  have e2 : Box.at (bs.set j (.sl ⟨false, none⟩ 1 [])) j = .sl ⟨false, none⟩ 1 [] := by rw [Go.Am.at_set _ _ _ jl, if_pos rfl]
  simp only [List.length_nil, List.map_nil] at hk hj
  simp (config := { maxSteps := 1000000 }) (disch := omega) [-List.map_replicate, -List.map_set, -List.getD_eq_getElem?_getD, -getElem?_pos, -getElem?_neg, wrap_i64, le_strLim, le_sliceLim, le_buildLim, le_sliceLimI, Int.tmod_eq_emod_of_nonneg, Int.tdiv_eq_ediv_of_nonneg, omLe, omLeN, omLt, omLtN, omEq, omEqN, onLe, onLeN, onLt, onLtN, onEq, onEqN, ir45, hk, hj, e1, e2, Cfg.descOf]
end Go.Proofs.YtfhfnehoaiegcaaGreatDoor
