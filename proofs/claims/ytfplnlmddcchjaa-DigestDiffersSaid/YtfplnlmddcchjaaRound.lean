/-
  The rounds of Keccak, as the program and as the reference compute them.
-/
import Derived.Test.YtfplnlmddcchjaaIrs
namespace Go.Proofs.Ytfplnlmddcchjaa
open Go.Am
set_option maxRecDepth 10000
set_option maxHeartbeats 4000000

abbrev W := List (BitVec 64)
def rot (x : BitVec 64) (n : Nat) : BitVec 64 := x <<< n ||| x >>> (64 - n)

def z5 : W := [0, 0, 0, 0, 0]
def z25 : W := [0, 0, 0, 0, 0, 0, 0, 0, 0, 0, 0, 0, 0, 0, 0, 0, 0, 0, 0, 0, 0, 0, 0, 0, 0]

theorem z25_length : z25.length = 25 := rfl

/-- sums of columns -/
def sumsN (a : W) : Nat → W
  | 0 => z5
  | n + 1 => (sumsN a n).set (n % 5) ((sumsN a n).getD (n % 5) 0#64 ^^^ a.getD n 0#64)
/-- the program's second loop -/
def bP (a s : W) (r : List Nat) : Nat → W
  | 0 => z25
  | n + 1 => (bP a s r n).set (n / 5 + 5 * ((2 * (n % 5) + 3 * (n / 5)) % 5)) (rot ((a.getD (n % 5 + 5 * (n / 5)) 0#64 ^^^ s.getD ((n % 5 + 4) % 5) 0#64) ^^^ rot (s.getD ((n % 5 + 1) % 5) 0#64) 1) (r.getD (n % 5 + 5 * (n / 5)) 0))
/-- its third one -/
def oP (b : W) : Nat → W
  | 0 => z25
  | n + 1 => (oP b n).set (n % 5 + 5 * (n / 5)) (b.getD (n % 5 + 5 * (n / 5)) 0#64 ^^^ (~~~ b.getD ((n % 5 + 1) % 5 + 5 * (n / 5)) 0#64 &&& b.getD ((n % 5 + 2) % 5 + 5 * (n / 5)) 0#64))
def roundP (a : W) (r : List Nat) (c : BitVec 64) : W :=
  let o := oP (bP a (sumsN a 25) r 25) 25
  o.set 0 (o.getD 0 0#64 ^^^ c)

@[simp] theorem sumsN_length (a : W) : ∀ n, (sumsN a n).length = 5
  | 0 => rfl
  | n + 1 => by simp [sumsN, sumsN_length a n]
@[simp] theorem bP_length (a s : W) (r : List Nat) : ∀ n, (bP a s r n).length = 25
  | 0 => rfl
  | n + 1 => by simp [bP, bP_length a s r n]
@[simp] theorem oP_length (b : W) : ∀ n, (oP b n).length = 25
  | 0 => rfl
  | n + 1 => by simp [oP, oP_length b n]

theorem zeros25 : [AV.int .u64 0, .int .u64 0, .int .u64 0, .int .u64 0, .int .u64 0, .int .u64 0, .int .u64 0, .int .u64 0, .int .u64 0, .int .u64 0, .int .u64 0, .int .u64 0, .int .u64 0, .int .u64 0, .int .u64 0, .int .u64 0, .int .u64 0, .int .u64 0, .int .u64 0, .int .u64 0, .int .u64 0, .int .u64 0, .int .u64 0, .int .u64 0, .int .u64 0] = z25.map w64 := rfl
theorem zeros5 : [AV.int .u64 0, .int .u64 0, .int .u64 0, .int .u64 0, .int .u64 0] = z5.map w64 := rfl

theorem get_i64n {a : List Nat} {i : Nat} (h : i < a.length) : a[i]? = some (a.getD i 0) := by
  simp [List.getD_eq_getElem?_getD, List.getElem?_eq_getElem h]

theorem and63 (n : Nat) (hn : n < 64) : (BitVec.ofInt 64 (n : Int) &&& 63#64).toNat = n := by
  have h1 : (BitVec.ofInt 64 (n : Int)) = BitVec.ofNat 64 n := by simp
  rw [h1, BitVec.toNat_and, BitVec.toNat_ofNat, BitVec.toNat_ofNat, show 63 % 2 ^ 64 = 2 ^ 6 - 1 by decide, Nat.and_two_pow_sub_one_eq_mod]
  omega

theorem ixs (x y : Nat) (hx : x < 5) (hy : y < 5) : ((x : Int) + 5 * (y : Int)).toNat = x + 5 * y ∧ (x : Int) + 5 * (y : Int) < 25 ∧ 0 ≤ (x : Int) + 5 * (y : Int) ∧ (((x : Int) + 4) % 5).toNat = (x + 4) % 5 ∧ ((x : Int) + 4) % 5 < 5 ∧ 0 ≤ ((x : Int) + 4) % 5 ∧
    (((x : Int) + 1) % 5).toNat = (x + 1) % 5 ∧ ((x : Int) + 1) % 5 < 5 ∧ 0 ≤ ((x : Int) + 1) % 5 ∧ ((y : Int) + 5 * ((2 * (x : Int) + 3 * (y : Int)) % 5)).toNat = y + 5 * ((2 * x + 3 * y) % 5) ∧ (y : Int) + 5 * ((2 * (x : Int) + 3 * (y : Int)) % 5) < 25 ∧ 0 ≤ (y : Int) + 5 * ((2 * (x : Int) + 3 * (y : Int)) % 5) ∧ y + 5 * ((2 * x + 3 * y) % 5) ≤ 24 := by
  have hq : 2 * (x : Int) + 3 * (y : Int) = ((2 * x + 3 * y : Nat) : Int) := by omega
  refine ⟨by omega, by omega, by omega, by omega, by omega, by omega, by omega, by omega, by omega, by rw [hq]; omega, by omega, by omega, by omega⟩

theorem ixo (x y : Nat) (hx : x < 5) (hy : y < 5) : (((x : Int) + 1) % 5 + 5 * (y : Int)).toNat = (x + 1) % 5 + 5 * y ∧ ((x : Int) + 1) % 5 + 5 * (y : Int) < 25 ∧ 0 ≤ ((x : Int) + 1) % 5 + 5 * (y : Int) ∧ (((x : Int) + 2) % 5 + 5 * (y : Int)).toNat = (x + 2) % 5 + 5 * y ∧ ((x : Int) + 2) % 5 + 5 * (y : Int) < 25 ∧ 0 ≤ ((x : Int) + 2) % 5 + 5 * (y : Int) ∧ x + 5 * y ≤ 24 := by
  refine ⟨by omega, by omega, by omega, by omega, by omega, by omega, by omega⟩

theorem ansRotP (x : BitVec 64) (n : Nat) (hn : n < 64) : ansF cfg 35 [w64 x, .int .i64 (n : Int)] [] = some (w64 (rot x n), []) := by
  have h1 : ∀ ty, binA cfg ty .sub (.int .u64 64) (.int .u64 (n : Int)) = some (.int .u64 ((64 - n : Nat) : Int)) := fun ty => by
    have h : (64 : Int) - (n : Int) = ((64 - n : Nat) : Int) := by omega
    simp (disch := omega) [h, wrap_u64]
  have h2 : ∀ ty, binA cfg ty .and (.int .u64 (n : Int)) (.int .u64 63) = some (.int .u64 (n : Int)) := fun ty => by
    show some (AV.int .u64 (IntKind.u64.wrap ((BitVec.ofInt 64 (n : Int) &&& BitVec.ofInt 64 63).toNat : Int))) = _
    rw [show BitVec.ofInt 64 63 = 63#64 by decide, and63 n hn, wrap_u64 (by omega) (by omega)]
  refine ans_of_wp fn35 low35 ?_
  simp (disch := omega) [-List.map_replicate, -List.map_set, -List.getD_eq_getElem?_getD, -getElem?_pos, -getElem?_neg, ir35, -binA_int, wrap_u64, h2, h1, w64_shl, w64_shr, rot]

theorem ansRotR (x : BitVec 64) (n : Nat) (hn : n < 64) : ansF cfg 36 [w64 x, .int .i64 (n : Int)] [] = some (w64 (rot x n), []) := by
  have h1 : (64 : Int) - (n : Int) = ((64 - n : Nat) : Int) := by omega
  refine ans_of_wp fn36 low36 ?_
  simp (disch := omega) [-List.map_replicate, -List.map_set, -List.getD_eq_getElem?_getD, -getElem?_pos, -getElem?_neg, wrap_i64, ir36, h1, w64_shl, w64_shr, rot]

theorem ansRotP1 (x : BitVec 64) : ansF cfg 35 [w64 x, .int .i64 1] [] = some (w64 (rot x 1), []) := ansRotP x 1 (by omega)
theorem ansRotPn (x : BitVec 64) (n : Nat) (hn : n < 64) : ansF cfg 35 [w64 x, i64n n] [] = some (w64 (rot x n), []) := ansRotP x n hn
theorem ansRotR1 (x : BitVec 64) : ansF cfg 36 [w64 x, .int .i64 1] [] = some (w64 (rot x 1), []) := ansRotR x 1 (by omega)
theorem ansRotRn (x : BitVec 64) (n : Nat) (hn : n < 64) : ansF cfg 36 [w64 x, i64n n] [] = some (w64 (rot x n), []) := ansRotR x n hn

theorem ansRoundP (a : W) (ha : a.length = 25) (r : List Nat) (hr : r.length = 25) (hr2 : ∀ i, r.getD i 0 < 64) (c : BitVec 64) : ansF cfg 25 [.agg (a.map w64), .agg (r.map i64n), w64 c] [] = some (.agg ((roundP a r c).map w64), []) := by
  refine ans_of_wp fn25 low25 ?_
  simp (disch := omega) [-List.map_replicate, -List.map_set, -List.getD_eq_getElem?_getD, -getElem?_pos, -getElem?_neg, ir25, ha, take_w64]
  rw [zeros25, zeros5]
  refine Wp.loopM (fun i => 25 - i) (fun (i : Nat) => [none, none, some (w64 c), some (.ptr 0 0), some (.ptr 1 0), some (.ptr 2 0), some (.ptr 3 0), none, none, none, none, none, none, none, none, none, none, some (.agg (a.map w64)), some (.int .i64 i), none, none, none, none, none, none, none, none, none, none, none, none])
    (fun i => [.var 23 (a.map w64), .var 42 (r.map i64n), .var 23 (z25.map w64), .var 62 ((sumsN a i).map w64)]) (fun i => i ≤ 25) ?_ 0 (by omega) (by simp) (by simp only [sumsN])
  intro i hi
  by_cases h : i < 25
  · have hI : (i : Int) < 25 := by omega
    have h2I : (i : Int) % 5 < 5 := by omega
    have h3 : i % 5 < (sumsN a i).length := by simp; omega
    have h4 : i < a.length := by omega
    have h5 : i % 5 ≤ 4 := by omega
    simp (disch := omega) [-List.map_replicate, -List.map_set, -List.getD_eq_getElem?_getD, -getElem?_pos, -getElem?_neg, wrap_i64, Int.tmod_eq_emod_of_nonneg, hI, h2I, h5, get_w64 h3, get_w64 h4, splice_w64]
    exact ⟨i + 1, by omega, by omega, by omega, by simp [sumsN, List.map_set]⟩
  obtain rfl : i = 25 := by omega
  clear hi h
  generalize hs : sumsN a 25 = s
  have hsl : s.length = 5 := by rw [← hs]; simp
  simp (disch := omega) [-List.map_replicate, -List.map_set, -List.getD_eq_getElem?_getD, -getElem?_pos, -getElem?_neg]
  rw [zeros25]
  refine Wp.loopM (fun y => 5 - y) (fun (y : Nat) => [none, none, some (w64 c), some (.ptr 0 0), some (.ptr 1 0), some (.ptr 2 0), some (.ptr 3 0), none, none, some (.ptr 4 0), none, none, none, none, none, none, none, none, none, none, some (.int .i64 y), none, none, none, none, none, none, none, none, none, none])
    (fun y => [.var 23 (a.map w64), .var 42 (r.map i64n), .var 23 (z25.map w64), .var 62 (s.map w64), .var 23 ((bP a s r (5 * y)).map w64)]) (fun y => y ≤ 5) ?_ 0 (by omega) (by simp) (by simp only [bP])
  intro y hy
  by_cases hy2 : y < 5
  · have hyI : (y : Int) < 5 := by omega
    simp (disch := omega) [-List.map_replicate, -List.map_set, -List.getD_eq_getElem?_getD, -getElem?_pos, -getElem?_neg, hyI]
    refine Wp.loopM (fun x => 5 - x) (fun (x : Nat) => [none, none, some (w64 c), some (.ptr 0 0), some (.ptr 1 0), some (.ptr 2 0), some (.ptr 3 0), none, none, some (.ptr 4 0), some (.int .i64 y), none, none, none, none, none, none, none, none, none, some (.int .i64 y), none, some (.int .i64 x), none, none, none, none, none, none, none, none])
      (fun x => [.var 23 (a.map w64), .var 42 (r.map i64n), .var 23 (z25.map w64), .var 62 (s.map w64), .var 23 ((bP a s r (5 * y + x)).map w64)]) (fun x => x ≤ 5) ?_ 0 (by omega) (by simp) (by simp)
    intro x hx
    by_cases hx2 : x < 5
    · have hxI : (x : Int) < 5 := by omega
      have j9 := hr2 (x + 5 * y)
      simp (disch := omega) [-List.map_replicate, -List.map_set, -List.getD_eq_getElem?_getD, -getElem?_pos, -getElem?_neg, wrap_i64, Int.tmod_eq_emod_of_nonneg, hxI, ixs x y hx2 hy2, get_w64 (a := a) (i := x + 5 * y) (by omega), get_w64 (a := s) (i := (x + 4) % 5) (by omega), get_w64 (a := s) (i := (x + 1) % 5) (by omega), get_i64n (a := r) (i := x + 5 * y) (by omega), ansRotP1, ansRotPn, splice_w64 (a := bP a s r (5 * y + x)) (i := y + 5 * ((2 * x + 3 * y) % 5)) (by simp; omega)]
      refine ⟨x + 1, by omega, by omega, by omega, ?_⟩
      rw [← Nat.add_assoc, bP, show (5 * y + x) % 5 = x by omega, show (5 * y + x) / 5 = y by omega]
    obtain rfl : x = 5 := by omega
    simp (disch := omega) [-List.map_replicate, -List.map_set, -List.getD_eq_getElem?_getD, -getElem?_pos, -getElem?_neg, wrap_i64, Int.tmod_eq_emod_of_nonneg]
    exact ⟨y + 1, by omega, by omega, by omega, by rw [show 5 * (y + 1) = 5 * y + 5 by omega]⟩
  obtain rfl : y = 5 := by omega
  clear hy hy2
  generalize hb : bP a s r 25 = b
  have hbl : b.length = 25 := by rw [← hb]; simp
  simp (disch := omega) [-List.map_replicate, -List.map_set, -List.getD_eq_getElem?_getD, -getElem?_pos, -getElem?_neg]
  rw [zeros25]
  refine Wp.loopM (fun y => 5 - y) (fun (y : Nat) => [none, none, some (w64 c), none, none, some (.ptr 2 0), none, none, none, some (.ptr 4 0), none, none, none, none, some (.ptr 5 0), none, none, none, none, none, none, none, none, none, none, none, none, some (.int .i64 y), none, none, none])
    (fun y => [.var 23 (a.map w64), .var 42 (r.map i64n), .var 23 (z25.map w64), .var 62 (s.map w64), .var 23 (b.map w64), .var 23 ((oP b (5 * y)).map w64)]) (fun y => y ≤ 5) ?_ 0 (by omega) (by simp) (by simp only [oP])
  intro y hy
  by_cases hy2 : y < 5
  · have hyI : (y : Int) < 5 := by omega
    simp (disch := omega) [-List.map_replicate, -List.map_set, -List.getD_eq_getElem?_getD, -getElem?_pos, -getElem?_neg, hyI]
    refine Wp.loopM (fun x => 5 - x) (fun (x : Nat) => [none, none, some (w64 c), none, none, some (.ptr 2 0), none, none, none, some (.ptr 4 0), none, none, none, none, some (.ptr 5 0), some (.int .i64 y), none, none, none, none, none, none, none, none, none, none, none, some (.int .i64 y), none, some (.int .i64 x), none])
      (fun x => [.var 23 (a.map w64), .var 42 (r.map i64n), .var 23 (z25.map w64), .var 62 (s.map w64), .var 23 (b.map w64), .var 23 ((oP b (5 * y + x)).map w64)]) (fun x => x ≤ 5) ?_ 0 (by omega) (by simp) (by simp)
    intro x hx
    by_cases hx2 : x < 5
    · have hxI : (x : Int) < 5 := by omega
      simp (disch := omega) [-List.map_replicate, -List.map_set, -List.getD_eq_getElem?_getD, -getElem?_pos, -getElem?_neg, wrap_i64, Int.tmod_eq_emod_of_nonneg, hxI, ixs x y hx2 hy2, ixo x y hx2 hy2, get_w64 (a := b) (i := x + 5 * y) (by omega), get_w64 (a := b) (i := (x + 1) % 5 + 5 * y) (by omega), get_w64 (a := b) (i := (x + 2) % 5 + 5 * y) (by omega), splice_w64 (a := oP b (5 * y + x)) (i := x + 5 * y) (by simp; omega)]
      refine ⟨x + 1, by omega, by omega, by omega, ?_⟩
      rw [← Nat.add_assoc, oP, show (5 * y + x) % 5 = x by omega, show (5 * y + x) / 5 = y by omega]
    obtain rfl : x = 5 := by omega
    simp (disch := omega) [-List.map_replicate, -List.map_set, -List.getD_eq_getElem?_getD, -getElem?_pos, -getElem?_neg, wrap_i64, Int.tmod_eq_emod_of_nonneg]
    exact ⟨y + 1, by omega, by omega, by omega, by rw [show 5 * (y + 1) = 5 * y + 5 by omega]⟩
  obtain rfl : y = 5 := by omega
  generalize ho : oP b 25 = o
  have hol : o.length = 25 := by rw [← ho]; simp
  have hol2 : (o.set 0 (o.getD 0 0#64 ^^^ c)).length = 25 := by simp [hol]
  simp (disch := omega) [-List.map_replicate, -List.map_set, -List.getD_eq_getElem?_getD, -getElem?_pos, -getElem?_neg, hol, get_w64 (a := o) (i := 0) (by omega), splice_w64 (a := o) (i := 0) (by omega), take_w64 hol2, splice_all (cs := z25.map w64) (v := (o.set 0 (o.getD 0 0#64 ^^^ c)).map w64) (by simp [hol]; rfl), z25_length]
  simp only [roundP, hs, hb, ho]

/-! ### The reference -/

/-- its second loop -/
def aR (a s : W) : Nat → W
  | 0 => a
  | n + 1 => (aR a s n).set n (((aR a s n).getD n 0#64 ^^^ s.getD ((n + 4) % 5) 0#64) ^^^ rot (s.getD ((n + 1) % 5) 0#64) 1)
/-- its third one -/
def bR (a : W) (r : List Nat) : Nat → W
  | 0 => z25
  | n + 1 => (bR a r n).set (n % 5 + 5 * ((2 * (n / 5) + 3 * (n % 5)) % 5)) (rot (a.getD (n / 5 + 5 * (n % 5)) 0#64) (r.getD (n / 5 + 5 * (n % 5)) 0))
/-- its fourth one -/
def oR (a b : W) : Nat → W
  | 0 => a
  | n + 1 => (oR a b n).set (n / 5 + 5 * (n % 5)) (b.getD (n / 5 + 5 * (n % 5)) 0#64 ^^^ (~~~ b.getD ((n / 5 + 1) % 5 + 5 * (n % 5)) 0#64 &&& b.getD ((n / 5 + 2) % 5 + 5 * (n % 5)) 0#64))
def roundR (a : W) (r : List Nat) (c : BitVec 64) : W :=
  let a2 := aR a (sumsN a 25) 25
  let o := oR a2 (bR a2 r 25) 25
  o.set 0 (o.getD 0 0#64 ^^^ c)
theorem aR_length (a s : W) (ha : a.length = 25) : ∀ n, (aR a s n).length = 25
  | 0 => ha
  | n + 1 => by simp [aR, aR_length a s ha n]
@[simp] theorem bR_length (a : W) (r : List Nat) : ∀ n, (bR a r n).length = 25
  | 0 => rfl
  | n + 1 => by simp [bR, bR_length a r n]
theorem oR_length (a b : W) (ha : a.length = 25) : ∀ n, (oR a b n).length = 25
  | 0 => ha
  | n + 1 => by simp [oR, oR_length a b ha n]

theorem ixr (i : Nat) (hi : i < 25) : (((i : Int) + 4) % 5).toNat = (i + 4) % 5 ∧ ((i : Int) + 4) % 5 < 5 ∧ 0 ≤ ((i : Int) + 4) % 5 ∧ (((i : Int) + 1) % 5).toNat = (i + 1) % 5 ∧ ((i : Int) + 1) % 5 < 5 ∧ 0 ≤ ((i : Int) + 1) % 5 ∧ i ≤ 24 := by
  refine ⟨by omega, by omega, by omega, by omega, by omega, by omega, by omega⟩

theorem ansRoundR (a : W) (ha : a.length = 25) (r : List Nat) (hr : r.length = 25) (hr2 : ∀ i, r.getD i 0 < 64) (c : BitVec 64) : ansF cfg 28 [.agg (a.map w64), w64 c, .agg (r.map i64n)] [] = some (.agg ((roundR a r c).map w64), []) := by
  refine ans_of_wp fn28 low28 ?_
  simp (disch := omega) [-List.map_replicate, -List.map_set, -List.getD_eq_getElem?_getD, -getElem?_pos, -getElem?_neg, ir28, splice_all]
  rw [zeros25, zeros5]
  refine Wp.loopM (fun i => 25 - i) (fun (i : Nat) => [none, some (w64 c), none, some (.ptr 0 0), some (.ptr 1 0), some (.ptr 2 0), some (.ptr 3 0), some (.int .i64 i), none, none, none, none, none, none, none, none, none, none, none, none, none, none, none, none, none])
    (fun i => [.var 23 (a.map w64), .var 42 (r.map i64n), .var 23 (z25.map w64), .var 62 ((sumsN a i).map w64)]) (fun i => i ≤ 25) ?_ 0 (by omega) (by simp) (by simp only [sumsN])
  intro i hi
  by_cases h : i < 25
  · have hI : (i : Int) < 25 := by omega
    have h2I : (i : Int) % 5 < 5 := by omega
    have h5 : i % 5 ≤ 4 := by omega
    simp (disch := omega) [-List.map_replicate, -List.map_set, -List.getD_eq_getElem?_getD, -getElem?_pos, -getElem?_neg, wrap_i64, Int.tmod_eq_emod_of_nonneg, hI, h2I, h5, get_w64 (a := sumsN a i) (i := i % 5) (by simp; omega), get_w64 (a := a) (i := i) (by omega), splice_w64 (a := sumsN a i) (i := i % 5) (by simp; omega)]
    exact ⟨i + 1, by omega, by omega, by omega, by rw [sumsN]⟩
  obtain rfl : i = 25 := by omega
  clear hi h
  generalize hs : sumsN a 25 = s
  have hsl : s.length = 5 := by rw [← hs]; simp
  simp (disch := omega) [-List.map_replicate, -List.map_set, -List.getD_eq_getElem?_getD, -getElem?_pos, -getElem?_neg, Int.tmod_eq_emod_of_nonneg]
  refine Wp.loopM (fun i => 25 - i) (fun (i : Nat) => [none, some (w64 c), none, some (.ptr 0 0), some (.ptr 1 0), some (.ptr 2 0), some (.ptr 3 0), none, some (.int .i64 i), none, none, none, none, none, none, none, none, none, none, none, none, none, none, none, none])
    (fun i => [.var 23 ((aR a s i).map w64), .var 42 (r.map i64n), .var 23 (z25.map w64), .var 62 (s.map w64)]) (fun i => i ≤ 25) ?_ 0 (by omega) (by simp) (by simp only [aR])
  intro i hi
  by_cases h : i < 25
  · have hI : (i : Int) < 25 := by omega
    have hl := aR_length a s ha i
    simp (disch := omega) [-List.map_replicate, -List.map_set, -List.getD_eq_getElem?_getD, -getElem?_pos, -getElem?_neg, wrap_i64, Int.tmod_eq_emod_of_nonneg, hI, hl, ixr i h, get_w64 (a := aR a s i) (i := i) (by omega), get_w64 (a := s) (i := (i + 4) % 5) (by omega), get_w64 (a := s) (i := (i + 1) % 5) (by omega), ansRotR1, splice_w64 (a := aR a s i) (i := i) (by omega)]
    exact ⟨i + 1, by omega, by omega, by omega, by rw [aR]⟩
  obtain rfl : i = 25 := by omega
  clear hi h
  generalize ha2 : aR a s 25 = a2
  have ha2l : a2.length = 25 := by rw [← ha2]; exact aR_length a s ha 25
  simp (disch := omega) [-List.map_replicate, -List.map_set, -List.getD_eq_getElem?_getD, -getElem?_pos, -getElem?_neg, wrap_i64, Int.tmod_eq_emod_of_nonneg]
  rw [zeros25]
  simp (disch := omega) [-List.map_replicate, -List.map_set, -List.getD_eq_getElem?_getD, -getElem?_pos, -getElem?_neg, splice_all]
  refine Wp.loopM (fun y => 5 - y) (fun (y : Nat) => [none, some (w64 c), none, some (.ptr 0 0), some (.ptr 1 0), some (.ptr 2 0), none, none, none, some (.ptr 4 0), some (.int .i64 y), none, none, none, none, none, none, none, none, none, none, none, none, none, none])
    (fun y => [.var 23 (a2.map w64), .var 42 (r.map i64n), .var 23 (z25.map w64), .var 62 (s.map w64), .var 23 ((bR a2 r (5 * y)).map w64)]) (fun y => y ≤ 5) ?_ 0 (by omega) (by simp) (by simp only [bR])
  intro y hy
  by_cases hy2 : y < 5
  · have hyI : (y : Int) < 5 := by omega
    simp (disch := omega) [-List.map_replicate, -List.map_set, -List.getD_eq_getElem?_getD, -getElem?_pos, -getElem?_neg, hyI]
    refine Wp.loopM (fun x => 5 - x) (fun (x : Nat) => [none, some (w64 c), none, some (.ptr 0 0), some (.ptr 1 0), some (.ptr 2 0), none, none, none, some (.ptr 4 0), some (.int .i64 y), some (.int .i64 x), none, none, none, none, none, none, none, none, none, none, none, none, none])
      (fun x => [.var 23 (a2.map w64), .var 42 (r.map i64n), .var 23 (z25.map w64), .var 62 (s.map w64), .var 23 ((bR a2 r (5 * y + x)).map w64)]) (fun x => x ≤ 5) ?_ 0 (by omega) (by simp) (by simp)
    intro x hx
    by_cases hx2 : x < 5
    · have hxI : (x : Int) < 5 := by omega
      have j9 := hr2 (y + 5 * x)
      simp (disch := omega) [-List.map_replicate, -List.map_set, -List.getD_eq_getElem?_getD, -getElem?_pos, -getElem?_neg, wrap_i64, Int.tmod_eq_emod_of_nonneg, hxI, ixs y x hy2 hx2, get_w64 (a := a2) (i := y + 5 * x) (by omega), get_i64n (a := r) (i := y + 5 * x) (by omega), ansRotRn, splice_w64 (a := bR a2 r (5 * y + x)) (i := x + 5 * ((2 * y + 3 * x) % 5)) (by simp; omega)]
      refine ⟨x + 1, by omega, by omega, by omega, ?_⟩
      rw [← Nat.add_assoc, bR, show (5 * y + x) % 5 = x by omega, show (5 * y + x) / 5 = y by omega]
    obtain rfl : x = 5 := by omega
    simp (disch := omega) [-List.map_replicate, -List.map_set, -List.getD_eq_getElem?_getD, -getElem?_pos, -getElem?_neg, wrap_i64, Int.tmod_eq_emod_of_nonneg]
    exact ⟨y + 1, by omega, by omega, by omega, by rw [show 5 * (y + 1) = 5 * y + 5 by omega]⟩
  obtain rfl : y = 5 := by omega
  clear hy hy2
  generalize hb : bR a2 r 25 = b
  have hbl : b.length = 25 := by rw [← hb]; simp
  simp (disch := omega) [-List.map_replicate, -List.map_set, -List.getD_eq_getElem?_getD, -getElem?_pos, -getElem?_neg]
  refine Wp.loopM (fun y => 5 - y) (fun (y : Nat) => [none, some (w64 c), none, some (.ptr 0 0), none, some (.ptr 2 0), none, none, none, some (.ptr 4 0), none, none, some (.int .i64 y), none, none, none, none, none, none, none, none, none, none, none, none])
    (fun y => [.var 23 ((oR a2 b (5 * y)).map w64), .var 42 (r.map i64n), .var 23 (z25.map w64), .var 62 (s.map w64), .var 23 (b.map w64)]) (fun y => y ≤ 5) ?_ 0 (by omega) (by simp) (by simp only [oR])
  intro y hy
  by_cases hy2 : y < 5
  · have hyI : (y : Int) < 5 := by omega
    simp (disch := omega) [-List.map_replicate, -List.map_set, -List.getD_eq_getElem?_getD, -getElem?_pos, -getElem?_neg, hyI]
    refine Wp.loopM (fun x => 5 - x) (fun (x : Nat) => [none, some (w64 c), none, some (.ptr 0 0), none, some (.ptr 2 0), none, none, none, some (.ptr 4 0), none, none, some (.int .i64 y), some (.int .i64 x), none, none, none, none, none, none, none, none, none, none, none])
      (fun x => [.var 23 ((oR a2 b (5 * y + x)).map w64), .var 42 (r.map i64n), .var 23 (z25.map w64), .var 62 (s.map w64), .var 23 (b.map w64)]) (fun x => x ≤ 5) ?_ 0 (by omega) (by simp) (by simp)
    intro x hx
    by_cases hx2 : x < 5
    · have hxI : (x : Int) < 5 := by omega
      have hl := oR_length a2 b ha2l (5 * y + x)
      simp (disch := omega) [-List.map_replicate, -List.map_set, -List.getD_eq_getElem?_getD, -getElem?_pos, -getElem?_neg, wrap_i64, Int.tmod_eq_emod_of_nonneg, hxI, hl, ixs y x hy2 hx2, ixo y x hy2 hx2, get_w64 (a := b) (i := y + 5 * x) (by omega), get_w64 (a := b) (i := (y + 1) % 5 + 5 * x) (by omega), get_w64 (a := b) (i := (y + 2) % 5 + 5 * x) (by omega), splice_w64 (a := oR a2 b (5 * y + x)) (i := y + 5 * x) (by omega)]
      refine ⟨x + 1, by omega, by omega, by omega, ?_⟩
      rw [← Nat.add_assoc, oR, show (5 * y + x) % 5 = x by omega, show (5 * y + x) / 5 = y by omega]
    obtain rfl : x = 5 := by omega
    simp (disch := omega) [-List.map_replicate, -List.map_set, -List.getD_eq_getElem?_getD, -getElem?_pos, -getElem?_neg, wrap_i64, Int.tmod_eq_emod_of_nonneg]
    exact ⟨y + 1, by omega, by omega, by omega, by rw [show 5 * (y + 1) = 5 * y + 5 by omega]⟩
  obtain rfl : y = 5 := by omega
  generalize ho : oR a2 b 25 = o
  have hol : o.length = 25 := by rw [← ho]; exact oR_length a2 b ha2l 25
  have hol2 : (o.set 0 (o.getD 0 0#64 ^^^ c)).length = 25 := by simp [hol]
  simp (disch := omega) [-List.map_replicate, -List.map_set, -List.getD_eq_getElem?_getD, -getElem?_pos, -getElem?_neg, hol, get_w64 (a := o) (i := 0) (by omega), splice_w64 (a := o) (i := 0) (by omega), take_w64 hol2, splice_all (cs := z25.map w64) (v := (o.set 0 (o.getD 0 0#64 ^^^ c)).map w64) (by simp [hol]; rfl), z25_length]
  simp only [roundR, hs, hb, ho, ha2]
end Go.Proofs.Ytfplnlmddcchjaa
