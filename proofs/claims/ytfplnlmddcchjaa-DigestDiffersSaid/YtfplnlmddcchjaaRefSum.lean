/-
  The reference's digest of a string.
-/
import Derived.Test.YtfplnlmddcchjaaBlock
namespace Go.Proofs.Ytfplnlmddcchjaa
open Go.Am
set_option maxRecDepth 10000
set_option maxHeartbeats 4000000

def padN (d : Str) (m : Nat) : Str := d ++ 6 :: List.replicate m 0
def need (d : Str) : Nat := (136 - (d.length + 1) % 136) % 136
theorem padN_length (d : Str) (m : Nat) : (padN d m).length = d.length + 1 + m := by simp [padN]; omega
theorem padN_succ (d : Str) (m : Nat) : padN d m ++ [0] = padN d (m + 1) := by
  simp [padN, List.replicate_succ']
def padded (d : Str) : Str := (padN d (need d)).set ((padN d (need d)).length - 1) ((padN d (need d)).getD ((padN d (need d)).length - 1) 0 ||| 128)
/-- the first n blocks taken in -/
def absB (b : Str) : Nat → W
  | 0 => z25
  | n + 1 => permR (absN (absB b n) ((b.drop (136 * n)).take 136) 136) 24
def sumR (d : Str) : Str := outN (absB (padded d) ((padded d).length / 136)) 32

theorem window (b : Str) (q i : Nat) (h : i < 136) : ((b.drop q).take 136).getD i 0 = b.getD (q + i) 0 := by
  simp only [List.getD_eq_getElem?_getD, List.getElem?_take, h, if_true, List.getElem?_drop]

theorem ansSumR (d : Str) (hd : d.length ≤ 1000000) : ansF cfg 14 [.str d] [] = some (.str (sumR d), []) := by
  refine ans_of_wp fn14 low14 ?_
  have h6 : AV.int .u8 6 = ofByte 6 := rfl
  have h0 : AV.int .u8 0 = ofByte 0 := rfl
  simp (disch := omega) [-List.map_replicate, -List.map_set, -List.getD_eq_getElem?_getD, -getElem?_pos, -getElem?_neg, le_sliceLim, le_buildLim, ir14, Cfg.descOf, h6]
  refine Wp.loopM (fun m => need d - m) (fun (m : Nat) => [none, none, some (.osl 0 (padN d m).length), none, none, none, none, none, none, none, none, none, none, none, none, none, none, none, none, none, none, none])
    (fun m => [.sl ⟨false, some 5⟩ 1 ((padN d m).map ofByte), .sl ⟨false, some 5⟩ 1 [ofByte 6], .dead]) (fun m => m ≤ need d) ?_ 0 (by omega) (by simp [padN]) (by simp [padN])
  intro m hm
  have hl := padN_length d m
  have hneed : need d < 136 := by unfold need; omega
  generalize hp : padN d m = p at *
  by_cases h1 : p.length % 136 = 0
  · have hme : m = need d := by rw [hl] at h1; unfold need at hm ⊢; omega
    have h1I : (p.length : Int) % 136 = 0 := by omega
    have hpos : 0 < p.length := by omega
    have hA : (1 : Int) ≤ (p.length : Int) := by omega
    have hB : (p.length : Int) - 1 < (p.length : Int) := by omega
    have hC : p.length - 1 < p.length := by omega
    have e1 : ((p.length : Int) - 1).toNat = p.length - 1 := by omega
    have hor : ∀ ty (x : UInt8), binA cfg ty .or (ofByte x) (.int .u8 128) = some (ofByte (x ||| 128)) := fun ty x => ofByte_or cfg ty x 128 (by omega)
    have hg := get_str (d := p) (i := p.length - 1) (by omega)
    have hP : p.set (p.length - 1) (p.getD (p.length - 1) 0 ||| 128) = padded d := by
      rw [← hp, hme]; rfl
    have hPl : (padded d).length = p.length := by rw [← hP]; simp
    generalize hbd : padded d = b at *
    simp (disch := omega) [-List.map_replicate, -List.map_set, -List.getD_eq_getElem?_getD, -getElem?_pos, -getElem?_neg, wrap_i64, le_sliceLim, le_buildLim, Int.tmod_eq_emod_of_nonneg, h1I, hA, hB, e1, hor, hg, set_ofByte, hP, splice_all]
    rw [zeros25]
    obtain ⟨K, hK⟩ : ∃ K, p.length = 136 * K := ⟨p.length / 136, by omega⟩
    have hsum : sumR d = outN (absB b K) 32 := by rw [sumR, hbd, hPl, hK, Nat.mul_div_cancel_left K (by omega)]
    have hbl : ∀ q, (absB b q).length = 25 := by
      intro q
      induction q with
      | zero => rfl
      | succ q ih => exact permR_length _ (by rw [absN_length]; exact ih) 24
    refine Wp.loopM (fun q => K - q) (fun (q : Nat) => [none, none, some (.osl 0 p.length), some (.ptr 3 0), some (.int .i64 (136 * (q : Int))), none, none, none, none, none, none, none, none, none, none, none, none, none, none, none, none, none])
      (fun q => [.sl ⟨false, some 5⟩ 1 (b.map ofByte), .sl ⟨false, some 5⟩ 1 [ofByte 6], .dead, .var 23 ((absB b q).map w64)]) (fun q => q ≤ K) ?_ 0 (by omega) (by simp) (by simp [absB])
    intro q hq
    by_cases h2 : q < K
    · have h2I : 136 * (q : Int) < (p.length : Int) := by omega
      simp (disch := omega) [-List.map_replicate, -List.map_set, -List.getD_eq_getElem?_getD, -getElem?_pos, -getElem?_neg, le_buildLim, h2I, hPl]
      refine Wp.loopM (fun i => 136 - i) (fun (i : Nat) => [none, none, some (.osl 0 p.length), some (.ptr 3 0), some (.int .i64 (136 * (q : Int))), some (.int .i64 i), none, none, none, none, none, none, none, none, none, none, none, none, none, none, none, none])
        (fun i => [.sl ⟨false, some 5⟩ 1 (b.map ofByte), .sl ⟨false, some 5⟩ 1 [ofByte 6], .dead, .var 23 ((absN (absB b q) ((b.drop (136 * q)).take 136) i).map w64)]) (fun i => i ≤ 136) ?_ 0 (by omega) (by simp) (by simp only [absN])
      intro i hi
      have hl2 : (absN (absB b q) ((b.drop (136 * q)).take 136) i).length = 25 := by rw [absN_length]; exact hbl q
      by_cases h3 : i < 136
      · have h3I : (i : Int) < 136 := by omega
        have h8 : (i : Int) / 8 < 25 := by omega
        have h9 : i / 8 ≤ 24 := by omega
        have e2 : (136 * (q : Int) + (i : Int)).toNat = 136 * q + i := by omega
        have e3 : 136 * (q : Int) + (i : Int) < (p.length : Int) := by omega
        have e4 : 0 ≤ 136 * (q : Int) + (i : Int) := by omega
        have hg2 := get_str (d := b) (i := 136 * q + i) (by omega)
        have htb : ∀ c : UInt8, toInt1 .u64 (ofByte c) = some (w64 (wb c)) := toInt_byte
        simp (disch := omega) [-List.map_replicate, -List.map_set, -List.getD_eq_getElem?_getD, -getElem?_pos, -getElem?_neg, wrap_i64, Int.tmod_eq_emod_of_nonneg, Int.tdiv_eq_ediv_of_nonneg, h3I, hPl, hl2, h8, h9, e2, e3, e4, hg2, -toInt1_int, htb, shl8, get_w64 (a := absN (absB b q) ((b.drop (136 * q)).take 136) i) (i := i / 8) (by omega), splice_w64 (a := absN (absB b q) ((b.drop (136 * q)).take 136) i) (i := i / 8) (by omega)]
        exact ⟨i + 1, by omega, by omega, by omega, by rw [absN, window b (136 * q) i h3]⟩
      obtain rfl : i = 136 := by omega
      have hp2 := permR_length _ hl2 24
      simp (disch := omega) [-List.map_replicate, -List.map_set, -List.getD_eq_getElem?_getD, -getElem?_pos, -getElem?_neg, wrap_i64, Int.tmod_eq_emod_of_nonneg, Int.tdiv_eq_ediv_of_nonneg, hl2, hp2, take_w64 hl2, ansPermR _ hl2, splice_all (cs := (absN (absB b q) ((b.drop (136 * q)).take 136) 136).map w64) (v := (permR (absN (absB b q) ((b.drop (136 * q)).take 136) 136) 24).map w64) (by simp [hl2, hp2])]
      exact ⟨q + 1, by omega, by omega, by omega, by rw [absB]⟩
    obtain rfl : q = K := by omega
    have h2I : ¬ 136 * (q : Int) < (p.length : Int) := by omega
    simp (disch := omega) [-List.map_replicate, -List.map_set, -List.getD_eq_getElem?_getD, -getElem?_pos, -getElem?_neg, le_buildLim, h2I, hPl]
    rw [hsum]
    have hX := hbl q
    generalize absB b q = X at hX ⊢
    have hol : ∀ n, (outN X n).length = n := by
      intro n
      induction n with
      | zero => rfl
      | succ n ih => simp [outN, ih]
    refine Wp.loopM (fun i => 32 - i) (fun (i : Nat) => [none, none, none, some (.ptr 3 0), none, none, some (.osl 4 i), some (.int .i64 i), none, none, none, none, none, none, none, none, none, none, none, none, none, none])
      (fun i => [.sl ⟨false, some 5⟩ 1 (b.map ofByte), .sl ⟨false, some 5⟩ 1 [ofByte 6], .dead, .var 23 (X.map w64), .sl ⟨false, some 5⟩ 1 ((outN X i).map ofByte)]) (fun i => i ≤ 32) ?_ 0 (by omega) (by simp) (by simp [outN])
    intro i hi
    by_cases h1 : i < 32
    · have hI : (i : Int) < 32 := by omega
      have h8 : (i : Int) / 8 < 25 := by omega
      simp (disch := omega) [-List.map_replicate, -List.map_set, -List.getD_eq_getElem?_getD, -getElem?_pos, -getElem?_neg, wrap_i64, le_sliceLim, le_buildLim, Int.tmod_eq_emod_of_nonneg, Int.tdiv_eq_ediv_of_nonneg, hI, h8, get_w64 (a := X) (i := i / 8) (by omega), shr8, -toInt1_int, toInt_w64, hol]
      refine ⟨i + 1, by omega, by omega, ⟨rfl, by omega⟩, ?_⟩
      simp [outN]
    obtain rfl : i = 32 := by omega
    simp (disch := omega) [-List.map_replicate, -List.map_set, -List.getD_eq_getElem?_getD, -getElem?_pos, -getElem?_neg, wrap_i64, le_buildLim, Int.tmod_eq_emod_of_nonneg, Int.tdiv_eq_ediv_of_nonneg, hol, Cfg.descOf]
  · have h1I : ¬ ((p.length : Int) % 136 = 0) := by omega
    have hne : m ≠ need d := by
      intro h
      apply h1
      rw [hl, h]
      unfold need
      omega
    simp (disch := omega) [-List.map_replicate, -List.map_set, -List.getD_eq_getElem?_getD, -getElem?_pos, -getElem?_neg, wrap_i64, le_sliceLim, le_buildLim, Int.tmod_eq_emod_of_nonneg, h1I]
    exact ⟨m + 1, by omega, by omega, by rw [padN_length]; omega, by rw [← padN_succ, hp]; simp; rfl⟩
end Go.Proofs.Ytfplnlmddcchjaa
