/-
  Hex and Parse: the text of a digest, and the digest with a text; program and reference.
-/
import Derived.Test.YtfplnlmddcchjaaSumSame
import Derived.Test.YtfplnlmddcchjaaAmIr9
namespace Go.Proofs.Ytfplnlmddcchjaa
open Go.Am
set_option maxRecDepth 10000
set_option maxHeartbeats 4000000

/-- the digits of base 16 -/
def digs : Str := [48, 49, 50, 51, 52, 53, 54, 55, 56, 57, 97, 98, 99, 100, 101, 102]
theorem digs_eq : ([48, 49, 50, 51, 52, 53, 54, 55, 56, 57, 97, 98, 99, 100, 101, 102] : Str) = digs := rfl
theorem digs_length : digs.length = 16 := rfl
def dgt (n : Nat) : UInt8 := digs.getD n 0

/-! ### strings.Builder -/

theorem ansWriteByte (a : AV) (ha : a = .nilp ∨ a = .ptr 0 0) (es : List AV) (n : Nat) (hn : es.length = n) (hl : n < 100000) (x : UInt8) :
    ansF cfg 29 [.ptr 0 0, ofByte x] [.var 51 [a, .osl 1 n], .sl ⟨false, some 5⟩ 1 es] = some (.unk, [.var 51 [.ptr 0 0, .osl 1 (n + 1)], .sl ⟨false, some 5⟩ 1 (es ++ [ofByte x])]) := by
  have hc : ansF cfg 37 [.ptr 0 0] [.var 51 [a, .osl 1 n], .sl ⟨false, some 5⟩ 1 es] = some (.tup [], [.var 51 [.ptr 0 0, .osl 1 n], .sl ⟨false, some 5⟩ 1 es]) := by
    refine ans_of_wp fn37 low37 ?_
    rcases ha with rfl | rfl
    · simp (disch := omega) [-List.map_replicate, -List.map_set, -List.getD_eq_getElem?_getD, -getElem?_pos, -getElem?_neg, ir37, sameG, splice]
    · simp (disch := omega) [-List.map_replicate, -List.map_set, -List.getD_eq_getElem?_getD, -getElem?_pos, -getElem?_neg, ir37]
  refine ans_of_wp fn29 low29 ?_
  simp (disch := omega) [-List.map_replicate, -List.map_set, -List.getD_eq_getElem?_getD, -getElem?_pos, -getElem?_neg, le_sliceLim, le_buildLim, ir29, hc, hn, splice]

theorem ansString (a : AV) (s : Str) (n : Nat) (hn : s.length = n + 1) (hl : n < 100000) (_ha : a.under 2 = true) :
    ansF cfg 30 [.ptr 0 0] [.var 51 [a, .osl 1 (n + 1)], .sl ⟨false, some 5⟩ 1 (s.map ofByte)] = some (.str s, [.var 51 [a, .osl 1 (n + 1)], .sl ⟨false, none⟩ 1 (s.map ofByte)]) := by
  refine ans_of_wp fn30 low30 ?_
  simp (disch := omega) [-List.map_replicate, -List.map_set, -List.getD_eq_getElem?_getD, -getElem?_pos, -getElem?_neg, le_sliceLim, ir30, hn, bytesN_ofByte, Cfg.descOf]

/-! ### Hex -/

def hexN (d : Str) (n : Nat) : Str := (List.range n).flatMap fun i => [dgt ((d.getD i 0).toNat / 16), dgt ((d.getD i 0).toNat % 16)]
theorem hexN_succ (d : Str) (n : Nat) : hexN d (n + 1) = hexN d n ++ [dgt ((d.getD n 0).toNat / 16)] ++ [dgt ((d.getD n 0).toNat % 16)] := by
  simp [hexN, List.range_succ]
theorem hexN_length (d : Str) (n : Nat) : (hexN d n).length = 2 * n := by
  induction n with
  | zero => rfl
  | succ n ih => rw [hexN_succ]; simp [ih]; omega
def hexA (d : Str) : AV := if d.length = 32 then .tup [.str (hexN d 32), .int .i64 0] else .tup [.str [], .int .i64 1]

theorem get_digs {n : Nat} (h : n < 16) : digs[n]? = some (dgt n) := get_str (d := digs) (by rw [digs_length]; exact h)
theorem byte_hi (ty : TypeId) (x : UInt8) : binA cfg ty .shr (ofByte x) (.int .u64 4) = some (.int .u8 ((x.toNat / 16 : Nat) : Int)) := by
  simp only [ofByte, binA, shiftOp]
  rw [if_neg (by omega)]
  have h : (2 : Int) ^ min (Int.toNat 4) IntKind.u8.bits = 16 := by decide
  rw [h, Int.fdiv_eq_ediv_of_nonneg _ (by omega)]
  rfl
theorem byte_lo (ty : TypeId) (x : UInt8) : binA cfg ty .and (ofByte x) (.int .u8 15) = some (.int .u8 ((x.toNat % 16 : Nat) : Int)) := by
  have h : ∀ x : UInt8, binA cfg 0 .and (ofByte x) (.int .u8 15) = some (.int .u8 ((x.toNat % 16 : Nat) : Int)) := by
    intro x
    simp only [ofByte, binA, intOp]
    simp only [if_true]
    congr 2
    have h1 : BitVec.ofInt 8 (x.toNat : Int) = x.toBitVec := by
      apply BitVec.eq_of_toNat_eq
      simp
    have h2 : BitVec.ofInt 8 (15 : Int) = 15#8 := by decide
    have h3 : (x.toBitVec &&& 15#8).toNat = x.toNat % 16 := by
      rw [BitVec.toNat_and]
      exact Nat.and_two_pow_sub_one_eq_mod (n := 4) x.toNat
    show IntKind.u8.wrap ((BitVec.ofInt 8 (x.toNat : Int) &&& BitVec.ofInt 8 15).toNat : Int) = _
    rw [h1, h2, h3, wrap_u8 (by omega) (by omega)]
  exact h x

theorem ansHexP (d : Str) : ansF cfg 15 [.str d] [] = some (hexA d, []) := by
  refine ans_of_wp fn15 low15 ?_
  by_cases h : d.length = 32
  · have hI : (d.length : Int) = 32 := by omega
    simp (disch := omega) [-List.map_replicate, -List.map_set, -List.getD_eq_getElem?_getD, -getElem?_pos, -getElem?_neg, ir15, hexA, h]
    refine Wp.loopM (fun i => 32 - i) (fun (i : Nat) => [some (.str d), none, none, some (.ptr 0 0), none, none, some (.int .i64 32), some (.int .i64 i), none, none])
      (fun i => [.var 51 [if i = 0 then .nilp else .ptr 0 0, .osl 1 (2 * i)], .sl ⟨false, some 5⟩ 1 ((hexN d i).map ofByte)]) (fun i => i ≤ 32) ?_ 0 (by omega) (by simp) (by simp [hexN])
    intro i hi
    have hl := hexN_length d i
    by_cases h1 : i < 32
    · have h1I : (i : Int) < 32 := by omega
      have hg := get_str (d := d) (i := i) (by omega)
      have hx := (d.getD i 0).toNat_lt
      have w1 := ansWriteByte (if i = 0 then .nilp else .ptr 0 0) (by by_cases h : i = 0 <;> simp [h]) ((hexN d i).map ofByte) (2 * i) (by simpa using hl) (by omega) (dgt ((d.getD i 0).toNat / 16))
      have w2 := ansWriteByte (.ptr 0 0) (.inr rfl) ((hexN d i).map ofByte ++ [ofByte (dgt ((d.getD i 0).toNat / 16))]) (2 * i + 1) (by simpa using hl) (by omega) (dgt ((d.getD i 0).toNat % 16))
      simp (disch := omega) [-List.map_replicate, -List.map_set, -List.getD_eq_getElem?_getD, -getElem?_pos, -getElem?_neg, wrap_i64, h1I, hg, byte_fold, byte_hi, byte_lo, digs_eq, get_digs, w1, w2]
      exact ⟨i + 1, by omega, by omega, by omega, by omega, by simp [hexN_succ]⟩
    obtain rfl : i = 32 := by omega
    have hs := ansString (.ptr 0 0) (hexN d 32) 63 hl (by omega) rfl
    simp (disch := omega) [-List.map_replicate, -List.map_set, -List.getD_eq_getElem?_getD, -getElem?_pos, -getElem?_neg, hs]
  · have hI : ¬ (d.length : Int) = 32 := by omega
    simp (disch := omega) [-List.map_replicate, -List.map_set, -List.getD_eq_getElem?_getD, -getElem?_pos, -getElem?_neg, ir15, hexA, h, hI]

theorem byte_div (ty : TypeId) (x : UInt8) : binA cfg ty .quo (ofByte x) (.int .u8 16) = some (.int .u8 ((x.toNat / 16 : Nat) : Int)) := by
  have hx := x.toNat_lt
  simp only [ofByte, binA, intOp, if_true]
  rw [if_neg (by omega), tdiv_lit]
  have e : IntKind.u8.wrap ((x.toNat / 16 : Nat) : Int) = ((x.toNat / 16 : Nat) : Int) := wrap_u8 (by omega) (by omega)
  exact congrArg (fun n => some (AV.int .u8 n)) e
theorem byte_mod (ty : TypeId) (x : UInt8) : binA cfg ty .rem (ofByte x) (.int .u8 16) = some (.int .u8 ((x.toNat % 16 : Nat) : Int)) := by
  simp only [ofByte, binA, intOp, if_true]
  rw [if_neg (by omega), tmod_lit]

theorem take_digs {n : Nat} (h : n < 16) : (digs.take (n + 1)).drop n = [dgt n] := by
  have : ∀ n, n < 16 → (digs.take (n + 1)).drop n = [dgt n] := by decide +kernel
  exact this n h

theorem ansHexR (d : Str) : ansF cfg 16 [.str d] [] = some (hexA d, []) := by
  refine ans_of_wp fn16 low16 ?_
  by_cases h : d.length = 32
  · have hI : (d.length : Int) = 32 := by omega
    simp (disch := omega) [-List.map_replicate, -List.map_set, -List.getD_eq_getElem?_getD, -getElem?_pos, -getElem?_neg, ir16, hexA, h]
    refine Wp.loopM (fun i => 32 - i) (fun (i : Nat) => [some (.str d), none, none, some (.str (hexN d i)), some (.int .i64 i), none, none, none, none])
      (fun i => []) (fun i => i ≤ 32) ?_ 0 (by omega) (by simp [hexN]) (by simp)
    intro i hi
    have hl := hexN_length d i
    by_cases h1 : i < 32
    · have h1I : (i : Int) < 32 := by omega
      have hg := get_str (d := d) (i := i) (by omega)
      have hx := (d.getD i 0).toNat_lt
      generalize hy : d.getD i 0 = y at hg hx
      have e1 : IntKind.u8.wrap ((y.toNat : Int) / 16 + 1) = ((y.toNat / 16 + 1 : Nat) : Int) := by rw [wrap_u8 (by omega) (by omega)]; omega
      have e2 : IntKind.u8.wrap ((y.toNat : Int) % 16 + 1) = ((y.toNat % 16 + 1 : Nat) : Int) := by rw [wrap_u8 (by omega) (by omega)]; omega
      have f1 : ((y.toNat : Int) / 16 + 1).toNat = y.toNat / 16 + 1 := by omega
      have f2 : ((y.toNat : Int) % 16 + 1).toNat = y.toNat % 16 + 1 := by omega
      simp (disch := omega) [-List.map_replicate, -List.map_set, -List.getD_eq_getElem?_getD, -getElem?_pos, -getElem?_neg, wrap_i64, le_strLim, omLe, omLt, byte_fold, h, hg, byte_div, byte_mod, digs_eq, digs_length, take_digs, hl, e1, e2, f1, f2]
      exact ⟨i + 1, by omega, by omega, by rw [hexN_succ, hy]; simp, by omega⟩
    obtain rfl : i = 32 := by omega
    simp (disch := omega) [-List.map_replicate, -List.map_set, -List.getD_eq_getElem?_getD, -getElem?_pos, -getElem?_neg, h]
  · have hI : ¬ (d.length : Int) = 32 := by omega
    simp (disch := omega) [-List.map_replicate, -List.map_set, -List.getD_eq_getElem?_getD, -getElem?_pos, -getElem?_neg, ir16, hexA, h, hI]

/-! ### Parse -/

/-- the value of a digit, or -1 -/
def dig (c : UInt8) : Int := Lib.indexByte digs c
theorem dig_lt (c : UInt8) : -1 ≤ dig c ∧ dig c < 16 := by
  have h : ∀ n, n < 256 → -1 ≤ dig (UInt8.ofNat n) ∧ dig (UInt8.ofNat n) < 16 := by decide +kernel
  have := h c.toNat c.toNat_lt
  simpa using this
theorem ansIndexByte (c : UInt8) : ansF cfg 31 [.str digs, ofByte c] [] = some (.int .i64 (dig c), []) := by
  have h1 : indexG [.str digs, ofByte c] = some (.int .i64 (dig c)) := by
    simp [indexG, ofByte, dig]
  have h2 : ansF cfg 38 [.str digs, ofByte c] [] = some (.int .i64 (dig c), []) := by
    refine ans_of_wp fn38 low38 ?_
    simp (disch := omega) [-List.map_replicate, -List.map_set, -List.getD_eq_getElem?_getD, -getElem?_pos, -getElem?_neg, ir38, h1]
  refine ans_of_wp fn31 low31 ?_
  simp (disch := omega) [-List.map_replicate, -List.map_set, -List.getD_eq_getElem?_getD, -getElem?_pos, -getElem?_neg, ir31, h2]

theorem dig_eq (c : UInt8) : dig c = if 48 ≤ c.toNat ∧ c.toNat ≤ 57 then (c.toNat : Int) - 48 else if 97 ≤ c.toNat ∧ c.toNat ≤ 102 then (c.toNat : Int) - 87 else -1 := by
  have h : ∀ n, n < 256 → dig (UInt8.ofNat n) = if 48 ≤ (UInt8.ofNat n).toNat ∧ (UInt8.ofNat n).toNat ≤ 57 then ((UInt8.ofNat n).toNat : Int) - 48 else if 97 ≤ (UInt8.ofNat n).toNat ∧ (UInt8.ofNat n).toNat ≤ 102 then ((UInt8.ofNat n).toNat : Int) - 87 else -1 := by decide +kernel
  have := h c.toNat c.toNat_lt
  simpa using this

theorem ansDigit (c : UInt8) : ansF cfg 32 [ofByte c] [] = some (.int .i64 (dig c), []) := by
  refine ans_of_wp fn32 low32 ?_
  have hc := c.toNat_lt
  rw [dig_eq]
  simp only [ofByte]
  generalize c.toNat = n at hc
  by_cases h1 : 48 ≤ n ∧ n ≤ 57
  · have a1 : (48 : Int) ≤ n := by omega
    have a2 : (n : Int) ≤ 57 := by omega
    simp (disch := omega) [-List.map_replicate, -List.map_set, -List.getD_eq_getElem?_getD, -getElem?_pos, -getElem?_neg, wrap_i64, ir32, a1, a2, h1, wrap_u8]
  by_cases h2 : 97 ≤ n ∧ n ≤ 102
  · have a1 : (97 : Int) ≤ n := by omega
    have a2 : (n : Int) ≤ 102 := by omega
    have a3 : ¬ (n : Int) ≤ 57 := by omega
    have a4 : (48 : Int) ≤ n := by omega
    simp (disch := omega) [-List.map_replicate, -List.map_set, -List.getD_eq_getElem?_getD, -getElem?_pos, -getElem?_neg, wrap_i64, ir32, a1, a2, a3, a4, h1, h2, wrap_u8]
    omega
  simp (disch := omega) [-List.map_replicate, -List.map_set, -List.getD_eq_getElem?_getD, -getElem?_pos, -getElem?_neg, wrap_i64, ir32, h1, h2, wrap_u8]
  split <;> omega

def okAt (t : Str) (i : Nat) : Prop := 0 ≤ dig (t.getD (2 * i) 0) ∧ 0 ≤ dig (t.getD (2 * i + 1) 0)
instance (t : Str) (i : Nat) : Decidable (okAt t i) := inferInstanceAs (Decidable (_ ∧ _))
def byAt (t : Str) (i : Nat) : UInt8 := UInt8.ofNat (16 * (dig (t.getD (2 * i) 0)).toNat + (dig (t.getD (2 * i + 1) 0)).toNat)
def unN (t : Str) (n : Nat) : Str := (List.range n).map (byAt t)
theorem unN_succ (t : Str) (n : Nat) : unN t (n + 1) = unN t n ++ [byAt t n] := by simp [unN, List.range_succ]
theorem unN_length (t : Str) (n : Nat) : (unN t n).length = n := by simp [unN]
def allOk (t : Str) : Bool := (List.range 32).all fun i => decide (okAt t i)
theorem allOk_iff (t : Str) : allOk t = true ↔ ∀ i, i < 32 → okAt t i := by
  simp [allOk, List.all_eq_true, List.mem_range]
def parseA (t : Str) : AV := if t.length = 64 ∧ allOk t = true then .tup [.str (unN t 32), .int .i64 0] else .tup [.str [], .int .i64 3]

theorem bytes2 (a b : Int) (ha : 0 ≤ a ∧ a < 16) (hb : 0 ≤ b ∧ b < 16) : AV.int .u8 (IntKind.u8.wrap (IntKind.i64.wrap (((IntKind.i64.wrap (a * 2 ^ min 4 IntKind.i64.bits) % 2 ^ IntKind.i64.bits).toNat ||| (b % 2 ^ IntKind.i64.bits).toNat : Nat) : Int))) = ofByte (UInt8.ofNat (16 * a.toNat + b.toNat)) := by
  obtain ⟨n, rfl⟩ := Int.eq_ofNat_of_zero_le ha.1
  obtain ⟨m, rfl⟩ := Int.eq_ofNat_of_zero_le hb.1
  have h : ∀ n : Nat, n < 16 → ∀ m : Nat, m < 16 → (IntKind.u8.wrap (IntKind.i64.wrap (((IntKind.i64.wrap ((n : Int) * 2 ^ min 4 IntKind.i64.bits) % 2 ^ IntKind.i64.bits).toNat ||| ((m : Int) % 2 ^ IntKind.i64.bits).toNat : Nat) : Int))) = ((UInt8.ofNat (16 * n + m)).toNat : Int) := by decide +kernel
  simp only [ofByte, Int.toNat_natCast]
  rw [h n (by omega) m (by omega)]
theorem bytes3 (a b : Int) (ha : 0 ≤ a ∧ a < 16) (hb : 0 ≤ b ∧ b < 16) : AV.int .u8 (IntKind.u8.wrap (16 * a + b)) = ofByte (UInt8.ofNat (16 * a.toNat + b.toNat)) := by
  obtain ⟨n, rfl⟩ := Int.eq_ofNat_of_zero_le ha.1
  obtain ⟨m, rfl⟩ := Int.eq_ofNat_of_zero_le hb.1
  have h : ∀ n : Nat, n < 16 → ∀ m : Nat, m < 16 → (IntKind.u8.wrap (16 * (n : Int) + (m : Int))) = ((UInt8.ofNat (16 * n + m)).toNat : Int) := by decide +kernel
  simp only [ofByte, Int.toNat_natCast]
  rw [h n (by omega) m (by omega)]

theorem ansParseP (t : Str) : ansF cfg 17 [.str t] [] = some (parseA t, []) := by
  refine ans_of_wp fn17 low17 ?_
  by_cases h : t.length = 64
  · have hI : (t.length : Int) = 64 := by omega
    simp (disch := omega) [-List.map_replicate, -List.map_set, -List.getD_eq_getElem?_getD, -getElem?_pos, -getElem?_neg, ir17, h]
    refine Wp.loopM (fun i => 32 - i) (fun (i : Nat) => [some (.str t), none, none, some (.osl 0 i), some (.int .i64 (2 * (i : Int))), none, none, none, none, none, none, none, none, none])
      (fun i => [.sl ⟨false, some 5⟩ 1 ((unN t i).map ofByte)]) (fun i => i ≤ 32 ∧ ∀ j, j < i → okAt t j) ?_ 0 ⟨by omega, fun j hj => by omega⟩ (by simp) (by simp [unN])
    rintro i ⟨hi, hok⟩
    have hl := unN_length t i
    by_cases h1 : i < 32
    · have h1I : 2 * (i : Int) < 64 := by omega
      have e1 : (2 * (i : Int)).toNat = 2 * i := by omega
      have e2 : (2 * (i : Int) + 1).toNat = 2 * i + 1 := by omega
      have hg1 := get_str (d := t) (i := 2 * i) (by omega)
      have hg2 := get_str (d := t) (i := 2 * i + 1) (by omega)
      have d1 := dig_lt (t.getD (2 * i) 0)
      have d2 := dig_lt (t.getD (2 * i + 1) 0)
      by_cases h2 : okAt t i
      · have k1 : ¬ dig (t.getD (2 * i) 0) < 0 := by have := h2.1; omega
        have k2 : ¬ dig (t.getD (2 * i + 1) 0) < 0 := by have := h2.2; omega
        simp (disch := omega) [-List.map_replicate, -List.map_set, -List.getD_eq_getElem?_getD, -getElem?_pos, -getElem?_neg, wrap_i64, le_sliceLim, le_buildLim, omLe, omLt, omLtN, onLeN, onLtN, onEqN, byte_fold, h, e1, e2, hg1, hg2, digs_eq, ansIndexByte, k1, k2, hl]
        rw [bytes2 _ _ ⟨h2.1, d1.2⟩ ⟨h2.2, d2.2⟩]
        refine ⟨i + 1, ⟨by omega, fun j hj => ?_⟩, by omega, by omega, by rw [unN_succ]; simp [byAt]⟩
        by_cases hji : j = i
        · rw [hji]; exact h2
        · exact hok j (by omega)
      · have hp : parseA t = .tup [.str [], .int .i64 3] := by
          rw [parseA, if_neg]
          rintro ⟨_, hall⟩
          exact h2 ((allOk_iff t).1 hall i h1)
        by_cases k1 : dig (t.getD (2 * i) 0) < 0
        · simp (disch := omega) [-List.map_replicate, -List.map_set, -List.getD_eq_getElem?_getD, -getElem?_pos, -getElem?_neg, wrap_i64, le_sliceLim, le_buildLim, omLe, omLt, omLtN, onLeN, onLtN, onEq, onEqN, byte_fold, h, e1, e2, hg1, hg2, digs_eq, ansIndexByte, k1, hp]
        · have k2 : dig (t.getD (2 * i + 1) 0) < 0 := by
            unfold okAt at h2
            omega
          simp (disch := omega) [-List.map_replicate, -List.map_set, -List.getD_eq_getElem?_getD, -getElem?_pos, -getElem?_neg, wrap_i64, le_sliceLim, le_buildLim, omLe, omLt, omLtN, onLeN, onLtN, onEq, onEqN, byte_fold, h, e1, e2, hg1, hg2, digs_eq, ansIndexByte, k1, k2, hp]
    obtain rfl : i = 32 := by omega
    have hp : parseA t = .tup [.str (unN t 32), .int .i64 0] := by rw [parseA, if_pos ⟨h, (allOk_iff t).2 hok⟩]
    simp (disch := omega) [-List.map_replicate, -List.map_set, -List.getD_eq_getElem?_getD, -getElem?_pos, -getElem?_neg, wrap_i64, hl, h, hp, Cfg.descOf]
  · have hI : ¬ (t.length : Int) = 64 := by omega
    simp (disch := omega) [-List.map_replicate, -List.map_set, -List.getD_eq_getElem?_getD, -getElem?_pos, -getElem?_neg, ir17, parseA, h, hI]
theorem ansParseR (t : Str) : ansF cfg 18 [.str t] [] = some (parseA t, []) := by
  refine ans_of_wp fn18 low18 ?_
  by_cases h : t.length = 64
  · have hI : (t.length : Int) = 64 := by omega
    simp (disch := omega) [-List.map_replicate, -List.map_set, -List.getD_eq_getElem?_getD, -getElem?_pos, -getElem?_neg, le_buildLim, ir18, h]
    refine Wp.loopM (fun i => 32 - i) (fun (i : Nat) => [some (.str t), none, none, some (.osl 0 i), some (.int .i64 i), none, none, none, none, none, none, none, none, none, none])
      (fun i => [.sl ⟨false, some 5⟩ 1 ((unN t i).map ofByte)]) (fun i => i ≤ 32 ∧ ∀ j, j < i → okAt t j) ?_ 0 ⟨by omega, fun j hj => by omega⟩ (by simp) (by simp [unN])
    rintro i ⟨hi, hok⟩
    have hl := unN_length t i
    by_cases h1 : i < 32
    · have h1I : 2 * (i : Int) < 64 := by omega
      have e1 : (2 * (i : Int)).toNat = 2 * i := by omega
      have e2 : (2 * (i : Int) + 1).toNat = 2 * i + 1 := by omega
      have hg1 := get_str (d := t) (i := 2 * i) (by omega)
      have hg2 := get_str (d := t) (i := 2 * i + 1) (by omega)
      have d1 := dig_lt (t.getD (2 * i) 0)
      have d2 := dig_lt (t.getD (2 * i + 1) 0)
      by_cases h2 : okAt t i
      · have k1 : ¬ dig (t.getD (2 * i) 0) < 0 := by have := h2.1; omega
        have k2 : ¬ dig (t.getD (2 * i + 1) 0) < 0 := by have := h2.2; omega
        simp (disch := omega) [-List.map_replicate, -List.map_set, -List.getD_eq_getElem?_getD, -getElem?_pos, -getElem?_neg, wrap_i64, le_sliceLim, le_buildLim, omLe, omLt, onLeN, onLtN, onEqN, byte_fold, e1, e2, hg1, hg2, ansDigit, k1, k2, hl]
        rw [bytes3 _ _ ⟨h2.1, d1.2⟩ ⟨h2.2, d2.2⟩]
        refine ⟨i + 1, ⟨by omega, fun j hj => ?_⟩, by omega, by omega, by rw [unN_succ]; simp [byAt]⟩
        by_cases hji : j = i
        · rw [hji]; exact h2
        · exact hok j (by omega)
      · have hp : parseA t = .tup [.str [], .int .i64 3] := by
          rw [parseA, if_neg]
          rintro ⟨_, hall⟩
          exact h2 ((allOk_iff t).1 hall i h1)
        by_cases k1 : dig (t.getD (2 * i) 0) < 0
        · simp (disch := omega) [-List.map_replicate, -List.map_set, -List.getD_eq_getElem?_getD, -getElem?_pos, -getElem?_neg, wrap_i64, le_sliceLim, le_buildLim, omLe, omLt, onLeN, onLtN, onEq, onEqN, byte_fold, e1, e2, hg1, hg2, ansDigit, k1, hp]
        · have k2 : dig (t.getD (2 * i + 1) 0) < 0 := by
            unfold okAt at h2
            omega
          simp (disch := omega) [-List.map_replicate, -List.map_set, -List.getD_eq_getElem?_getD, -getElem?_pos, -getElem?_neg, wrap_i64, le_sliceLim, le_buildLim, omLe, omLt, onLeN, onLtN, onEq, onEqN, byte_fold, e1, e2, hg1, hg2, ansDigit, k1, k2, hp]
    obtain rfl : i = 32 := by omega
    have hp : parseA t = .tup [.str (unN t 32), .int .i64 0] := by rw [parseA, if_pos ⟨h, (allOk_iff t).2 hok⟩]
    simp (disch := omega) [-List.map_replicate, -List.map_set, -List.getD_eq_getElem?_getD, -getElem?_pos, -getElem?_neg, wrap_i64, hl, hp, Cfg.descOf]
  · have hI : ¬ (t.length : Int) = 64 := by omega
    simp (disch := omega) [-List.map_replicate, -List.map_set, -List.getD_eq_getElem?_getD, -getElem?_pos, -getElem?_neg, le_buildLim, ir18, parseA, h, hI]
end Go.Proofs.Ytfplnlmddcchjaa
