/-
  split and number of the reference. number of the reference. The event that the reference reads out of a text: plain laws. Decode of the reference.
-/
import Derived.Test.YtfhfnehoaiegcaaGreatDoorEncM
import Derived.Test.YtfhfnehoaiegcaaGreatDoorPlainM
import Derived.Test.YtfhfnehoaiegcaaGreatDoorDecM
set_option linter.all false
namespace Go.Proofs.YtfhfnehoaiegcaaGreatDoor
open Go.Am
set_option maxRecDepth 10000
set_option maxHeartbeats 8000000

theorem splitB_at {s : Str} {c : UInt8} {i f : Nat} (hi : i < s.length) (hf : f ≤ i) (hno : c ∉ (s.take i).drop f) (hc : s.getD i 0 = c) : splitB c (s.drop f) = (s.take i).drop f :: splitB c (s.drop (i + 1)) := by
  have h1 : s.getD i 0 = s[i] := by simp [List.getD_eq_getElem?_getD, List.getElem?_eq_getElem hi]
  have e : s.drop f = (s.take i).drop f ++ (c :: s.drop (i + 1)) := by
    conv => lhs; rw [← List.take_append_drop i s, List.drop_append_of_le_length (by simp; omega), List.drop_eq_getElem_cons hi, ← h1, hc]
  rw [e, splitB_app _ hno]
theorem not_mem_step {s : Str} {c : UInt8} {i f : Nat} (hi : i < s.length) (hf : f ≤ i) (hno : c ∉ (s.take i).drop f) (hc : s.getD i 0 ≠ c) : c ∉ (s.take (i + 1)).drop f := by
  have h1 : s.getD i 0 = s[i] := by simp [List.getD_eq_getElem?_getD, List.getElem?_eq_getElem hi]
  rw [take_succ hi, List.drop_append_of_le_length (by simp; omega)]
  intro h
  rcases List.mem_append.1 h with h | h
  · exact hno h
  · rw [List.mem_singleton] at h
    exact hc (by rw [h1, h])
/-- what the reference's split answers -/
def splA (s : Str) (c : UInt8) : AV := .tup [.lst none 1 (strsA (splitB c s).dropLast), .bool (decide ((splitB c s).getLastD [] = []))]
theorem ansSplitR (s : Str) (c : UInt8) (hs : s.length < 100000000) : ansF cfg 51 [.str s, .int .u8 c.toNat] [] = some (splA s c, []) := by
  refine ans_of_wp fn51 low51 ?_
  simp (config := { maxSteps := 1000000 }) (disch := omega) [-List.map_replicate, -List.map_set, -List.getD_eq_getElem?_getD, -getElem?_pos, -getElem?_neg, wrap_i64, le_strLim, le_sliceLim, le_buildLim, le_sliceLimI, Int.tmod_eq_emod_of_nonneg, Int.tdiv_eq_ediv_of_nonneg, omLe, omLeN, omLt, omLtN, omEq, omEqN, onLe, onLeN, onLt, onLtN, onEq, onEqN, ir51]
  refine Wp.loopM (fun (a : Nat × Nat × List Str) => s.length - a.1) (fun a => [some (.str s), some (.int .u8 c.toNat), none, none, some (.osl 0 a.2.2.length), some (.int .i64 a.2.1), some (.int .i64 a.1), none, none, none, none])
    (fun a => [.sl ⟨false, some 9⟩ 1 (strsA a.2.2)])
    (fun a => (a.1 ≤ s.length ∧ a.2.1 ≤ a.1 ∧ a.2.2.length ≤ a.1) ∧ c ∉ (s.take a.1).drop a.2.1 ∧ splitB c s = a.2.2 ++ splitB c (s.drop a.2.1)) ?_ (0, 0, []) ⟨⟨Nat.zero_le _, Nat.le_refl _, Nat.le_refl _⟩, by simp, by simp⟩ (by simp) (by simp [strsA])
  rintro ⟨i, f, out⟩ ⟨⟨hi, hf, ho⟩, hno, hsp⟩
  simp only at hi hf ho hno hsp ⊢
  by_cases k : i < s.length
  · have hg := get_str k
    have ha := fun h => splitB_at k hf hno h
    have hb := fun h => not_mem_step k hf hno h
    generalize s.getD i 0 = x at *
    have hi2 : i + 1 ≤ s.length := k
    by_cases hx : x = c
    · have hx' : ((x.toNat : Int) == (c.toNat : Int)) = true := by rw [hx]; simp
      rw [ha hx] at hsp
      simp (config := { maxSteps := 1000000 }) (disch := omega) [-List.map_replicate, -List.map_set, -List.getD_eq_getElem?_getD, -getElem?_pos, -getElem?_neg, wrap_i64, le_strLim, le_sliceLim, le_buildLim, le_sliceLimI, Int.tmod_eq_emod_of_nonneg, Int.tdiv_eq_ediv_of_nonneg, omLe, omLeN, omLt, omLtN, omEq, omEqN, onLe, onLeN, onLt, onLtN, onEq, onEqN, hg, hx', splice]
      refine ⟨i + 1, i + 1, out ++ [(s.take i).drop f], ⟨⟨hi2, Nat.le_refl _, by simp; omega⟩, ?_, ?_⟩, by omega, ⟨by simp, by omega, by omega⟩, by simp [strsA]⟩
      · rw [List.drop_eq_nil_of_le (by simp; omega)]; simp
      · rw [hsp]; simp
    · have hx' : ((x.toNat : Int) == (c.toNat : Int)) = false := by
        rw [beq_eq_false_iff_ne]
        intro h
        exact hx (UInt8.toNat_inj.1 (by omega))
      have hb2 := hb hx
      simp (config := { maxSteps := 1000000 }) (disch := omega) [-List.map_replicate, -List.map_set, -List.getD_eq_getElem?_getD, -getElem?_pos, -getElem?_neg, wrap_i64, le_strLim, le_sliceLim, le_buildLim, le_sliceLimI, Int.tmod_eq_emod_of_nonneg, Int.tdiv_eq_ediv_of_nonneg, omLe, omLeN, omLt, omLtN, omEq, omEqN, onLe, onLeN, onLt, onLtN, onEq, onEqN, hg, hx', splice]
      exact ⟨i + 1, f, out, ⟨⟨hi2, by omega, by omega⟩, hb2, hsp⟩, by omega, ⟨rfl, rfl, by omega⟩, rfl⟩
  · obtain rfl : i = s.length := by omega
    rw [List.take_length] at hno
    rw [splitB_no hno] at hsp
    have hd : decide (s.drop f = []) = ((f : Int) == (s.length : Int)) := by
      by_cases e : f = s.length
      · subst e; simp
      · have h1 : ((f : Int) == (s.length : Int)) = false := by rw [beq_eq_false_iff_ne]; omega
        rw [h1]
        refine decide_eq_false fun h => ?_
        rw [List.drop_eq_nil_iff] at h
        omega
    unfold splA
    rw [hsp, List.dropLast_concat]
    simp only [List.getLastD_concat, hd]
    simp (config := { maxSteps := 1000000 }) (disch := omega) [-List.map_replicate, -List.map_set, -List.getD_eq_getElem?_getD, -getElem?_pos, -getElem?_neg, wrap_i64, le_strLim, le_sliceLim, le_buildLim, le_sliceLimI, Int.tmod_eq_emod_of_nonneg, Int.tdiv_eq_ediv_of_nonneg, omLe, omLeN, omLt, omLtN, omEq, omEqN, onLe, onLeN, onLt, onLtN, onEq, onEqN, splice]

/-! ### number -/

/-- a numeral's value, not beyond 2 ^ 40 -/
def valL : Str → Nat → Option Nat
  | [], n => some n
  | c :: r, n => if c.toNat < 48 ∨ 57 < c.toNat then none else if 1099511627776 < 10 * n + (c.toNat - 48) then none else valL r (10 * n + (c.toNat - 48))
def digsR (s : Str) : Str := if s.head? = some 45 then s.tail else s
def numR (s : Str) : Int × Bool := match valL (digsR s) 0 with
  | none => (0, false)
  | some n => ((if s.head? = some 45 then -(n : Int) else n), Lib.itoa (if s.head? = some 45 then -(n : Int) else n) == s)
theorem valL_dec : ∀ (u acc : Nat) (r : Str), acc * 10 ^ Lib.nDigits u + u ≤ 1099511627776 → valL (Lib.decDigits u ++ r) acc = valL r (acc * 10 ^ Lib.nDigits u + u) := by
  intro u
  induction u using Nat.strongRecOn with
  | _ u ih =>
    intro acc r hlt
    by_cases h : u < 10
    · rw [Lib.decDigits_one h, Lib.nDigits_small h] at *
      simp only [Nat.pow_one, List.singleton_append] at *
      have e := dig_nat h
      simp only [valL, e]
      rw [if_neg (by omega), if_neg (by omega)]
      congr 1
      omega
    · rw [dec_big h, Lib.nDigits_big h, List.append_assoc] at *
      have e : acc * 10 ^ (Lib.nDigits (u / 10) + 1) + u = (acc * 10 ^ Lib.nDigits (u / 10) + u / 10) * 10 + u % 10 := by
        rw [Nat.pow_succ, ← Nat.mul_assoc, Nat.add_mul]
        omega
      rw [e] at hlt ⊢
      rw [ih (u / 10) (by omega) acc _ (by omega), List.singleton_append]
      have e := dig_nat (d := u % 10) (by omega)
      generalize acc * 10 ^ Lib.nDigits (u / 10) + u / 10 = q at *
      simp only [valL, e]
      rw [if_neg (by omega), if_neg (by omega)]
      congr 1
      omega
theorem valL_le : ∀ (s : Str) (n : Nat) {m : Nat}, n ≤ 1099511627776 → valL s n = some m → m ≤ 1099511627776
  | [], n, m, hn, h => by cases h; exact hn
  | c :: r, n, m, hn, h => by
    simp only [valL] at h
    split at h
    · cases h
    · split at h
      · cases h
      · exact valL_le r _ (by omega) h
theorem numR_itoa {w : Int} (h : -1099511627776 ≤ w ∧ w ≤ 1099511627776) : numR (Lib.itoa w) = (w, true) := by
  have key : ∀ u : Nat, u ≤ 1099511627776 → valL (Lib.decDigits u) 0 = some u := fun u hu => by
    have := valL_dec u 0 [] (by omega)
    rw [List.append_nil] at this
    rw [this]
    simp [valL]
  unfold numR digsR
  by_cases hw : w < 0
  · have e : Lib.itoa w = 45 :: Lib.decDigits w.natAbs := by unfold Lib.itoa; rw [if_pos hw]
    have h2 : -((w.natAbs : Nat) : Int) = w := by omega
    rw [e]
    simp only [List.head?_cons, List.tail_cons, if_true, key w.natAbs (by omega), h2, e]
    simp
  · have e : Lib.itoa w = Lib.decDigits w.toNat := by unfold Lib.itoa; rw [if_neg hw]
    have h2 : ((w.toNat : Nat) : Int) = w := by omega
    have h3 : ¬ (Lib.decDigits w.toNat).head? = some 45 := by
      intro h
      have hm : (45 : UInt8) ∈ Lib.decDigits w.toNat := List.mem_of_head? h
      have := dec_digits w.toNat 45 hm
      simp at this
    rw [e]
    simp only [h3, if_false, key w.toNat (by omega), h2, e]
    simp
theorem numR_range (s : Str) : -1099511627776 ≤ (numR s).1 ∧ (numR s).1 ≤ 1099511627776 := by
  unfold numR
  split
  · simp
  · rename_i n hn
    have := valL_le (digsR s) 0 (by omega) hn
    simp only
    split <;> omega
end Go.Proofs.YtfhfnehoaiegcaaGreatDoor

namespace Go.Proofs.YtfhfnehoaiegcaaGreatDoor
open Go.Am
set_option maxRecDepth 10000
set_option maxHeartbeats 8000000

theorem valL_nil (n : Nat) : valL [] n = some n := rfl
theorem valL_bad {D : Str} {i n : Nat} (hi : i < D.length) (h : (D.getD i 0).toNat < 48 ∨ 57 < (D.getD i 0).toNat) : valL (D.drop i) n = none := by
  have h1 : D.getD i 0 = D[i] := by simp [List.getD_eq_getElem?_getD, List.getElem?_eq_getElem hi]
  rw [List.drop_eq_getElem_cons hi, ← h1]
  simp only [valL, if_pos h]
theorem valL_far {D : Str} {i n : Nat} (hi : i < D.length) (h : 1099511627776 < 10 * n + ((D.getD i 0).toNat - 48)) : valL (D.drop i) n = none := by
  have h1 : D.getD i 0 = D[i] := by simp [List.getD_eq_getElem?_getD, List.getElem?_eq_getElem hi]
  rw [List.drop_eq_getElem_cons hi, ← h1]
  simp only [valL]
  split
  · rfl
  · rfl
theorem valL_go {D : Str} {i n : Nat} (hi : i < D.length) (h1 : 48 ≤ (D.getD i 0).toNat) (h2 : (D.getD i 0).toNat ≤ 57) (h : 10 * n + ((D.getD i 0).toNat - 48) ≤ 1099511627776) : valL (D.drop i) n = valL (D.drop (i + 1)) (10 * n + ((D.getD i 0).toNat - 48)) := by
  have e : D.getD i 0 = D[i] := by simp [List.getD_eq_getElem?_getD, List.getElem?_eq_getElem hi]
  rw [List.drop_eq_getElem_cons hi, ← e]
  simp only [valL]
  rw [if_neg (by omega), if_neg (by omega)]
theorem numR_none {s : Str} (h : valL (digsR s) 0 = none) : numR s = (0, false) := by unfold numR; rw [h]
theorem numR_neg {s : Str} {n : Nat} (h : valL (digsR s) 0 = some n) (hs : s.head? = some 45) : numR s = (-(n : Int), Lib.itoa (-(n : Int)) == s) := by unfold numR; rw [h]; simp [hs]
theorem numR_pos {s : Str} {n : Nat} (h : valL (digsR s) 0 = some n) (hs : ¬ s.head? = some 45) : numR s = ((n : Int), Lib.itoa (n : Int) == s) := by unfold numR; rw [h]; simp [hs]
theorem digit_u8 {a : Nat} (h1 : 48 ≤ a) (h2 : a ≤ 57) : IntKind.u8.wrap ((a : Int) - 48) = ((a - 48 : Nat) : Int) := by rw [wrap_u8 (by omega) (by omega)]; omega
theorem digit_i64 {a : Nat} (h2 : a ≤ 57) : IntKind.i64.wrap ((a - 48 : Nat) : Int) = ((a - 48 : Nat) : Int) := wrap_i64 (by omega) (by omega)

theorem ansNumR (s : Str) (hs : s.length < 100000000) : ansF cfg 52 [.str s] [] = some (.tup [.int .i64 (numR s).1, .bool (numR s).2], []) := by
  refine ans_of_wp fn52 low52 ?_
  have hDl : (digsR s).length ≤ s.length := by unfold digsR; split <;> simp
  have hC : (s = [] ∧ digsR s = s ∧ ¬ s.head? = some 45) ∨ (0 < s.length ∧ digsR s = s ∧ ¬ s.head? = some 45 ∧ ((((s.getD 0 0).toNat : Int) == 45) = false)) ∨ (0 < s.length ∧ digsR s = s.tail ∧ s.head? = some 45 ∧ ((((s.getD 0 0).toNat : Int) == 45) = true) ∧ (s.tail == s) = false ∧ (s.tail != s) = true) := by
    cases s with
    | nil => exact .inl ⟨rfl, rfl, by simp⟩
    | cons x r =>
      by_cases hx : x = 45
      · subst hx
        refine .inr (.inr ⟨by simp, rfl, rfl, rfl, ?_⟩)
        have : (r == 45 :: r) = false := by
          rw [beq_eq_false_iff_ne]
          intro e
          have := congrArg List.length e
          simp at this
        exact ⟨this, by show (!(r == 45 :: r)) = true; rw [this]; rfl⟩
      · refine .inr (.inl ⟨by simp, by simp [digsR, hx], by simp [hx], ?_⟩)
        rw [beq_eq_false_iff_ne]
        intro h
        simp only [List.getD_cons_zero] at h
        exact hx (UInt8.toNat_inj.1 (by show x.toNat = 45; omega))
  have hsl : (s.take s.length).drop 1 = s.tail := by simp
  rcases hC with ⟨h0, hD, hh⟩ | ⟨h0, hD, hh, h45⟩ | ⟨h0, hD, hh, h45, hne, hne'⟩
  · subst h0
    simp (config := { maxSteps := 1000000 }) (disch := omega) [-List.map_replicate, -List.map_set, -List.getD_eq_getElem?_getD, -getElem?_pos, -getElem?_neg, wrap_i64, le_strLim, le_sliceLim, le_buildLim, le_sliceLimI, Int.tmod_eq_emod_of_nonneg, Int.tdiv_eq_ediv_of_nonneg, omLe, omLeN, omLt, omLtN, omEq, omEqN, onLe, onLeN, onLt, onLtN, onEq, onEqN, ir52]
    refine Wp.loopM (fun (a : Nat × Nat) => 0) (fun a => [some (.str []), none, none, some (.str []), some (.int .i64 0), some (.int .i64 0), none, none, none, none, none, none]) (fun a => []) (fun a => True) ?_ (0, 0) trivial (by simp) (by simp)
    rintro ⟨n, i⟩ _
    rw [numR_pos (n := 0) rfl hh]
    simp (config := { maxSteps := 1000000 }) (disch := omega) [-List.map_replicate, -List.map_set, -List.getD_eq_getElem?_getD, -getElem?_pos, -getElem?_neg, wrap_i64, le_strLim, le_sliceLim, le_buildLim, le_sliceLimI, Int.tmod_eq_emod_of_nonneg, Int.tdiv_eq_ediv_of_nonneg, omLe, omLeN, omLt, omLtN, omEq, omEqN, onLe, onLeN, onLt, onLtN, onEq, onEqN, itoaG, splice]
  · have g0 := get_str h0
    have hne : s ≠ [] := by intro e; rw [e] at h0; simp at h0
    generalize s.getD 0 0 = x0 at *
    simp (config := { maxSteps := 1000000 }) (disch := omega) [-List.map_replicate, -List.map_set, -List.getD_eq_getElem?_getD, -getElem?_pos, -getElem?_neg, wrap_i64, le_strLim, le_sliceLim, le_buildLim, le_sliceLimI, Int.tmod_eq_emod_of_nonneg, Int.tdiv_eq_ediv_of_nonneg, omLe, omLeN, omLt, omLtN, omEq, omEqN, onLe, onLeN, onLt, onLtN, onEq, onEqN, ir52, g0, h45, hne]
    refine Wp.loopM (fun (a : Nat × Nat) => s.length - a.2) (fun a => [some (.str s), none, none, some (.str s), some (.int .i64 a.1), some (.int .i64 a.2), none, none, none, none, none, none]) (fun a => []) (fun a => a.2 ≤ s.length ∧ a.1 ≤ 1099511627776 ∧ valL (digsR s) 0 = valL (s.drop a.2) a.1) ?_ (0, 0) ⟨by simp, by simp, by simp [hD]⟩ (by simp) (by simp)
    rintro ⟨n, i⟩ ⟨hi, hn, hv⟩
    simp only at hi hn hv ⊢
    by_cases k : i < s.length
    · have hg := get_str k
      have b1 := valL_bad (n := n) k
      have b2 := valL_far (n := n) k
      have b3 := valL_go (n := n) k
      generalize s.getD i 0 = x at *
      have hx := x.toNat_lt
      by_cases q1 : x.toNat < 48 ∨ 57 < x.toNat
      · rw [numR_none (hv.trans (b1 q1))]
        clear b1 b2 b3 hv
        by_cases q2 : x.toNat < 48
        · simp (config := { maxSteps := 1000000 }) (disch := omega) [-List.map_replicate, -List.map_set, -List.getD_eq_getElem?_getD, -getElem?_pos, -getElem?_neg, wrap_i64, le_strLim, le_sliceLim, le_buildLim, le_sliceLimI, Int.tmod_eq_emod_of_nonneg, Int.tdiv_eq_ediv_of_nonneg, omLe, omLeN, omLt, omLtN, omEq, omEqN, onLe, onLeN, onLt, onLtN, onEq, onEqN, hg, splice]
        · simp (config := { maxSteps := 1000000 }) (disch := omega) [-List.map_replicate, -List.map_set, -List.getD_eq_getElem?_getD, -getElem?_pos, -getElem?_neg, wrap_i64, le_strLim, le_sliceLim, le_buildLim, le_sliceLimI, Int.tmod_eq_emod_of_nonneg, Int.tdiv_eq_ediv_of_nonneg, omLe, omLeN, omLt, omLtN, omEq, omEqN, onLe, onLeN, onLt, onLtN, onEq, onEqN, hg, splice]
      · have d1 := digit_u8 (a := x.toNat) (by omega) (by omega)
        have d2 := digit_i64 (a := x.toNat) (by omega)
        by_cases q3 : 1099511627776 < 10 * n + (x.toNat - 48)
        · rw [numR_none (hv.trans (b2 q3))]
          clear b1 b2 b3 hv
          simp (config := { maxSteps := 1000000 }) (disch := omega) [-List.map_replicate, -List.map_set, -List.getD_eq_getElem?_getD, -getElem?_pos, -getElem?_neg, wrap_i64, le_strLim, le_sliceLim, le_buildLim, le_sliceLimI, Int.tmod_eq_emod_of_nonneg, Int.tdiv_eq_ediv_of_nonneg, omLe, omLeN, omLt, omLtN, omEq, omEqN, onLe, onLeN, onLt, onLtN, onEq, onEqN, hg, d1, d2, splice]
        · have hv' := hv.trans (b3 (by omega) (by omega) (by omega))
          clear b1 b2 b3 hv
          simp (config := { maxSteps := 1000000 }) (disch := omega) [-List.map_replicate, -List.map_set, -List.getD_eq_getElem?_getD, -getElem?_pos, -getElem?_neg, wrap_i64, le_strLim, le_sliceLim, le_buildLim, le_sliceLimI, Int.tmod_eq_emod_of_nonneg, Int.tdiv_eq_ediv_of_nonneg, omLe, omLeN, omLt, omLtN, omEq, omEqN, onLe, onLeN, onLt, onLtN, onEq, onEqN, hg, d1, d2, splice]
          exact ⟨10 * n + (x.toNat - 48), i + 1, ⟨k, by omega, hv'⟩, by omega, by omega, by omega⟩
    · obtain rfl : i = s.length := by omega
      rw [List.drop_length, valL_nil] at hv
      rw [numR_pos hv hh]
      simp (config := { maxSteps := 1000000 }) (disch := omega) [-List.map_replicate, -List.map_set, -List.getD_eq_getElem?_getD, -getElem?_pos, -getElem?_neg, wrap_i64, le_strLim, le_sliceLim, le_buildLim, le_sliceLimI, Int.tmod_eq_emod_of_nonneg, Int.tdiv_eq_ediv_of_nonneg, omLe, omLeN, omLt, omLtN, omEq, omEqN, onLe, onLeN, onLt, onLtN, onEq, onEqN, itoaG, splice]
  · have g0 := get_str h0
    have hne2 : s ≠ [] := by intro e; rw [e] at h0; simp at h0
    generalize s.getD 0 0 = x0 at *
    have hDl2 : s.tail.length ≤ s.length := by simp
    rw [hD] at hDl
    simp (config := { maxSteps := 1000000 }) (disch := omega) [-List.map_replicate, -List.map_set, -List.getD_eq_getElem?_getD, -getElem?_pos, -getElem?_neg, wrap_i64, le_strLim, le_sliceLim, le_buildLim, le_sliceLimI, Int.tmod_eq_emod_of_nonneg, Int.tdiv_eq_ediv_of_nonneg, omLe, omLeN, omLt, omLtN, omEq, omEqN, onLe, onLeN, onLt, onLtN, onEq, onEqN, ir52, g0, h45, hne2, hsl]
    generalize hT : s.tail = D at *
    refine Wp.loopM (fun (a : Nat × Nat) => D.length - a.2) (fun a => [some (.str s), none, none, some (.str D), some (.int .i64 a.1), some (.int .i64 a.2), none, none, none, none, none, none]) (fun a => []) (fun a => a.2 ≤ D.length ∧ a.1 ≤ 1099511627776 ∧ valL (digsR s) 0 = valL (D.drop a.2) a.1) ?_ (0, 0) ⟨by simp, by simp, by simp [hD]⟩ (by simp) (by simp)
    rintro ⟨n, i⟩ ⟨hi, hn, hv⟩
    simp only at hi hn hv ⊢
    by_cases k : i < D.length
    · have hg := get_str k
      have b1 := valL_bad (n := n) k
      have b2 := valL_far (n := n) k
      have b3 := valL_go (n := n) k
      generalize D.getD i 0 = x at *
      have hx := x.toNat_lt
      by_cases q1 : x.toNat < 48 ∨ 57 < x.toNat
      · rw [numR_none (hv.trans (b1 q1))]
        clear b1 b2 b3 hv
        by_cases q2 : x.toNat < 48
        · simp (config := { maxSteps := 1000000 }) (disch := omega) [-List.map_replicate, -List.map_set, -List.getD_eq_getElem?_getD, -getElem?_pos, -getElem?_neg, wrap_i64, le_strLim, le_sliceLim, le_buildLim, le_sliceLimI, Int.tmod_eq_emod_of_nonneg, Int.tdiv_eq_ediv_of_nonneg, omLe, omLeN, omLt, omLtN, omEq, omEqN, onLe, onLeN, onLt, onLtN, onEq, onEqN, hg, splice]
        · simp (config := { maxSteps := 1000000 }) (disch := omega) [-List.map_replicate, -List.map_set, -List.getD_eq_getElem?_getD, -getElem?_pos, -getElem?_neg, wrap_i64, le_strLim, le_sliceLim, le_buildLim, le_sliceLimI, Int.tmod_eq_emod_of_nonneg, Int.tdiv_eq_ediv_of_nonneg, omLe, omLeN, omLt, omLtN, omEq, omEqN, onLe, onLeN, onLt, onLtN, onEq, onEqN, hg, splice]
      · have d1 := digit_u8 (a := x.toNat) (by omega) (by omega)
        have d2 := digit_i64 (a := x.toNat) (by omega)
        by_cases q3 : 1099511627776 < 10 * n + (x.toNat - 48)
        · rw [numR_none (hv.trans (b2 q3))]
          clear b1 b2 b3 hv
          simp (config := { maxSteps := 1000000 }) (disch := omega) [-List.map_replicate, -List.map_set, -List.getD_eq_getElem?_getD, -getElem?_pos, -getElem?_neg, wrap_i64, le_strLim, le_sliceLim, le_buildLim, le_sliceLimI, Int.tmod_eq_emod_of_nonneg, Int.tdiv_eq_ediv_of_nonneg, omLe, omLeN, omLt, omLtN, omEq, omEqN, onLe, onLeN, onLt, onLtN, onEq, onEqN, hg, d1, d2, splice]
        · have hv' := hv.trans (b3 (by omega) (by omega) (by omega))
          clear b1 b2 b3 hv
          simp (config := { maxSteps := 1000000 }) (disch := omega) [-List.map_replicate, -List.map_set, -List.getD_eq_getElem?_getD, -getElem?_pos, -getElem?_neg, wrap_i64, le_strLim, le_sliceLim, le_buildLim, le_sliceLimI, Int.tmod_eq_emod_of_nonneg, Int.tdiv_eq_ediv_of_nonneg, omLe, omLeN, omLt, omLtN, omEq, omEqN, onLe, onLeN, onLt, onLtN, onEq, onEqN, hg, d1, d2, splice]
          exact ⟨10 * n + (x.toNat - 48), i + 1, ⟨k, by omega, hv'⟩, by omega, by omega, by omega⟩
    · obtain rfl : i = D.length := by omega
      rw [List.drop_length, valL_nil] at hv
      rw [numR_neg hv hh]
      simp (config := { maxSteps := 1000000 }) (disch := omega) [-List.map_replicate, -List.map_set, -List.getD_eq_getElem?_getD, -getElem?_pos, -getElem?_neg, wrap_i64, le_strLim, le_sliceLim, le_buildLim, le_sliceLimI, Int.tmod_eq_emod_of_nonneg, Int.tdiv_eq_ediv_of_nonneg, omLe, omLeN, omLt, omLtN, omEq, omEqN, onLe, onLeN, onLt, onLtN, onEq, onEqN, itoaG, hne, hne', splice]
end Go.Proofs.YtfhfnehoaiegcaaGreatDoor

namespace Go.Proofs.YtfhfnehoaiegcaaGreatDoor
open Go.Am
set_option maxRecDepth 10000
set_option maxHeartbeats 4000000

theorem splitB_snoc (c : UInt8) : ∀ s : Str, splitB c (s ++ [c]) = splitB c s ++ [[]]
  | [] => by simp [splitB]
  | x :: s => by
    have ih := splitB_snoc c s
    simp only [List.cons_append, splitB, ih]
    split
    · rfl
    · cases h : splitB c s with
      | nil => exact absurd h (splitB_ne c s)
      | cons p r => rfl
/-- the number that a word spells, if it does -/
def numO (s : Str) : Option Int := if (numR s).2 = true then some (numR s).1 else none
/-- the event that a text's lines and words spell -/
def candR (text : Str) : Option EvC :=
  if 65536 < text.length ∨ (splitB 10 text).getLastD [] ≠ [] ∨ (splitB 10 text).dropLast = [] then none
  else match optL numO (splitB 32 ((splitB 10 text).dropLast.headD [])) with
    | none => none
    | some ns => if ns.length < 3 then none else match optL unesc ((splitB 10 text).dropLast.drop 1) with
      | none => none
      | some ts => some (mkC ns ts)
theorem candR_enc {c : EvC} (h : encE c = 0) : candR (encT c) = some c := by
  obtain ⟨h1, _, _, _, h5⟩ := enc_fine h
  unfold candR
  have e : splitB 10 (encT c) = (Lib.join (c.ns.map Lib.itoa) [32] :: c.texts.map esc) ++ [[]] := split_encT c
  rw [e, List.dropLast_concat, List.getLastD_concat, if_neg (by simp; omega)]
  simp only [List.headD_cons, List.drop_succ_cons, List.drop_zero]
  rw [split_lineS _ (by simp [EvC.ns]), optL_map (fun n hn => by unfold numO; rw [numR_itoa (h1 n hn)]; rfl)]
  have h3 : ¬ c.ns.length < 3 := by simp only [EvC.ns, List.length_cons]; omega
  simp only
  rw [if_neg h3, optL_map (fun t _ => unesc_of_esc t)]
  rfl
theorem dec_candR (text : Str) : dec text = checkC text (candR text) := dec_of_cand (fun _ h1 h2 => h2 ▸ candR_enc h1)
theorem decA_none {text : Str} (h : candR text = none) : decA text = .tup [.agg zeroC, .int .i64 13] := by
  unfold decA
  rw [dec_candR, h]
  rfl
theorem candR_long {text : Str} (h : 65536 < text.length) : candR text = none := by unfold candR; rw [if_pos (.inl h)]
theorem candR_open {text : Str} (h : (splitB 10 text).getLastD [] ≠ []) : candR text = none := by unfold candR; rw [if_pos (.inr (.inl h))]
theorem candR_empty {text : Str} (h : (splitB 10 text).dropLast = []) : candR text = none := by unfold candR; rw [if_pos (.inr (.inr h))]
theorem candR_cons {text l0 : Str} {ls : List Str} (h1 : text.length ≤ 65536) (h2 : (splitB 10 text).getLastD [] = []) (h3 : (splitB 10 text).dropLast = l0 :: ls) : candR text = match optL numO (splitB 32 l0) with
    | none => none
    | some ns => if ns.length < 3 then none else match optL unesc ls with
      | none => none
      | some ts => some (mkC ns ts) := by
  unfold candR
  rw [h3, if_neg (by rintro (h | h | h); exact absurd h (by omega); exact h h2; cases h)]
  rfl
theorem candR_word {text l0 w : Str} {ls : List Str} (h1 : text.length ≤ 65536) (h2 : (splitB 10 text).getLastD [] = []) (h3 : (splitB 10 text).dropLast = l0 :: ls) (hw : w ∈ splitB 32 l0) (h : numO w = none) : candR text = none := by
  rw [candR_cons h1 h2 h3, optL_none hw h]
theorem candR_few {text l0 : Str} {ls : List Str} {ns : List Int} (h1 : text.length ≤ 65536) (h2 : (splitB 10 text).getLastD [] = []) (h3 : (splitB 10 text).dropLast = l0 :: ls) (hn : optL numO (splitB 32 l0) = some ns) (h : ns.length < 3) : candR text = none := by
  rw [candR_cons h1 h2 h3, hn]
  simp only
  rw [if_pos h]
theorem candR_line {text l0 t : Str} {ls : List Str} {ns : List Int} (h1 : text.length ≤ 65536) (h2 : (splitB 10 text).getLastD [] = []) (h3 : (splitB 10 text).dropLast = l0 :: ls) (hn : optL numO (splitB 32 l0) = some ns) (ht : t ∈ ls) (h : unesc t = none) : candR text = none := by
  rw [candR_cons h1 h2 h3, hn]
  simp only
  split
  · rfl
  · rw [optL_none ht h]
theorem candR_some {text l0 : Str} {ls ts : List Str} {ns : List Int} (h1 : text.length ≤ 65536) (h2 : (splitB 10 text).getLastD [] = []) (h3 : (splitB 10 text).dropLast = l0 :: ls) (hn : optL numO (splitB 32 l0) = some ns) (h : 3 ≤ ns.length) (ht : optL unesc ls = some ts) : candR text = some (mkC ns ts) := by
  rw [candR_cons h1 h2 h3, hn]
  simp only
  rw [if_neg (by omega), ht]
end Go.Proofs.YtfhfnehoaiegcaaGreatDoor

namespace Go.Proofs.YtfhfnehoaiegcaaGreatDoor
open Go.Am
set_option maxRecDepth 10000
set_option maxHeartbeats 8000000

theorem optL_all {α β : Type} {f : α → Option β} {l : List α} {r : List β} {n : Nat} (h : optL f (l.take n) = some r) (hn : n = l.length) : optL f l = some r := by
  subst hn
  rwa [List.take_length] at h

theorem three {α : Type} : ∀ {l : List α}, ¬ l.length < 3 → ∃ a b c r, l = a :: b :: c :: r
  | [], h => absurd (by simp) h
  | [_], h => absurd (by simp) h
  | [_, _], h => absurd (by simp) h
  | a :: b :: c :: r, _ => ⟨a, b, c, r, rfl⟩
theorem ansDecR (text : Str) (hl : text.length < 100000) : ansF cfg 16 [.str text] [] = some (decA text, []) := by
  refine ans_of_wp fn16 low16 ?_
  have hs : ansF cfg 51 [.str text, .int .u8 10] [] = some (splA text 10, []) := ansSplitR text 10 (by omega)
  unfold splA at hs
  have hp := splitB_pieces (c := 10) text
  have hlenS := splitB_length 10 text
  by_cases h1 : 65536 < text.length
  · rw [decA_none (candR_long h1)]
    simp (config := { maxSteps := 1000000 }) (disch := omega) [-List.map_replicate, -List.map_set, -List.getD_eq_getElem?_getD, -getElem?_pos, -getElem?_neg, wrap_i64, le_strLim, le_sliceLim, le_buildLim, le_sliceLimI, Int.tmod_eq_emod_of_nonneg, Int.tdiv_eq_ediv_of_nonneg, omLe, omLeN, omLt, omLtN, omEq, omEqN, onLe, onLeN, onLt, onLtN, onEq, onEqN, ir16, hs, zeroC, splice]
  by_cases h2 : (splitB 10 text).getLastD [] = []
  case neg =>
    rw [decA_none (candR_open h2)]
    simp only [h2, decide_false] at hs
    simp (config := { maxSteps := 1000000 }) (disch := omega) [-List.map_replicate, -List.map_set, -List.getD_eq_getElem?_getD, -getElem?_pos, -getElem?_neg, wrap_i64, le_strLim, le_sliceLim, le_buildLim, le_sliceLimI, Int.tmod_eq_emod_of_nonneg, Int.tdiv_eq_ediv_of_nonneg, omLe, omLeN, omLt, omLtN, omEq, omEqN, onLe, onLeN, onLt, onLtN, onEq, onEqN, ir16, hs, h1, zeroC, splice]
  simp only [h2, decide_true] at hs
  cases h3 : (splitB 10 text).dropLast with
  | nil =>
    rw [decA_none (candR_empty h3)]
    rw [h3] at hs
    simp (config := { maxSteps := 1000000 }) (disch := omega) [-List.map_replicate, -List.map_set, -List.getD_eq_getElem?_getD, -getElem?_pos, -getElem?_neg, wrap_i64, le_strLim, le_sliceLim, le_buildLim, le_sliceLimI, Int.tmod_eq_emod_of_nonneg, Int.tdiv_eq_ediv_of_nonneg, omLe, omLeN, omLt, omLtN, omEq, omEqN, onLe, onLeN, onLt, onLtN, onEq, onEqN, ir16, hs, h1, strsA, zeroC, splice]
  | cons l0 ls =>
    have hmem : ∀ p ∈ l0 :: ls, p.length ≤ text.length := fun p h => (hp p ((List.dropLast_sublist _).subset (h3 ▸ h))).2
    have hl0 := hmem l0 List.mem_cons_self
    have hls : ls.length ≤ text.length := by
      have := congrArg List.length h3
      simp only [List.length_dropLast, List.length_cons] at this
      omega
    have hs2 : ansF cfg 51 [.str (l0 ++ [32]), .int .u8 32] [] = some (.tup [.lst none 1 (strsA (splitB 32 l0)), .bool true], []) := by
      have := ansSplitR (l0 ++ [32]) 32 (by simp only [List.length_append, List.length_singleton]; omega)
      unfold splA at this
      rw [splitB_snoc, List.dropLast_concat, List.getLastD_concat] at this
      exact this
    have hw : ∀ p ∈ splitB 32 l0, p.length ≤ text.length := fun p h => Nat.le_trans (splitB_pieces l0 p h).2 hl0
    have hwl : (splitB 32 l0).length ≤ text.length + 1 := by
      have := splitB_length 32 l0
      omega
    have badW : ∀ w ∈ splitB 32 l0, numO w = none → decA text = .tup [.agg zeroC, .int .i64 13] := fun w hw h => decA_none (candR_word (by omega) h2 h3 hw h)
    have few : ∀ ns, optL numO (splitB 32 l0) = some ns → ns.length < 3 → decA text = .tup [.agg zeroC, .int .i64 13] := fun ns hn h => decA_none (candR_few (by omega) h2 h3 hn h)
    have badL : ∀ ns, optL numO (splitB 32 l0) = some ns → ∀ t ∈ ls, unesc t = none → decA text = .tup [.agg zeroC, .int .i64 13] := fun ns hn t ht h => decA_none (candR_line (by omega) h2 h3 hn ht h)
    have fine : ∀ ns ts, optL numO (splitB 32 l0) = some ns → 3 ≤ ns.length → optL unesc ls = some ts → dec text = checkC text (some (mkC ns ts)) := fun ns ts hn h ht => by rw [dec_candR, candR_some (by omega) h2 h3 hn h ht]
    rw [h3] at hs
    have e0 : strsA (l0 :: ls) = .str l0 :: strsA ls := rfl
    rw [e0] at hs
    have hmemL : ∀ p ∈ ls, p.length ≤ text.length := fun p h => hmem p (List.mem_cons_of_mem _ h)
    clear hp hlenS h2 h3 hmem
    generalize splitB 32 l0 = W at *
    simp (config := { maxSteps := 1000000 }) (disch := omega) [-List.map_replicate, -List.map_set, -List.getD_eq_getElem?_getD, -getElem?_pos, -getElem?_neg, wrap_i64, le_strLim, le_sliceLim, le_buildLim, le_sliceLimI, Int.tmod_eq_emod_of_nonneg, Int.tdiv_eq_ediv_of_nonneg, omLe, omLeN, omLt, omLtN, omEq, omEqN, onLe, onLeN, onLt, onLtN, onEq, onEqN, ir16, hs, hs2, h1]
    clear hs hs2
    refine Wp.loopM (fun (ns : List Int) => W.length - ns.length) (fun ns => [some (.str text), some (.ptr 0 0), none, some (.lst none 1 (.str l0 :: strsA ls)), none, some (.lst none 1 (strsA W)), some (.osl 3 ns.length), some (.int .i64 ns.length), none, none, none, none, none, none, none, none, none, none, none, none, none, none, none, none, none, none, none, none, none, none, none, none, none, none, none, none, none, none, none, none, none, none, none])
      (fun ns => [.var 25 [.int .i64 0, .int .i64 0, .int .i64 0, .osl 1 0, .osl 2 0], .sl ⟨false, some 3⟩ 1 [], .sl ⟨false, some 9⟩ 1 [], .sl ⟨false, some 3⟩ 1 (intsA ns)])
      (fun ns => ns.length ≤ W.length ∧ optL numO (W.take ns.length) = some ns) ?_ [] ⟨by simp, by simp [optL]⟩ (by simp) (by simp [intsA])
    rintro ns ⟨hn, ho⟩
    by_cases k : ns.length < W.length
    · have hg : W[ns.length]? = some W[ns.length] := List.getElem?_eq_getElem k
      have hwk := hw _ (List.getElem_mem k)
      have bad := badW _ (List.getElem_mem k)
      have good : ∀ v, numO W[ns.length] = some v → optL numO (W.take (ns.length + 1)) = some (ns ++ [v]) := fun v h => optL_snoc ho k h
      clear badW few badL fine ho
      generalize W[ns.length] = w at *
      have hN := ansNumR w (by omega)
      have hR := numR_range w
      unfold numO at bad good
      generalize numR w = r at *
      obtain ⟨v, is⟩ := r
      simp only at hN hR bad good
      cases is with
      | false =>
        rw [bad rfl]
        clear bad good
        simp (config := { maxSteps := 1000000 }) (disch := omega) [-List.map_replicate, -List.map_set, -List.getD_eq_getElem?_getD, -getElem?_pos, -getElem?_neg, wrap_i64, le_strLim, le_sliceLim, le_buildLim, le_sliceLimI, Int.tmod_eq_emod_of_nonneg, Int.tdiv_eq_ediv_of_nonneg, omLe, omLeN, omLt, omLtN, omEq, omEqN, onLe, onLeN, onLt, onLtN, onEq, onEqN, hg, hN, zeroC, splice]
      | true =>
        have hgd := good v rfl
        clear bad good
        have hk2 : ns.length + 1 ≤ W.length := k
        simp (config := { maxSteps := 1000000 }) (disch := omega) [-List.map_replicate, -List.map_set, -List.getD_eq_getElem?_getD, -getElem?_pos, -getElem?_neg, wrap_i64, le_strLim, le_sliceLim, le_buildLim, le_sliceLimI, Int.tmod_eq_emod_of_nonneg, Int.tdiv_eq_ediv_of_nonneg, omLe, omLeN, omLt, omLtN, omEq, omEqN, onLe, onLeN, onLt, onLtN, onEq, onEqN, hg, hN, splice]
        exact ⟨ns ++ [v], ⟨by simp; omega, by rw [List.length_append]; exact hgd⟩, by simp; omega, by simp, by simp [intsA]⟩
    have hnW : ns.length = W.length := by omega
    have ho := optL_all ho hnW
    by_cases h3 : ns.length < 3
    · rw [few ns ho h3]
      clear badW few badL fine
      simp (config := { maxSteps := 1000000 }) (disch := omega) [-List.map_replicate, -List.map_set, -List.getD_eq_getElem?_getD, -getElem?_pos, -getElem?_neg, wrap_i64, le_strLim, le_sliceLim, le_buildLim, le_sliceLimI, Int.tmod_eq_emod_of_nonneg, Int.tdiv_eq_ediv_of_nonneg, omLe, omLeN, omLt, omLtN, omEq, omEqN, onLe, onLeN, onLt, onLtN, onEq, onEqN, hnW, splice, zeroC]
    have badL := badL ns ho
    have fine := fun ts => fine ns ts ho (by omega)
    clear badW few
    obtain ⟨a, b, c, r, rfl⟩ := three h3
    · clear h3 k hn
      have hrl : r.length ≤ text.length := by simp only [List.length_cons] at hnW; omega
      have hi3 : intsA (a :: b :: c :: r) = .int .i64 a :: .int .i64 b :: .int .i64 c :: intsA r := rfl
      have hrW : r.length + 3 = W.length := hnW
      rw [hi3]
      have hdr : List.drop 3 (List.take W.length (AV.int .i64 a :: AV.int .i64 b :: AV.int .i64 c :: intsA r)) = intsA r := by
        rw [List.take_of_length_le (by simp [intsA]; omega)]; rfl
      simp (config := { maxSteps := 1000000 }) (disch := omega) [-List.map_replicate, -List.map_set, -List.getD_eq_getElem?_getD, -getElem?_pos, -getElem?_neg, wrap_i64, le_strLim, le_sliceLim, le_buildLim, le_sliceLimI, Int.tmod_eq_emod_of_nonneg, Int.tdiv_eq_ediv_of_nonneg, omLe, omLeN, omLt, omLtN, omEq, omEqN, onLe, onLeN, onLt, onLtN, onEq, onEqN, hrW, hdr, splice]
      refine Wp.loopM (fun (ts : List Str) => ls.length - ts.length) (fun ts => [some (.str text), some (.ptr 0 0), none, some (.lst none 1 (.str l0 :: strsA ls)), none, none, none, none, none, none, some (.ptr 4 0), some (.int .i64 (ts.length + 1 : Nat)), none, none, none, none, none, none, none, none, none, none, none, none, none, none, none, none, none, none, none, none, none, none, none, none, none, none, none, none, none, none, none])
        (fun ts => [.var 25 [.int .i64 0, .int .i64 0, .int .i64 0, .osl 1 0, .osl 2 0], .sl ⟨false, some 3⟩ 1 [], .sl ⟨false, some 9⟩ 1 [], .sl ⟨true, some 3⟩ 1 (.int .i64 a :: .int .i64 b :: .int .i64 c :: intsA r), .var 25 [.int .i64 a, .int .i64 b, .int .i64 c, .lst none 1 (intsA r), .osl 5 ts.length], .sl ⟨false, some 9⟩ 1 (strsA ts)])
        (fun ts => ts.length ≤ ls.length ∧ optL unesc (ls.take ts.length) = some ts) ?_ [] ⟨by simp, by simp [optL]⟩ (by simp) (by simp [strsA, hdr])
      rintro ts ⟨hn2, ho2⟩
      by_cases k2 : ts.length < ls.length
      · have hg : ls[ts.length]? = some ls[ts.length] := List.getElem?_eq_getElem k2
        have hwk := hmemL _ (List.getElem_mem k2)
        have bad := badL _ (List.getElem_mem k2)
        have good : ∀ v, unesc ls[ts.length] = some v → optL unesc (ls.take (ts.length + 1)) = some (ts ++ [v]) := fun v h => optL_snoc ho2 k2 h
        clear badL fine ho2
        generalize ls[ts.length] = m at *
        have hU := ansUnR m (by omega)
        rw [unescA_eq] at hU
        cases hm : unesc m with
        | none =>
          rw [hm] at hU
          rw [bad hm]
          clear bad good
          simp (config := { maxSteps := 1000000 }) (disch := omega) [-List.map_replicate, -List.map_set, -List.getD_eq_getElem?_getD, -getElem?_pos, -getElem?_neg, wrap_i64, le_strLim, le_sliceLim, le_buildLim, le_sliceLimI, Int.tmod_eq_emod_of_nonneg, Int.tdiv_eq_ediv_of_nonneg, omLe, omLeN, omLt, omLtN, omEq, omEqN, onLe, onLeN, onLt, onLtN, onEq, onEqN, hg, hU, zeroC, splice]
        | some t =>
          rw [hm] at hU
          have hgd := good t hm
          clear good bad
          simp (config := { maxSteps := 1000000 }) (disch := omega) [-List.map_replicate, -List.map_set, -List.getD_eq_getElem?_getD, -getElem?_pos, -getElem?_neg, wrap_i64, le_strLim, le_sliceLim, le_buildLim, le_sliceLimI, Int.tmod_eq_emod_of_nonneg, Int.tdiv_eq_ediv_of_nonneg, omLe, omLeN, omLt, omLtN, omEq, omEqN, onLe, onLeN, onLt, onLtN, onEq, onEqN, hg, hU, splice]
          exact ⟨ts ++ [t], ⟨by simp; omega, by rw [List.length_append]; exact hgd⟩, by simp; omega, by simp, by simp, by simp [strsA]⟩
      have hnM : ts.length = ls.length := by omega
      have ho2 := optL_all ho2 hnM
      have hdA : decA text = match checkC text (some (mkC (a :: b :: c :: r) ts)) with
          | none => .tup [.agg zeroC, .int .i64 13]
          | some c => .tup [evA (evN c), .int .i64 0] := by
        unfold decA
        rw [fine ts ho2]
        rfl
      rw [hdA]
      clear hdA fine badL
      have hmk : mkC (a :: b :: c :: r) ts = ⟨a, b, c, r, ts⟩ := rfl
      rw [hmk]
      have hE := ansEncR (evN ⟨a, b, c, r, ts⟩) ⟨fun _ => rfl, fun _ => rfl, by show r.length < 1000000; omega, by show ts.length < 1000000; omega⟩
      unfold evA evN Ev.cells encA at hE
      simp only [checkC, evA, evN, Ev.cells]
      simp only at hE
      by_cases q1 : encE ⟨a, b, c, r, ts⟩ = 0
      · simp only [q1, if_true, true_and] at hE ⊢
        generalize encT ⟨a, b, c, r, ts⟩ = T at *
        by_cases q2 : T = text
        · simp only [q2, if_true] at hE ⊢
          simp (config := { maxSteps := 1000000 }) (disch := omega) [-List.map_replicate, -List.map_set, -List.getD_eq_getElem?_getD, -getElem?_pos, -getElem?_neg, wrap_i64, le_strLim, le_sliceLim, le_buildLim, le_sliceLimI, Int.tmod_eq_emod_of_nonneg, Int.tdiv_eq_ediv_of_nonneg, omLe, omLeN, omLt, omLtN, omEq, omEqN, onLe, onLeN, onLt, onLtN, onEq, onEqN, hnM, hE, splice]
        · simp only [q2, if_false] at hE ⊢
          simp (config := { maxSteps := 1000000 }) (disch := omega) [-List.map_replicate, -List.map_set, -List.getD_eq_getElem?_getD, -getElem?_pos, -getElem?_neg, wrap_i64, le_strLim, le_sliceLim, le_buildLim, le_sliceLimI, Int.tmod_eq_emod_of_nonneg, Int.tdiv_eq_ediv_of_nonneg, omLe, omLeN, omLt, omLtN, omEq, omEqN, onLe, onLeN, onLt, onLtN, onEq, onEqN, hnM, hE, q2, zeroC, splice]
      · simp only [q1, if_false, false_and] at hE ⊢
        generalize encE ⟨a, b, c, r, ts⟩ = E at *
        simp (config := { maxSteps := 1000000 }) (disch := omega) [-List.map_replicate, -List.map_set, -List.getD_eq_getElem?_getD, -getElem?_pos, -getElem?_neg, wrap_i64, le_strLim, le_sliceLim, le_buildLim, le_sliceLimI, Int.tmod_eq_emod_of_nonneg, Int.tdiv_eq_ediv_of_nonneg, omLe, omLeN, omLt, omLtN, omEq, omEqN, onLe, onLeN, onLt, onLtN, onEq, onEqN, hnM, hE, q1, zeroC, splice]
end Go.Proofs.YtfhfnehoaiegcaaGreatDoor
