/-
  Plain laws of numerals: a number's numeral is read as the number. Lists that are joined by a byte are split at it again. strings.Split at one byte. Plain laws of a journal: what an event's text is; that a text is of one event at most; which entries are right; what is recovered from bytes.
-/
import Derived.Test.YtfhfnehoaiegcaaGreatDoorIrs
import Derived.Test.YtfhfnehoaiegcaaGreatDoorMsgM
import Derived.Test.YtfhfnehoaiegcaaGreatDoorDigM
set_option linter.all false
namespace Go.Proofs.YtfhfnehoaiegcaaGreatDoor
open Go.Am
set_option maxRecDepth 10000
set_option maxHeartbeats 4000000

/-! ### Numerals -/

theorem dec_big {u : Nat} (h : ¬ u < 10) : Lib.decDigits u = Lib.decDigits (u / 10) ++ [UInt8.ofNat (48 + u % 10)] := by
  rw [Lib.decDigits, dif_neg h]
theorem dig_nat {d : Nat} (h : d < 10) : (UInt8.ofNat (48 + d)).toNat = 48 + d := by
  rw [UInt8.toNat_ofNat_of_lt' (by show 48 + d < 256; omega)]
theorem dec_digits : ∀ (u : Nat), ∀ c ∈ Lib.decDigits u, 48 ≤ c.toNat ∧ c.toNat ≤ 57 := by
  intro u
  induction u using Nat.strongRecOn with
  | _ u ih =>
    intro c hc
    by_cases h : u < 10
    · rw [Lib.decDigits_one h] at hc
      simp only [List.mem_singleton] at hc
      subst hc
      rw [dig_nat h]
      omega
    · rw [dec_big h] at hc
      rcases List.mem_append.1 hc with hc | hc
      · exact ih (u / 10) (by omega) c hc
      · simp only [List.mem_singleton] at hc
        subst hc
        rw [dig_nat (by omega)]
        omega
theorem dec_ne (u : Nat) : Lib.decDigits u ≠ [] := by
  by_cases h : u < 10
  · rw [Lib.decDigits_one h]; simp
  · rw [dec_big h]; simp

theorem digit_step {acc d : Nat} (hd : d < 10) (h : acc * 10 + d < 18446744073709551616) (r : List UInt8) : Lib.parseUint10 acc (UInt8.ofNat (48 + d) :: r) = Lib.parseUint10 (acc * 10 + d) r := by
  have e := dig_nat hd
  simp only [Lib.parseUint10, e]
  rw [if_pos (by omega), if_neg (by omega), if_neg (by omega)]
  congr 1
  omega
theorem dec_parse : ∀ (u acc : Nat) (r : List UInt8), acc * 10 ^ Lib.nDigits u + u < 18446744073709551616 → Lib.parseUint10 acc (Lib.decDigits u ++ r) = Lib.parseUint10 (acc * 10 ^ Lib.nDigits u + u) r := by
  intro u
  induction u using Nat.strongRecOn with
  | _ u ih =>
    intro acc r hlt
    by_cases h : u < 10
    · rw [Lib.decDigits_one h, Lib.nDigits_small h] at *
      simp only [Nat.pow_one, List.singleton_append] at *
      exact digit_step h hlt r
    · rw [dec_big h, Lib.nDigits_big h, List.append_assoc] at *
      have e : acc * 10 ^ (Lib.nDigits (u / 10) + 1) + u = (acc * 10 ^ Lib.nDigits (u / 10) + u / 10) * 10 + u % 10 := by
        rw [Nat.pow_succ, ← Nat.mul_assoc, Nat.add_mul]
        omega
      rw [e] at hlt ⊢
      rw [ih (u / 10) (by omega) acc _ (by omega), List.singleton_append, digit_step (by omega) hlt]
theorem mag_dec {u : Nat} (h : u < 18446744073709551616) : Lib.parseMag (Lib.decDigits u) = .ok u := by
  unfold Lib.parseMag
  rw [if_neg (dec_ne u)]
  have := dec_parse u 0 [] (by omega)
  rw [List.append_nil] at this
  rw [this]
  simp [Lib.parseUint10]
theorem atoi_itoa {n : Int} (h0 : -9223372036854775808 ≤ n) (h1 : n ≤ 9223372036854775807) : Lib.atoiAll (Lib.itoa n) = .ok n := by
  unfold Lib.itoa
  by_cases hn : n < 0
  · rw [if_pos hn, Lib.atoiAll_minus, mag_dec (by omega)]
    unfold Lib.signed
    simp only
    rw [if_neg (by omega)]
    congr 1
    omega
  · rw [if_neg hn]
    have hd := dec_digits n.toNat
    have hne := dec_ne n.toNat
    have hm := mag_dec (u := n.toNat) (by omega)
    generalize Lib.decDigits n.toNat = l at *
    cases l with
    | nil => exact absurd rfl hne
    | cons c r =>
      have := hd c (List.mem_cons_self)
      rw [Lib.atoiAll_plain c r (by omega) (by omega), hm]
      unfold Lib.signless
      simp only
      rw [if_neg (by omega)]
      congr 1
      omega
theorem itoa_chars {n : Int} {c : UInt8} (h : c ∈ Lib.itoa n) : c = 45 ∨ (48 ≤ c.toNat ∧ c.toNat ≤ 57) := by
  unfold Lib.itoa at h
  split at h
  · rcases List.mem_cons.1 h with h | h
    · exact .inl h
    · exact .inr (dec_digits _ c h)
  · exact .inr (dec_digits _ c h)
theorem itoa_inj {n m : Int} (hn : -9223372036854775808 ≤ n ∧ n ≤ 9223372036854775807) (hm : -9223372036854775808 ≤ m ∧ m ≤ 9223372036854775807) (h : Lib.itoa n = Lib.itoa m) : n = m := by
  have h1 := atoi_itoa hn.1 hn.2
  rw [h, atoi_itoa hm.1 hm.2] at h1
  injection h1 with h1
  exact h1.symm

/-! ### Pieces between bytes -/

/-- the pieces between the bytes c -/
def splitB (c : UInt8) : List UInt8 → List (List UInt8)
  | [] => [[]]
  | x :: s => if x = c then [] :: splitB c s else match splitB c s with
    | p :: r => (x :: p) :: r
    | [] => [[x]]
theorem splitB_ne (c : UInt8) : ∀ s, splitB c s ≠ []
  | [] => by simp [splitB]
  | x :: s => by
    simp only [splitB]
    split
    · simp
    · split <;> simp
theorem splitB_no {c : UInt8} : ∀ {s : List UInt8}, c ∉ s → splitB c s = [s]
  | [], _ => rfl
  | x :: s, h => by
    simp only [List.mem_cons, not_or] at h
    simp only [splitB, if_neg (Ne.symm h.1), splitB_no h.2]
theorem splitB_app {c : UInt8} : ∀ {a : List UInt8} (s : List UInt8), c ∉ a → splitB c (a ++ c :: s) = a :: splitB c s
  | [], s, _ => by simp [splitB]
  | x :: a, s, h => by
    simp only [List.mem_cons, not_or] at h
    simp only [List.cons_append, splitB, if_neg (Ne.symm h.1), splitB_app s h.2]
theorem splitB_pieces {c : UInt8} : ∀ (s p : List UInt8), p ∈ splitB c s → c ∉ p ∧ p.length ≤ s.length
  | [], p, h => by simp [splitB] at h; subst h; simp
  | x :: s, p, h => by
    simp only [splitB] at h
    split at h
    · rcases List.mem_cons.1 h with h | h
      · subst h; simp
      · have := splitB_pieces s p h
        exact ⟨this.1, by simp; omega⟩
    · rename_i hx
      have ih := splitB_pieces (c := c) s
      have hne := splitB_ne c s
      generalize splitB c s = l at *
      cases l with
      | nil => exact absurd rfl hne
      | cons q r =>
        simp only at h
        rcases List.mem_cons.1 h with h | h
        · subst h
          have := ih q List.mem_cons_self
          simp only [List.mem_cons, not_or, List.length_cons]
          exact ⟨⟨Ne.symm hx, this.1⟩, by omega⟩
        · have := ih p (List.mem_cons_of_mem _ h)
          exact ⟨this.1, by simp; omega⟩
theorem splitB_length (c : UInt8) : ∀ s, (splitB c s).length ≤ s.length + 1
  | [] => by simp [splitB]
  | x :: s => by
    have := splitB_length c s
    simp only [splitB]
    split
    · simp; omega
    · split
      · rename_i h; rw [h] at this; simp at this ⊢; omega
      · simp
theorem splitB_count (c : UInt8) : ∀ s : List UInt8, (splitB c s).length = s.count c + 1
  | [] => by simp [splitB]
  | x :: s => by
    have := splitB_count c s
    simp only [splitB]
    split
    · rename_i h; subst h; simp [this]
    · rename_i h
      rw [List.count_cons_of_ne h]
      split
      · rename_i h; rw [h] at this; simp at this ⊢; omega
      · rename_i h; exact absurd h (splitB_ne c s)
theorem splitB_join {c : UInt8} : ∀ {l : List (List UInt8)}, l ≠ [] → (∀ p ∈ l, c ∉ p) → splitB c (Lib.join l [c]) = l
  | [], h, _ => absurd rfl h
  | [p], _, hp => by
    rw [Lib.join_one, splitB_no (hp p List.mem_cons_self)]
  | p :: q :: r, _, hp => by
    have ih := splitB_join (c := c) (l := q :: r) (by simp) (fun x hx => hp x (List.mem_cons_of_mem _ hx))
    have e : Lib.join (p :: q :: r) [c] = p ++ c :: Lib.join (q :: r) [c] := by
      rw [Lib.join_cons, Lib.join_cons]; simp [Lib.joinTail]
    rw [e, splitB_app _ (hp p List.mem_cons_self), ih]
/-- lines: each one with the byte behind it -/
theorem splitB_lines {c : UInt8} : ∀ (l : List (List UInt8)), (∀ p ∈ l, c ∉ p) → splitB c (l.flatMap fun p => p ++ [c]) = l ++ [[]]
  | [], _ => rfl
  | p :: r, hp => by
    rw [List.flatMap_cons, List.append_assoc, List.singleton_append, splitB_app _ (hp p List.mem_cons_self), splitB_lines r (fun x hx => hp x (List.mem_cons_of_mem _ hx))]
    rfl
end Go.Proofs.YtfhfnehoaiegcaaGreatDoor

namespace Go.Proofs.YtfhfnehoaiegcaaGreatDoor
open Go.Am
set_option maxRecDepth 10000
set_option maxHeartbeats 4000000

theorem index_app {c : UInt8} : ∀ {p : List UInt8} (r : List UInt8), c ∉ p → Lib.indexByte (p ++ c :: r) c = (p.length : Int)
  | [], r, _ => by simp [Lib.indexByte]
  | x :: p, r, h => by
    simp only [List.mem_cons, not_or] at h
    have ih := index_app r h.2
    have hx : (x == c) = false := by simpa using Ne.symm h.1
    have hne : (((p.length : Int)) == -1) = false := by
      rw [beq_eq_false_iff_ne]; omega
    simp only [List.cons_append, Lib.indexByte, hx, Bool.false_eq_true, if_false, ih, hne, List.length_cons]
    omega
theorem splitB_two {c : UInt8} : ∀ {r : List UInt8}, 2 ≤ (splitB c r).length → ∃ p q, r = p ++ c :: q ∧ c ∉ p
  | [], h => by simp [splitB] at h
  | x :: r, h => by
    by_cases hx : x = c
    · exact ⟨[], r, by simp [hx], by simp⟩
    · have h2 : 2 ≤ (splitB c r).length := by
        simp only [splitB, if_neg hx] at h
        split at h
        · rename_i e; rw [e]; simpa using h
        · simp at h
      obtain ⟨p, q, h3, h4⟩ := splitB_two h2
      exact ⟨x :: p, q, by rw [h3]; rfl, by simp [Ne.symm hx, h4]⟩
theorem splitB_one {c : UInt8} {r : List UInt8} (h : (splitB c r).length = 1) : splitB c r = [r] := by
  apply splitB_no
  intro hm
  obtain ⟨p, q, rfl⟩ := List.append_of_mem hm
  rw [splitB_count] at h
  simp at h

theorem ansIdxB (s : List UInt8) (c : UInt8) : ansF cfg 133 [.str s, ofByte c] [] = some (.int .i64 (Lib.indexByte s c), []) := by
  refine ans_of_wp fn133 low133 ?_
  simp (config := { maxSteps := 1000000 }) (disch := omega) [-List.map_replicate, -List.map_set, -List.getD_eq_getElem?_getD, -getElem?_pos, -getElem?_neg, wrap_i64, le_strLim, le_sliceLim, le_buildLim, le_sliceLimI, Int.tmod_eq_emod_of_nonneg, Int.tdiv_eq_ediv_of_nonneg, ir133, indexG, ofByte]
theorem ansIndexB (s : List UInt8) (c : UInt8) (h2 : s.length < 100000000) : ansF cfg 94 [.str s, .str [c]] [] = some (.int .i64 (Lib.indexByte s c), []) := by
  have h1 : ansF cfg 115 [.str s, .str [c]] [] = some (.int .i64 (Lib.indexByte s c), []) := by
    refine ans_of_wp fn115 low115 ?_
    have hi := ansIdxB s c
    by_cases hs : s = [c]
    · have hx : Lib.indexByte s c = 0 := by rw [hs]; simp [Lib.indexByte]
      rw [hx]
      subst hs
      simp (config := { maxSteps := 1000000 }) (disch := omega) [-List.map_replicate, -List.map_set, -List.getD_eq_getElem?_getD, -getElem?_pos, -getElem?_neg, wrap_i64, le_strLim, le_sliceLim, le_buildLim, le_sliceLimI, Int.tmod_eq_emod_of_nonneg, Int.tdiv_eq_ediv_of_nonneg, omLe, omLeN, omLt, omLtN, omEq, omEqN, onLe, onLeN, onLt, onLtN, onEq, onEqN, ir115]
    · have hs' : ([c] == s) = false := by rw [beq_eq_false_iff_ne]; exact Ne.symm hs
      simp (config := { maxSteps := 1000000 }) (disch := omega) [-List.map_replicate, -List.map_set, -List.getD_eq_getElem?_getD, -getElem?_pos, -getElem?_neg, wrap_i64, le_strLim, le_sliceLim, le_buildLim, le_sliceLimI, Int.tmod_eq_emod_of_nonneg, Int.tdiv_eq_ediv_of_nonneg, omLe, omLeN, omLt, omLtN, omEq, omEqN, onLe, onLeN, onLt, onLtN, onEq, onEqN, byte_fold, ir115, hs', hi, Ne.symm hs]
  refine ans_of_wp fn94 low94 ?_
  simp (config := { maxSteps := 1000000 }) (disch := omega) [-List.map_replicate, -List.map_set, -List.getD_eq_getElem?_getD, -getElem?_pos, -getElem?_neg, wrap_i64, le_strLim, le_sliceLim, le_buildLim, le_sliceLimI, Int.tmod_eq_emod_of_nonneg, Int.tdiv_eq_ediv_of_nonneg, ir94, h1]
theorem ansCountB (s : List UInt8) (c : UInt8) : ansF cfg 93 [.str s, .str [c]] [] = some (.int .i64 (s.count c), []) := by
  refine ans_of_wp fn93 low93 ?_
  simp (config := { maxSteps := 1000000 }) (disch := omega) [-List.map_replicate, -List.map_set, -List.getD_eq_getElem?_getD, -getElem?_pos, -getElem?_neg, wrap_i64, le_strLim, le_sliceLim, le_buildLim, le_sliceLimI, Int.tmod_eq_emod_of_nonneg, Int.tdiv_eq_ediv_of_nonneg, omLe, omLeN, omLt, omLtN, omEq, omEqN, onLe, onLeN, onLt, onLtN, onEq, onEqN, ir93, countG, Lib.countByte]

theorem strs_set (P : List (List UInt8)) (k : Nat) (x : List UInt8) : (P.map AV.str ++ List.replicate (k + 1) (AV.str [])).set P.length (.str x) = (P ++ [x]).map AV.str ++ List.replicate k (AV.str []) := by
  rw [List.replicate_succ, List.set_append_right _ _ (by simp)]
  simp

theorem ansSplitB (s : List UInt8) (c : UInt8) (hs : s.length < 100000000) : ansF cfg 48 [.str s, .str [c]] [] = some (.lst none 1 ((splitB c s).map AV.str), []) := by
  have h1 : ansF cfg 76 [.str s, .str [c], .int .i64 0, .int .i64 (-1)] [] = some (.lst none 1 ((splitB c s).map AV.str), []) := by
    refine ans_of_wp fn76 low76 ?_
    have hc := ansCountB s c
    have hN := splitB_count c s
    have hle : s.count c ≤ s.length := List.count_le_length
    generalize s.count c = N at *
    have hmin : ((N : Int) + 1 ≤ (s.length : Int) + 1) := by omega
    simp (config := { maxSteps := 1000000 }) (disch := omega) [-List.map_replicate, -List.map_set, -List.getD_eq_getElem?_getD, -getElem?_pos, -getElem?_neg, wrap_i64, le_strLim, le_sliceLim, le_buildLim, le_sliceLimI, Int.tmod_eq_emod_of_nonneg, Int.tdiv_eq_ediv_of_nonneg, omLe, omLeN, omLt, omLtN, omEq, omEqN, onLe, onLeN, onLt, onLtN, onEq, onEqN, ir76, hc]
    refine Wp.loopM (fun (a : List (List UInt8) × List UInt8) => N - a.1.length) (fun a => [some (.str a.2), some (.str [c]), some (.int .i64 0), some (.int .i64 N), none, some (.osl 0 (N + 1)), some (.int .i64 a.1.length), none, none, none, none, none, none, none, none, none, none, none, none])
      (fun a => [.sl ⟨false, some 9⟩ 1 (a.1.map AV.str ++ List.replicate (N + 1 - a.1.length) (AV.str []))])
      (fun a => a.1.length ≤ N ∧ splitB c s = a.1 ++ splitB c a.2 ∧ a.2.length ≤ s.length) ?_ ([], s) ⟨by simp, rfl, Nat.le_refl _⟩ (by simp) (by simp)
    rintro ⟨P, r⟩ ⟨hP, hsp, hrl⟩
    simp only at hP hsp hrl ⊢
    have hr : (splitB c r).length = N + 1 - P.length := by
      have := congrArg List.length hsp
      rw [List.length_append] at this
      omega
    by_cases hlt : P.length < N
    · obtain ⟨p, q, rfl, hp⟩ := splitB_two (by rw [hr]; omega)
      have hi := ansIndexB (p ++ c :: q) c (by omega)
      rw [index_app q hp] at hi
      rw [splitB_app q hp] at hsp
      have hk : N + 1 - P.length = (N - P.length) + 1 := by omega
      have hlen : (P.map AV.str ++ List.replicate (N + 1 - P.length) (AV.str [])).length = N + 1 := by simp; omega
      have hget : (P.map AV.str ++ List.replicate (N + 1 - P.length) (AV.str []))[P.length]? = some (.str []) := by
        rw [List.getElem?_append_right (by simp), List.getElem?_replicate, if_pos (by simp; omega)]
      have hset := strs_set P (N - P.length) p
      rw [← hk] at hset
      have ht : (p ++ c :: q).take p.length = p := List.take_left' rfl
      have hd : ((p ++ c :: q).take (p ++ c :: q).length).drop (p.length + 1) = q := by
        rw [List.take_length, List.drop_append, List.drop_of_length_le (by omega)]
        simp
      have hl : (p ++ c :: q).length = p.length + 1 + q.length := by simp; omega
      have hp2 : p.length + 1 ≤ s.length := by omega
      generalize P.map AV.str ++ List.replicate (N + 1 - P.length) (AV.str []) = L at *
      generalize hR : p ++ c :: q = R at *
      rw [hl] at hd
      simp (config := { maxSteps := 1000000 }) (disch := omega) [-List.map_replicate, -List.map_set, -List.getD_eq_getElem?_getD, -getElem?_pos, -getElem?_neg, wrap_i64, le_strLim, le_sliceLim, le_buildLim, le_sliceLimI, Int.tmod_eq_emod_of_nonneg, Int.tdiv_eq_ediv_of_nonneg, omLe, omLeN, omLt, omLtN, omEq, omEqN, onLe, onLeN, onLt, onLtN, onEq, onEqN, hi, hlen, hget, hset, ht, hd, hl]
      refine ⟨P ++ [p], q, ⟨by simp; omega, by rw [hsp]; simp, by omega⟩, by simp; omega, ⟨rfl, by simp⟩, ?_⟩
      have e : N + 1 - (P ++ [p]).length = N - P.length := by simp
      rw [e]
      simp
    · obtain rfl : P.length = N := by omega
      have h1 := splitB_one (c := c) (r := r) (by rw [hr]; omega)
      rw [h1] at hsp
      have hset := strs_set P 0 r
      have e : P.length + 1 - P.length = 0 + 1 := by omega
      rw [e, hsp]
      have hlen : (P.map AV.str ++ List.replicate (0 + 1) (AV.str [])).length = P.length + 1 := by simp
      have hget : (P.map AV.str ++ List.replicate (0 + 1) (AV.str []))[P.length]? = some (.str []) := by
        rw [List.getElem?_append_right (by simp), List.getElem?_replicate, if_pos (by simp)]
      generalize P.map AV.str ++ List.replicate (0 + 1) (AV.str []) = L at *
      rw [List.replicate_zero, List.append_nil] at hset
      simp (config := { maxSteps := 1000000 }) (disch := omega) [-List.map_replicate, -List.map_set, -List.getD_eq_getElem?_getD, -getElem?_pos, -getElem?_neg, wrap_i64, le_strLim, le_sliceLim, le_buildLim, le_sliceLimI, Int.tmod_eq_emod_of_nonneg, Int.tdiv_eq_ediv_of_nonneg, omLe, omLeN, omLt, omLtN, omEq, omEqN, onLe, onLeN, onLt, onLtN, onEq, onEqN, hlen, hget, hset]
      exact List.take_of_length_le (by simp)
  refine ans_of_wp fn48 low48 ?_
  simp (config := { maxSteps := 1000000 }) (disch := omega) [-List.map_replicate, -List.map_set, -List.getD_eq_getElem?_getD, -getElem?_pos, -getElem?_neg, wrap_i64, le_strLim, le_sliceLim, le_buildLim, le_sliceLimI, Int.tmod_eq_emod_of_nonneg, Int.tdiv_eq_ediv_of_nonneg, ir48, h1]
end Go.Proofs.YtfhfnehoaiegcaaGreatDoor

namespace Go.Proofs.YtfhfnehoaiegcaaGreatDoor
open Go.Am
set_option maxRecDepth 10000
set_option maxHeartbeats 4000000

/-- what an event holds -/
structure EvC where
  id : Int
  day : Int
  kind : Int
  nums : List Int
  texts : List Str
  deriving DecidableEq

def far (n : Int) : Bool := decide (n < -1099511627776) || decide (1099511627776 < n)
def long (s : Str) : Bool := decide (4096 < s.length)
def lineS (l : List Int) : Str := Lib.join (l.map Lib.itoa) [32] ++ [10]
def EvC.ns (c : EvC) : List Int := c.id :: c.day :: c.kind :: c.nums
def linesS (l : List Str) : Str := l.flatMap fun t => esc t ++ [10]
def encT (c : EvC) : Str := lineS c.ns ++ linesS c.texts
def EvC.out (c : EvC) : Bool := decide (c.id < 1) || decide (1073741824 < c.id) || decide (c.day < 0) || decide (1048575 < c.day) || decide (c.kind < 1) || decide (59 < c.kind) || c.nums.any far
def EvC.big (c : EvC) : Bool := decide (1024 < c.nums.length) || decide (256 < c.texts.length) || c.texts.any long
def encE (c : EvC) : Int := if c.out = true then 2 else if c.big = true then 8 else if 65536 < (encT c).length then 8 else 0

theorem encE_range (c : EvC) : encE c = 0 ∨ encE c = 2 ∨ encE c = 8 := by
  unfold encE
  repeat' split
  all_goals simp
/-- an event that has a text -/
theorem enc_fine {c : EvC} (h : encE c = 0) : (∀ n ∈ c.ns, -1099511627776 ≤ n ∧ n ≤ 1099511627776) ∧ c.nums.length ≤ 1024 ∧ c.texts.length ≤ 256 ∧ (∀ t ∈ c.texts, t.length ≤ 4096) ∧ (encT c).length ≤ 65536 := by
  unfold encE at h
  split at h
  · cases h
  rename_i h1
  split at h
  · cases h
  rename_i h2
  split at h
  · cases h
  rename_i h3
  simp only [EvC.out, EvC.big, Bool.or_eq_true, decide_eq_true_eq, not_or, Bool.not_eq_true, List.any_eq_true, not_exists, not_and, far, long, Bool.or_eq_false_iff, decide_eq_false_iff_not] at h1 h2
  refine ⟨?_, by omega, by omega, fun t ht => by have := h2.2 t ht; omega, by omega⟩
  intro n hn
  simp only [EvC.ns, List.mem_cons] at hn
  rcases hn with rfl | rfl | rfl | hn
  · omega
  · omega
  · omega
  · have := h1.2 n hn
    omega

/-! ### A text is of one event -/

/-- f of each member, if it has a value at all of them -/
def optL {α β : Type} (f : α → Option β) : List α → Option (List β)
  | [] => some []
  | a :: l => match f a with
    | none => none
    | some b => match optL f l with
      | none => none
      | some r => some (b :: r)
theorem optL_map {α β : Type} {f : α → Option β} {g : β → α} : ∀ {l : List β}, (∀ b ∈ l, f (g b) = some b) → optL f (l.map g) = some l
  | [], _ => rfl
  | b :: l, h => by
    simp only [List.map_cons, optL, h b List.mem_cons_self, optL_map (fun x hx => h x (List.mem_cons_of_mem _ hx))]
theorem optL_length {α β : Type} {f : α → Option β} : ∀ {l : List α} {r : List β}, optL f l = some r → r.length = l.length
  | [], r, h => by cases h; rfl
  | a :: l, r, h => by
    simp only [optL] at h
    split at h
    · cases h
    · split at h
      · cases h
      · rename_i h2; cases h; simp [optL_length h2]
theorem optL_mem {α β : Type} {f : α → Option β} : ∀ {l : List α} {r : List β}, optL f l = some r → ∀ b ∈ r, ∃ a ∈ l, f a = some b
  | [], r, h, b, hb => by cases h; cases hb
  | a :: l, r, h, b, hb => by
    simp only [optL] at h
    split at h
    · cases h
    · rename_i b' h1
      split at h
      · cases h
      · rename_i r' h2
        cases h
        rcases List.mem_cons.1 hb with rfl | hb
        · exact ⟨a, List.mem_cons_self, h1⟩
        · obtain ⟨x, hx, h3⟩ := optL_mem h2 b hb
          exact ⟨x, List.mem_cons_of_mem _ hx, h3⟩
theorem optL_app {α β : Type} {f : α → Option β} : ∀ {l : List α} {r : List β} (m : List α), optL f l = some r → optL f (l ++ m) = (optL f m).map (r ++ ·)
  | [], r, m, h => by
    cases h
    rw [List.nil_append]
    cases optL f m <;> simp
  | a :: l, r, m, h => by
    simp only [optL] at h
    split at h
    · cases h
    · rename_i b h1
      split at h
      · cases h
      · rename_i r' h2
        cases h
        simp only [List.cons_append, optL, h1, optL_app m h2]
        cases optL f m <;> rfl
theorem optL_none {α β : Type} {f : α → Option β} : ∀ {l : List α} {a : α}, a ∈ l → f a = none → optL f l = none
  | b :: l, a, ha, h => by
    simp only [optL]
    rcases List.mem_cons.1 ha with rfl | ha
    · rw [h]
    · rw [optL_none ha h]
      split <;> rfl
theorem optL_congr {α β : Type} {f g : α → Option β} : ∀ {l : List α}, (∀ a ∈ l, f a = g a) → optL f l = optL g l
  | [], _ => rfl
  | a :: l, h => by
    simp only [optL, h a List.mem_cons_self, optL_congr (fun x hx => h x (List.mem_cons_of_mem _ hx))]

def atoiO (s : Str) : Option Int := match Lib.atoiAll s with
  | .ok v => some v
  | _ => none
/-- the lines behind the first one, but for what is behind the last line feed -/
def midL (ls : List Str) : List Str := (ls.take (max 1 (ls.length - 1))).drop 1
/-- the event that a text's pieces spell -/
def candP (text : Str) : Option EvC := match optL atoiO (splitB 32 ((splitB 10 text).headD [])) with
  | none => none
  | some ns => match optL unesc (midL (splitB 10 text)) with
    | none => none
    | some ts => some ⟨ns.getD 0 0, ns.getD 1 0, ns.getD 2 0, ns.drop 3, ts⟩
/-- the event with a text -/
def dec (text : Str) : Option EvC := match candP text with
  | none => none
  | some c => if encE c = 0 ∧ encT c = text then some c else none

theorem split_lineS (l : List Int) (hl : l ≠ []) : splitB 32 (Lib.join (l.map Lib.itoa) [32]) = l.map Lib.itoa := by
  refine splitB_join (by simpa using hl) fun p hp => ?_
  obtain ⟨n, _, rfl⟩ := List.mem_map.1 hp
  intro h
  rcases itoa_chars h with h | h
  · cases h
  · exact absurd h (by decide)
theorem lineS_no10 (l : List Int) : (10 : UInt8) ∉ Lib.join (l.map Lib.itoa) [32] := by
  intro h
  have key : ∀ (l : List Str), (∀ p ∈ l, (10 : UInt8) ∉ p) → (10 : UInt8) ∉ Lib.join l [32] := by
    intro l
    induction l with
    | nil => intro _ h; simp [Lib.join_nil] at h
    | cons p r ih =>
      intro hp h
      rw [Lib.join_cons, List.mem_append] at h
      rcases h with h | h
      · exact hp p List.mem_cons_self h
      · simp only [Lib.joinTail, List.mem_flatten, List.mem_map] at h
        obtain ⟨q, ⟨x, hx, rfl⟩, hq⟩ := h
        rcases List.mem_append.1 hq with hq | hq
        · exact absurd hq (by decide)
        · exact hp x (List.mem_cons_of_mem _ hx) hq
  refine key _ (fun p hp hq => ?_) h
  obtain ⟨n, _, rfl⟩ := List.mem_map.1 hp
  rcases itoa_chars hq with h | h
  · exact absurd h (by decide)
  · exact absurd h (by decide)
theorem split_encT (c : EvC) : splitB 10 (encT c) = Lib.join (c.ns.map Lib.itoa) [32] :: (c.texts.map esc ++ [[]]) := by
  unfold encT lineS linesS
  rw [List.append_assoc, List.singleton_append, splitB_app _ (lineS_no10 _)]
  congr 1
  have := splitB_lines (c := 10) (c.texts.map esc) (fun p hp => by
    obtain ⟨t, _, rfl⟩ := List.mem_map.1 hp
    exact esc_no (by decide))
  rw [List.flatMap_map] at this
  exact this
theorem midL_enc (a : Str) (l : List Str) : midL (a :: (l ++ [[]])) = l := by
  unfold midL
  have : max 1 ((a :: (l ++ [[]])).length - 1) = l.length + 1 := by simp
  rw [this]
  simp
theorem cand_enc {c : EvC} (h : encE c = 0) : candP (encT c) = some c := by
  obtain ⟨h1, _⟩ := enc_fine h
  unfold candP
  rw [split_encT]
  simp only [List.headD_cons]
  rw [split_lineS _ (by simp [EvC.ns]), optL_map (fun n hn => by
    have := h1 n hn
    simp only [atoiO, atoi_itoa (n := n) (by omega) (by omega)])]
  simp only [midL_enc]
  rw [optL_map (fun t _ => unesc_of_esc t)]
  rfl
theorem dec_iff {text : Str} {c : EvC} : dec text = some c ↔ encE c = 0 ∧ encT c = text := by
  constructor
  · intro h
    unfold dec at h
    split at h
    · cases h
    · split at h
      · rename_i h2; cases h; exact h2
      · cases h
  · rintro ⟨h1, rfl⟩
    unfold dec
    rw [cand_enc h1]
    simp [h1]
/-- the event that was spelt, if it has this text -/
def checkC (text : Str) (f : Option EvC) : Option EvC := match f with
  | none => none
  | some c => if encE c = 0 ∧ encT c = text then some c else none
theorem dec_of_cand {text : Str} {f : Option EvC} (hf : ∀ c, encE c = 0 → encT c = text → f = some c) : dec text = checkC text f := by
  cases hd : dec text with
  | some c =>
    obtain ⟨h1, h2⟩ := dec_iff.1 hd
    rw [hf c h1 h2]
    simp [checkC, h1, h2]
  | none =>
    cases f with
    | none => rfl
    | some c =>
      simp only [checkC]
      split
      · rename_i h
        have := dec_iff.2 h
        rw [hd] at this
        cases this
      · rfl
theorem enc_inj {c d : EvC} (hc : encE c = 0) (hd : encE d = 0) (h : encT c = encT d) : c = d := by
  have h1 := dec_iff.2 ⟨hc, rfl⟩
  have h2 := dec_iff.2 ⟨hd, rfl⟩
  rw [h, h2] at h1
  exact (Option.some.inj h1).symm

/-! ### Entries -/

/-- what an entry holds -/
structure EntC where
  c : EvC
  d : Str
  deriving DecidableEq
def zeros : Str := List.replicate 32 0
def prevD : Option EntC → Str
  | none => zeros
  | some x => x.d
def sealT (p : Option EntC) (text : Str) : Str := sumP (prevD p ++ text)
def late (p : Option EntC) (c : EvC) : Bool := match p with
  | none => false
  | some y => decide (c.id ≤ y.c.id) || decide (c.day < y.c.day)
def fitE (p : Option EntC) (c : EvC) : Int := if encE c ≠ 0 then encE c else if late p c = true then 5 else 0
def entE (p : Option EntC) (x : EntC) : Int := if fitE p x.c ≠ 0 then fitE p x.c else if x.d = sealT p (encT x.c) then 0 else 14
def chk : Option EntC → Nat → List EntC → Int × Int
  | _, _, [] => (-1, 0)
  | p, i, x :: r => if entE p x = 0 then chk (some x) (i + 1) r else ((i : Int), entE p x)
def right : Option EntC → List EntC → Prop
  | _, [] => True
  | p, x :: r => entE p x = 0 ∧ right (some x) r
/-- the last one, or what stood ahead -/
def lastE (p : Option EntC) : List EntC → Option EntC
  | [] => p
  | x :: r => lastE (some x) r

theorem lastE_app (p : Option EntC) : ∀ (l m : List EntC), lastE p (l ++ m) = lastE (lastE p l) m
  | [], m => rfl
  | x :: l, m => lastE_app (some x) l m
theorem right_app {p : Option EntC} : ∀ {l m : List EntC}, right p (l ++ m) ↔ right p l ∧ right (lastE p l) m
  | [], m => by simp [right, lastE]
  | x :: l, m => by
    simp only [List.cons_append, right, lastE, right_app (p := some x) (l := l) (m := m), and_assoc]
theorem chk_right {p : Option EntC} {i : Nat} : ∀ {l : List EntC}, (chk p i l).2 = 0 ↔ right p l
  | [] => by simp [chk, right]
  | x :: l => by
    simp only [chk, right]
    split
    · rename_i h
      rw [chk_right]
      simp [h]
    · rename_i h
      simp [h]
theorem chk_ok {p : Option EntC} {i : Nat} {l : List EntC} (h : right p l) : chk p i l = (-1, 0) := by
  induction l generalizing p i with
  | nil => rfl
  | cons x l ih =>
    simp only [chk, if_pos h.1]
    exact ih h.2
theorem chk_app {p : Option EntC} {i : Nat} {l m : List EntC} (h : right p l) : chk p i (l ++ m) = chk (lastE p l) (i + l.length) m := by
  induction l generalizing p i with
  | nil => rfl
  | cons x l ih =>
    simp only [List.cons_append, chk, if_pos h.1, lastE, List.length_cons]
    rw [ih h.2]
    congr 1
    omega
theorem ent_fine {p : Option EntC} {x : EntC} (h : entE p x = 0) : encE x.c = 0 ∧ late p x.c = false ∧ x.d = sealT p (encT x.c) := by
  unfold entE at h
  split at h
  · rename_i h1; exact absurd h h1
  · rename_i h1
    split at h
    · rename_i h2
      simp only [ne_eq, Decidable.not_not] at h1
      unfold fitE at h1
      split at h1
      · rename_i h3; exact absurd h1 h3
      · rename_i h3
        split at h1
        · cases h1
        · rename_i h4
          exact ⟨by simpa using h3, by simpa using h4, h2⟩
    · cases h
theorem ent_of {p : Option EntC} {x : EntC} (h1 : encE x.c = 0) (h2 : late p x.c = false) (h3 : x.d = sealT p (encT x.c)) : entE p x = 0 := by
  unfold entE fitE
  simp [h1, h2, ← h3]

/-! ### Bytes -/

def be4 (n : Nat) : Str := [UInt8.ofNat (n / 16777216), UInt8.ofNat (n / 65536), UInt8.ofNat (n / 256), UInt8.ofNat n]
def num4 (d : Str) : Nat := (((d.getD 0 0).toNat * 256 + (d.getD 1 0).toNat) * 256 + (d.getD 2 0).toNat) * 256 + (d.getD 3 0).toNat
def wr1 (x : EntC) : Str := be4 (encT x.c).length ++ (encT x.c ++ x.d)
def wr (l : List EntC) : Str := l.flatMap wr1
/-- the entry that some bytes begin with, behind another one; how many bytes it has -/
def stepJ (data : Str) (p : Option EntC) : Option (EntC × Nat) :=
  if data.length < 4 then none
  else if 65536 < num4 data ∨ data.length < 4 + num4 data + 32 then none
  else match dec ((data.take (4 + num4 data)).drop 4) with
    | none => none
    | some c => if entE p ⟨c, (data.take (4 + num4 data + 32)).drop (4 + num4 data)⟩ = 0 then some (⟨c, (data.take (4 + num4 data + 32)).drop (4 + num4 data)⟩, 4 + num4 data + 32) else none

theorem stepJ_pos {data : Str} {p : Option EntC} {x : EntC} {n : Nat} (h : stepJ data p = some (x, n)) : 36 ≤ n ∧ n ≤ data.length := by
  unfold stepJ at h
  split at h
  · cases h
  split at h
  · cases h
  split at h
  · cases h
  split at h
  · cases h
    omega
  · cases h
def recF (data : Str) (p : Option EntC) (k : Nat) : List EntC × Nat :=
  if k < 1024 then
    match h : stepJ data p with
    | none => ([], 0)
    | some (x, n) => (x :: (recF (data.drop n) (some x) (k + 1)).1, n + (recF (data.drop n) (some x) (k + 1)).2)
  else ([], 0)
termination_by data.length
decreasing_by
  all_goals
    have := stepJ_pos h
    simp only [List.length_drop]
    omega
theorem recF_full {data : Str} {p : Option EntC} {k : Nat} (h : ¬ k < 1024) : recF data p k = ([], 0) := by
  rw [recF, if_neg h]
theorem recF_none {data : Str} {p : Option EntC} {k : Nat} (h : stepJ data p = none) : recF data p k = ([], 0) := by
  rw [recF]
  split
  · split
    · rfl
    · rename_i h2; rw [h] at h2; cases h2
  · rfl
theorem recF_some {data : Str} {p : Option EntC} {k : Nat} {x : EntC} {n : Nat} (hk : k < 1024) (h : stepJ data p = some (x, n)) : recF data p k = (x :: (recF (data.drop n) (some x) (k + 1)).1, n + (recF (data.drop n) (some x) (k + 1)).2) := by
  rw [recF, if_pos hk]
  split
  · rename_i h2; rw [h] at h2; cases h2
  · rename_i h2; rw [h] at h2; cases h2; rfl

theorem num_be4 {n : Nat} (h : n < 4294967296) (r : Str) : num4 (be4 n ++ r) = n := by
  simp only [num4, be4, List.cons_append, List.nil_append, List.getD_cons_zero, List.getD_cons_succ, UInt8.toNat_ofNat']
  omega
theorem be_num4 {d : Str} (h : 4 ≤ d.length) : be4 (num4 d) = d.take 4 := by
  match d, h with
  | a :: b :: c :: e :: r, _ =>
    have ha := a.toNat_lt
    have hb := b.toNat_lt
    have hc := c.toNat_lt
    have he := e.toNat_lt
    simp only [num4, be4, List.getD_cons_zero, List.getD_cons_succ, List.take_succ_cons, List.take_zero, List.cons.injEq, and_true]
    refine ⟨?_, ?_, ?_, ?_⟩ <;>
    · apply UInt8.toNat_inj.1
      rw [UInt8.toNat_ofNat']
      omega
theorem num4_lt (d : Str) : num4 d < 4294967296 := by
  have ha := (d.getD 0 0).toNat_lt
  have hb := (d.getD 1 0).toNat_lt
  have hc := (d.getD 2 0).toNat_lt
  have he := (d.getD 3 0).toNat_lt
  unfold num4
  omega
theorem num4_take {d : Str} {m : Nat} (h : 4 ≤ m) : num4 (d.take m) = num4 d := by
  unfold num4
  simp only [List.getD_eq_getElem?_getD, List.getElem?_take]
  rw [if_pos (by omega), if_pos (by omega), if_pos (by omega), if_pos (by omega)]

/-- what an entry is read from are its bytes -/
theorem stepJ_bytes {data : Str} {p : Option EntC} {x : EntC} {n : Nat} (h : stepJ data p = some (x, n)) : wr1 x = data.take n ∧ entE p x = 0 := by
  unfold stepJ at h
  split at h
  · cases h
  rename_i h4
  split at h
  · cases h
  rename_i hn
  split at h
  · cases h
  rename_i c hc
  split at h
  · rename_i he
    cases h
    refine ⟨?_, he⟩
    obtain ⟨_, h2⟩ := dec_iff.1 hc
    unfold wr1
    simp only
    rw [h2]
    have hl : ((data.take (4 + num4 data)).drop 4).length = num4 data := by simp; omega
    rw [hl, be_num4 (by omega)]
    have e1 : data.take (4 + num4 data) = data.take 4 ++ (data.take (4 + num4 data)).drop 4 := by
      have := List.take_append_drop 4 (data.take (4 + num4 data))
      rw [List.take_take, Nat.min_eq_left (by omega)] at this
      exact this.symm
    have e2 := List.take_append_drop (4 + num4 data) (data.take (4 + num4 data + 32))
    rw [List.take_take, Nat.min_eq_left (by omega), e1] at e2
    rw [← List.append_assoc]
    exact e2
  · cases h
/-- a right entry is read from its bytes, whatever is behind -/
theorem stepJ_wr1 {p : Option EntC} {x : EntC} (h : entE p x = 0) (hs : ∀ t, (sumP t).length = 32) (r : Str) : stepJ (wr1 x ++ r) p = some (x, (wr1 x).length) := by
  obtain ⟨h1, _, h3⟩ := ent_fine h
  have hf := (enc_fine h1).2.2.2.2
  have hd : x.d.length = 32 := by rw [h3]; exact hs _
  have hn : num4 (wr1 x ++ r) = (encT x.c).length := by
    unfold wr1
    rw [List.append_assoc]
    exact num_be4 (by omega) _
  have hb : ∀ n, (be4 n).length = 4 := fun _ => rfl
  have hl : (wr1 x).length = 4 + (encT x.c).length + 32 := by
    unfold wr1
    simp only [List.length_append, hb, hd]
    omega
  have e1 : ((wr1 x ++ r).take (4 + (encT x.c).length)).drop 4 = encT x.c := by
    unfold wr1
    rw [List.append_assoc, List.append_assoc, List.take_append, hb]
    have : (be4 (encT x.c).length).take (4 + (encT x.c).length) = be4 (encT x.c).length := List.take_of_length_le (by rw [hb]; omega)
    rw [this, List.drop_left' (hb _), Nat.add_sub_cancel_left, List.take_left' rfl]
  have e2 : ((wr1 x ++ r).take (4 + (encT x.c).length + 32)).drop (4 + (encT x.c).length) = x.d := by
    rw [List.take_left' (by rw [hl])]
    unfold wr1
    rw [← List.append_assoc, List.drop_left' (by simp [hb])]
  unfold stepJ
  rw [hn, e1, e2, dec_iff.2 ⟨h1, rfl⟩]
  rw [if_neg (by rw [List.length_append, hl]; omega), if_neg (by rw [List.length_append, hl]; omega)]
  simp only
  have : (⟨x.c, x.d⟩ : EntC) = x := rfl
  rw [this, if_pos h, hl]
/-- an entry hangs on its own bytes alone -/
theorem stepJ_take {data : Str} {p : Option EntC} {x : EntC} {n m : Nat} (h : stepJ data p = some (x, n)) (hm : n ≤ m) : stepJ (data.take m) p = some (x, n) := by
  have hp := stepJ_pos h
  unfold stepJ at h ⊢
  have h4 : 4 ≤ m := by omega
  rw [num4_take h4]
  split at h
  · cases h
  split at h
  · cases h
  rename_i hd4 hn
  split at h
  · cases h
  rename_i c hc
  split at h
  · rename_i he
    cases h
    have l1 : (data.take m).take (4 + num4 data) = data.take (4 + num4 data) := by rw [List.take_take, Nat.min_eq_left (by omega)]
    have l2 : (data.take m).take (4 + num4 data + 32) = data.take (4 + num4 data + 32) := by rw [List.take_take, Nat.min_eq_left (by omega)]
    rw [l1, l2, hc]
    simp only
    rw [if_neg (by simp; omega), if_neg (by simp; omega), if_pos he]
  · cases h
theorem stepJ_torn {p : Option EntC} {x : EntC} (h : entE p x = 0) (hs : ∀ t, (sumP t).length = 32) (r : Str) {m : Nat} (hm : m < (wr1 x).length) : stepJ ((wr1 x ++ r).take m) p = none := by
  cases hx : stepJ ((wr1 x ++ r).take m) p with
  | none => rfl
  | some q =>
    obtain ⟨y, n⟩ := q
    exfalso
    obtain ⟨h1, _, h3⟩ := ent_fine h
    have hf := (enc_fine h1).2.2.2.2
    have hd : x.d.length = 32 := by rw [h3]; exact hs _
    have hn : num4 (wr1 x ++ r) = (encT x.c).length := by
      unfold wr1
      rw [List.append_assoc]
      exact num_be4 (by omega) _
    have hl : (wr1 x).length = 4 + (encT x.c).length + 32 := by
      unfold wr1
      have hb : ∀ n, (be4 n).length = 4 := fun _ => rfl
      simp only [List.length_append, hb, hd]
      omega
    unfold stepJ at hx
    split at hx
    · cases hx
    rename_i h4
    simp only [List.length_take, List.length_append] at h4
    rw [num4_take (by omega), hn] at hx
    split at hx
    · cases hx
    · rename_i h5
      simp only [List.length_take, List.length_append] at h5
      omega

theorem wr_app (l m : List EntC) : wr (l ++ m) = wr l ++ wr m := by simp [wr]
theorem wr_cons (x : EntC) (l : List EntC) : wr (x :: l) = wr1 x ++ wr l := by simp [wr]
/-- the bytes of a right journal, cut off somewhere: its whole entries -/
theorem recF_cut (hs : ∀ t, (sumP t).length = 32) : ∀ (l : List EntC) (p : Option EntC) (k m : Nat), right p l → k + l.length ≤ 1024 →
    ∃ j, j ≤ l.length ∧ recF ((wr l).take m) p k = (l.take j, (wr (l.take j)).length) ∧ (wr (l.take j)).length ≤ m ∧ (j < l.length → m < (wr (l.take (j + 1))).length) := by
  intro l
  induction l with
  | nil =>
    intro p k m _ _
    refine ⟨0, by simp, ?_, by simp [wr], by simp⟩
    rw [recF_none (by simp [wr, stepJ])]
    rfl
  | cons x l ih =>
    intro p k m hr hk
    simp only [List.length_cons] at hk
    have hl1 : 36 ≤ (wr1 x).length := (stepJ_pos (stepJ_wr1 hr.1 hs [])).1
    by_cases hm : m < (wr1 x).length
    · refine ⟨0, by simp, ?_, by simp [wr], fun _ => by simp [wr]; omega⟩
      rw [wr_cons, recF_none (stepJ_torn hr.1 hs _ hm)]
      rfl
    · obtain ⟨j, h1, h2, h3, h4⟩ := ih (some x) (k + 1) (m - (wr1 x).length) hr.2 (by omega)
      refine ⟨j + 1, by simp; omega, ?_, ?_, ?_⟩
      · rw [wr_cons, recF_some (by omega) (stepJ_take (stepJ_wr1 hr.1 hs _) (by omega))]
        have e : ((wr1 x ++ wr l).take m).drop (wr1 x).length = (wr l).take (m - (wr1 x).length) := by
          rw [List.take_append, List.take_of_length_le (by omega), List.drop_left' rfl]
        rw [e, h2]
        simp only [List.take_succ_cons, wr_cons, List.length_append]
      · simp only [List.take_succ_cons, wr_cons, List.length_append]
        omega
      · intro hj
        simp only [List.length_cons] at hj
        have := h4 (by omega)
        simp only [List.take_succ_cons, wr_cons, List.length_append] at this ⊢
        omega
theorem recF_wr (hs : ∀ t, (sumP t).length = 32) {l : List EntC} (hr : right none l) (hk : l.length ≤ 1024) : recF (wr l) none 0 = (l, (wr l).length) := by
  obtain ⟨j, h1, h2, h3, h4⟩ := recF_cut hs l none 0 (wr l).length hr (by omega)
  rw [List.take_length] at h2
  by_cases hj : j < l.length
  · have := h4 hj
    have h5 : wr l = wr (l.take (j + 1)) ++ wr (l.drop (j + 1)) := by rw [← wr_app, List.take_append_drop]
    rw [h5, List.length_append] at this
    omega
  · obtain rfl : j = l.length := by omega
    rw [List.take_length] at h2
    exact h2
/-- what is recovered: right entries, of which the bytes are the beginning -/
theorem recF_spec : ∀ (data : Str) (p : Option EntC) (k : Nat), right p (recF data p k).1 ∧ wr (recF data p k).1 = data.take (recF data p k).2 ∧ (recF data p k).2 = (wr (recF data p k).1).length ∧ (recF data p k).2 ≤ data.length ∧ (k ≤ 1024 → k + (recF data p k).1.length ≤ 1024) := by
  intro data
  induction hd : data.length using Nat.strongRecOn generalizing data with
  | _ d ih =>
    intro p k
    subst hd
    by_cases hk : k < 1024
    · cases hst : stepJ data p with
      | none => rw [recF_none hst]; simp [right, wr]
      | some q =>
        obtain ⟨x, n⟩ := q
        have hp := stepJ_pos hst
        obtain ⟨b1, b2⟩ := stepJ_bytes hst
        obtain ⟨i1, i2, i3, i4, i5⟩ := ih (data.drop n).length (by simp; omega) (data.drop n) rfl (some x) (k + 1)
        rw [recF_some hk hst]
        generalize recF (data.drop n) (some x) (k + 1) = q at *
        obtain ⟨l, m⟩ := q
        simp only at *
        have hl : (wr1 x).length = n := by rw [b1]; simp; omega
        simp only [List.length_drop] at i4
        refine ⟨⟨b2, i1⟩, ?_, ?_, by omega, by simp only [List.length_cons]; omega⟩
        · rw [wr_cons, b1, i2, List.take_add]
        · rw [wr_cons, List.length_append, hl, ← i3]
    · rw [recF_full hk]; simp [right, wr]
/-- what is recovered hangs on the bytes that it has -/
theorem recF_prefix : ∀ (data data' : Str) (p : Option EntC) (k : Nat), data.take (recF data p k).2 = data'.take (recF data p k).2 → (recF data p k).2 ≤ data'.length → ∃ r, (recF data' p k).1 = (recF data p k).1 ++ r := by
  intro data
  induction hd : data.length using Nat.strongRecOn generalizing data with
  | _ d ih =>
    intro data' p k he hle
    subst hd
    by_cases hk : k < 1024
    · cases hst : stepJ data p with
      | none => rw [recF_none hst]; exact ⟨_, (List.nil_append _).symm⟩
      | some q =>
        obtain ⟨x, n⟩ := q
        have hp := stepJ_pos hst
        have hsp := recF_spec (data.drop n) (some x) (k + 1)
        have hI := ih (data.drop n).length (by simp; omega) (data.drop n) rfl (data'.drop n) (some x) (k + 1)
        rw [recF_some hk hst] at he hle ⊢
        generalize hQ : recF (data.drop n) (some x) (k + 1) = q at *
        obtain ⟨l, m⟩ := q
        simp only at *
        have e1 : data.take n = data'.take n := by
          have := congrArg (List.take n) he
          rw [List.take_take, List.take_take, Nat.min_eq_left (by omega)] at this
          exact this
        have hst' : stepJ data' p = some (x, n) := by
          have h1 := stepJ_take hst (Nat.le_refl n)
          rw [e1] at h1
          -- what holds at the first n bytes holds at all of them
          have hp1 := stepJ_pos h1
          obtain ⟨b1, b2⟩ := stepJ_bytes h1
          unfold stepJ at h1 ⊢
          have h4 : 4 ≤ n := by omega
          rw [num4_take h4] at h1
          split at h1
          · cases h1
          split at h1
          · cases h1
          rename_i g1 g2
          split at h1
          · cases h1
          rename_i c hc
          split at h1
          · rename_i hee
            injection h1 with h1
            injection h1 with h1 h2
            have l1 : (data'.take n).take (4 + num4 data') = data'.take (4 + num4 data') := by rw [List.take_take, Nat.min_eq_left (by omega)]
            have l2 : (data'.take n).take (4 + num4 data' + 32) = data'.take (4 + num4 data' + 32) := by rw [List.take_take, Nat.min_eq_left (by omega)]
            rw [l1] at hc
            rw [l2] at hee h1
            rw [hc]
            simp only [List.length_take] at g1 g2
            rw [if_neg (by omega), if_neg (by omega)]
            simp only
            rw [if_pos hee, h1, h2]
          · cases h1
        rw [recF_some hk hst']
        have e2 : (data.drop n).take m = (data'.drop n).take m := by
          have := congrArg (List.drop n) he
          rw [List.drop_take, List.drop_take, Nat.add_sub_cancel_left] at this
          exact this
        obtain ⟨r, hr⟩ := hI e2 (by simp; omega)
        exact ⟨r, by simp only [hr, List.cons_append]⟩
    · refine ⟨(recF data' p k).1, ?_⟩
      rw [recF_full (data := data) hk]
      rfl
end Go.Proofs.YtfhfnehoaiegcaaGreatDoor
