/-
  The order of texts (plain). The law NamingOrder.
-/
import Derived.Test.YtlolhkjjbgpfbaaGreatDoorCmpM
set_option linter.all false
namespace Go.Proofs.YtlolhkjjbgpfbaaGreatDoor
open Go.Am
set_option maxRecDepth 10000
set_option maxHeartbeats 4000000

theorem cb_swap : ∀ a b : Str, Lib.compareBytes b a = - Lib.compareBytes a b
  | [], [] => by simp [Lib.compareBytes]
  | [], _ :: _ => by simp [Lib.compareBytes]
  | _ :: _, [] => by simp [Lib.compareBytes]
  | a :: x, b :: y => by
    have ih := cb_swap x y
    unfold Lib.compareBytes
    by_cases l1 : a < b
    · have l2 : ¬ b < a := UInt8.lt_asymm l1
      rw [if_pos l1, if_neg l2, if_pos l1]; rfl
    · by_cases l2 : b < a
      · rw [if_pos l2, if_neg l1, if_pos l2]
      · rw [if_neg l1, if_neg l2, if_neg l1, if_neg l2, ih]
theorem cb_trans : ∀ a b c : Str, Lib.compareBytes a b ≤ 0 → Lib.compareBytes b c ≤ 0 → Lib.compareBytes a c ≤ 0 ∧ (Lib.compareBytes a c = 0 → Lib.compareBytes a b = 0 ∧ Lib.compareBytes b c = 0)
  | [], [], [] => by simp [Lib.compareBytes]
  | [], [], _ :: _ => by simp [Lib.compareBytes]
  | [], _ :: _, [] => by simp [Lib.compareBytes]
  | [], _ :: _, _ :: _ => by simp [Lib.compareBytes]
  | _ :: _, [], _ => by simp [Lib.compareBytes]
  | _ :: _, _ :: _, [] => by simp [Lib.compareBytes]
  | a :: x, b :: y, c :: z => by
    have ih := cb_trans x y z
    unfold Lib.compareBytes
    simp only [UInt8.lt_iff_toNat_lt]
    intro h1 h2
    by_cases l1 : a.toNat < b.toNat
    · rw [if_pos l1] at h1 ⊢
      by_cases l2 : b.toNat < c.toNat
      · rw [if_pos (by omega)]; exact ⟨by decide, fun h => absurd h (by decide)⟩
      · rw [if_neg l2] at h2
        by_cases l3 : c.toNat < b.toNat
        · rw [if_pos l3] at h2; exact absurd h2 (by decide)
        · rw [if_pos (by omega)]; exact ⟨by decide, fun h => absurd h (by decide)⟩
    · rw [if_neg l1] at h1 ⊢
      by_cases l3 : b.toNat < a.toNat
      · rw [if_pos l3] at h1; exact absurd h1 (by decide)
      · rw [if_neg l3] at h1 ⊢
        by_cases l2 : b.toNat < c.toNat
        · rw [if_pos (by omega)]; exact ⟨by decide, fun h => absurd h (by decide)⟩
        · rw [if_neg l2] at h2 ⊢
          by_cases l4 : c.toNat < b.toNat
          · rw [if_pos l4] at h2; exact absurd h2 (by decide)
          · rw [if_neg l4] at h2 ⊢
            rw [if_neg (by omega), if_neg (by omega)]
            exact ih h1 h2
theorem cb_one (a b : Str) : Lib.compareBytes a b = -1 ∨ Lib.compareBytes a b = 0 ∨ Lib.compareBytes a b = 1 := (cb_facts a b).2.2
theorem cb_zero {a b : Str} (h : Lib.compareBytes a b = 0) : a = b := (cb_facts a b).2.1.1 h
theorem cb_self (a : Str) : Lib.compareBytes a a = 0 := (cb_facts a a).2.1.2 rfl

theorem cmpS_self (a : Str) : cmpS a a = 0 := by
  unfold cmpS orI
  rw [cb_self, cb_self, if_pos rfl]
theorem cmpS_swap (a b : Str) : cmpS b a = - cmpS a b := by
  unfold cmpS orI
  rw [cb_swap (keyS a) (keyS b), cb_swap a b]
  split <;> split <;> omega
theorem cmpS_zero {a b : Str} : cmpS a b = 0 ↔ a = b := by
  constructor
  · unfold cmpS orI
    intro h
    split at h
    · exact cb_zero h
    · contradiction
  · rintro rfl; exact cmpS_self a
theorem cmpS_one (a b : Str) : cmpS a b = -1 ∨ cmpS a b = 0 ∨ cmpS a b = 1 := by
  unfold cmpS orI
  have h1 := cb_one (keyS a) (keyS b)
  have h2 := cb_one a b
  split
  · exact h2
  · exact h1
theorem cmpS_trans (a b c : Str) (h1 : cmpS a b ≤ 0) (h2 : cmpS b c ≤ 0) : cmpS a c ≤ 0 := by
  unfold cmpS orI at *
  have k := cb_trans (keyS a) (keyS b) (keyS c)
  have m := cb_trans a b c
  by_cases e1 : Lib.compareBytes (keyS a) (keyS b) = 0
  · rw [if_pos e1] at h1
    by_cases e2 : Lib.compareBytes (keyS b) (keyS c) = 0
    · rw [if_pos e2] at h2
      have e3 : Lib.compareBytes (keyS a) (keyS c) = 0 := by rw [cb_zero e1, cb_zero e2]; exact cb_self _
      rw [if_pos e3]
      exact (m h1 h2).1
    · rw [if_neg e2] at h2
      have := (k (by omega) h2)
      rw [if_neg (fun h => e2 (this.2 h).2)]
      exact this.1
  · rw [if_neg e1] at h1
    have h2' : Lib.compareBytes (keyS b) (keyS c) ≤ 0 := by
      split at h2
      · omega
      · exact h2
    have := (k h1 h2')
    rw [if_neg (fun h => e1 (this.2 h).1)]
    exact this.1

/-! ### numbers in decimal, with ten digits -/
def dg (k : Nat) : UInt8 := UInt8.ofNat (48 + k % 10)
theorem dg_nat (k : Nat) : (dg k).toNat = 48 + k % 10 := by
  unfold dg
  rw [UInt8.toNat_ofNat']
  omega
/-- so many digits of a number -/
def digs : Nat → Nat → Str
  | 0, _ => []
  | j + 1, k => digs j (k / 10) ++ [dg k]
theorem digs_len : ∀ j k, (digs j k).length = j
  | 0, _ => rfl
  | j + 1, k => by simp [digs, digs_len j]
theorem digs_dig : ∀ j k, ∀ c ∈ digs j k, 48 ≤ c.toNat ∧ c.toNat ≤ 57
  | 0, _, c, h => by cases h
  | j + 1, k, c, h => by
    simp only [digs, List.mem_append, List.mem_singleton] at h
    rcases h with h | rfl
    · exact digs_dig j _ c h
    · rw [dg_nat]; omega
theorem cb_snoc : ∀ (u v : Str) (x y : UInt8), u.length = v.length → Lib.compareBytes (u ++ [x]) (v ++ [y]) = if Lib.compareBytes u v = 0 then Lib.compareBytes [x] [y] else Lib.compareBytes u v
  | [], [], x, y, _ => by rw [show Lib.compareBytes [] [] = 0 from rfl, if_pos rfl]; rfl
  | [], _ :: _, _, _, h => by simp at h
  | _ :: _, [], _, _, h => by simp at h
  | a :: u, b :: v, x, y, h => by
    have ih := cb_snoc u v x y (by simpa using h)
    simp only [List.cons_append]
    rw [Lib.compareBytes, Lib.compareBytes, ih]
    by_cases l1 : a < b
    · rw [if_pos l1, if_pos l1, if_neg (by decide)]
    · by_cases l2 : b < a
      · rw [if_neg l1, if_pos l2, if_neg l1, if_pos l2, if_neg (by decide)]
      · rw [if_neg l1, if_neg l2, if_neg l1, if_neg l2]
theorem cb_digs : ∀ (j m n : Nat), m < 10 ^ j → n < 10 ^ j → Lib.compareBytes (digs j m) (digs j n) = if m < n then -1 else if n < m then 1 else 0
  | 0, m, n, hm, hn => by
    have : m = 0 := by simpa using hm
    have : n = 0 := by simpa using hn
    subst m n
    rfl
  | j + 1, m, n, hm, hn => by
    have hp : 10 ^ (j + 1) = 10 ^ j * 10 := Nat.pow_succ ..
    have ih := cb_digs j (m / 10) (n / 10) (by omega) (by omega)
    rw [digs, digs, cb_snoc _ _ _ _ (by rw [digs_len, digs_len]), ih]
    have h1 : Lib.compareBytes [dg m] [dg n] = if m % 10 < n % 10 then -1 else if n % 10 < m % 10 then 1 else 0 := by
      simp only [Lib.compareBytes, UInt8.lt_iff_toNat_lt, dg_nat]
      by_cases l1 : m % 10 < n % 10
      · rw [if_pos (by omega), if_pos l1]
      · by_cases l2 : n % 10 < m % 10
        · rw [if_neg (by omega), if_pos (by omega), if_neg l1, if_pos l2]
        · rw [if_neg (by omega), if_neg (by omega), if_neg l1, if_neg l2]
    rw [h1]
    by_cases a1 : m / 10 < n / 10
    · rw [if_pos a1, if_neg (by decide), if_pos (by omega)]
    · by_cases a2 : n / 10 < m / 10
      · rw [if_neg a1, if_pos a2, if_neg (by decide), if_neg (by omega), if_pos (by omega)]
      · rw [if_neg a1, if_neg a2, if_pos rfl]
        by_cases b1 : m % 10 < n % 10
        · rw [if_pos b1, if_pos (by omega)]
        · by_cases b2 : n % 10 < m % 10
          · rw [if_neg b1, if_pos b2, if_neg (by omega), if_pos (by omega)]
          · rw [if_neg b1, if_neg b2, if_neg (by omega), if_neg (by omega)]

/-- without the zeros in front -/
def trimZ : Str → Str
  | 48 :: r => trimZ r
  | w => w
theorem trimZ_spec : ∀ w : Str, ∃ z, w = List.replicate z 48 ++ trimZ w
  | [] => ⟨0, rfl⟩
  | c :: r => by
    by_cases h : c = 48
    · subst h
      obtain ⟨z, hz⟩ := trimZ_spec r
      exact ⟨z + 1, by rw [List.replicate_succ, List.cons_append, trimZ, ← hz]⟩
    · refine ⟨0, ?_⟩
      unfold trimZ
      split
      · rename_i h'; cases h'; exact absurd rfl h
      · rfl
theorem trimZ_head : ∀ w : Str, (trimZ w).head? ≠ some 48
  | [] => by simp [trimZ]
  | c :: r => by
    by_cases h : c = 48
    · subst h
      rw [trimZ]
      exact trimZ_head r
    · unfold trimZ
      split
      · rename_i h'; cases h'; exact absurd rfl h
      · simp [h]
theorem trimZ_len (w : Str) : (trimZ w).length ≤ w.length := by
  obtain ⟨z, hz⟩ := trimZ_spec w
  have := congrArg List.length hz
  simp at this
  omega
theorem trimZ_mem {w : Str} {c : UInt8} (h : c ∈ trimZ w) : c ∈ w := by
  obtain ⟨z, hz⟩ := trimZ_spec w
  rw [hz]
  simp [h]
theorem stripZ_trim {w : Str} (h : w.head? ≠ some 48) : stripZ w = w := by
  unfold stripZ
  split
  · simp at h
  · rfl
theorem repeatL_rep (n : Nat) : Lib.repeatL [48] n = List.replicate n 48 := by
  induction n with
  | zero => rfl
  | succ n ih => simp [Lib.repeatL, ih, List.replicate_succ]
theorem wordsGo_digs : ∀ (d w : Str), (∀ c ∈ d, 48 ≤ c.toNat ∧ c.toNat ≤ 57) → wordsGo (d ++ [46]) w = if w ++ d = [] then [] else [w ++ d]
  | [], w, _ => by
    have hp : partB 46 = false := by decide
    simp only [List.nil_append, wordsGo, hp, Bool.false_eq_true, if_false, List.append_nil]
    by_cases hw : w = []
    · rw [if_pos hw, if_pos hw]; rfl
    · rw [if_neg hw, if_neg hw]; rfl
  | c :: d, w, h => by
    have hc := h c (by simp)
    have hp : partB c = true := by
      rw [part_iff, decide_eq_true_eq]; exact .inl hc
    have hl : lowB c = c := by
      unfold lowB
      rw [if_neg (by omega)]
    simp only [List.cons_append, wordsGo, hp, if_true, hl]
    rw [wordsGo_digs d _ (fun c hc => h c (by simp [hc]))]
    simp
theorem wordsL_no (d : Str) (hd : ∀ c ∈ d, 48 ≤ c.toNat ∧ c.toNat ≤ 57) (hne : d ≠ []) : wordsL ([78, 111, 46, 32] ++ (d ++ [46])) = [[110, 111], d] := by
  have h : wordsL ([78, 111, 46, 32] ++ (d ++ [46])) = [110, 111] :: wordsGo (d ++ [46]) [] := by rfl
  rw [h, wordsGo_digs d [] hd, List.nil_append, if_neg hne]
/-- a number as it is written in the law -/
def numT (k : Nat) : Str := trimZ (digs 10 k) ++ [46]
theorem digs_zero : ∀ j k, k < 10 ^ j → (∀ c ∈ digs j k, c = 48) → k = 0
  | 0, k, h, _ => by simpa using h
  | j + 1, k, h, hc => by
    have hp : 10 ^ (j + 1) = 10 ^ j * 10 := Nat.pow_succ ..
    have h1 := digs_zero j (k / 10) (by omega) (fun c h => hc c (by simp [digs, h]))
    have h2 := congrArg UInt8.toNat (hc (dg k) (by simp [digs]))
    rw [dg_nat] at h2
    have : (48 : UInt8).toNat = 48 := rfl
    omega
theorem keyS_num (k : Nat) (h0 : k ≠ 0) (hk : k < 4294967296) : keyS ([78, 111, 46, 32] ++ numT k) = [110, 111, 32, 48, 48] ++ digs 10 k := by
  obtain ⟨z, hz⟩ := trimZ_spec (digs 10 k)
  have hh := trimZ_head (digs 10 k)
  have hd : ∀ c ∈ trimZ (digs 10 k), 48 ≤ c.toNat ∧ c.toNat ≤ 57 := fun c hc => digs_dig 10 k c (trimZ_mem hc)
  have hne : trimZ (digs 10 k) ≠ [] := by
    intro h
    rw [h, List.append_nil] at hz
    exact h0 (digs_zero 10 k (by omega) (fun c hc => by rw [hz] at hc; exact (List.mem_replicate.1 hc).2))
  have hl := congrArg List.length hz
  rw [digs_len, List.length_append, List.length_replicate] at hl
  unfold numT keyS keyW
  rw [wordsL_no _ hd hne]
  generalize trimZ (digs 10 k) = d at *
  rw [hz]
  have ha : dropArt [[110, 111], d] = [[110, 111], d] := rfl
  have hn : numS [110, 111] = [110, 111] := rfl
  have hn2 : numS d = padS d := by
    unfold numS
    rw [if_pos (by rw [List.all_eq_true]; intro c hc; unfold digB; rw [decide_eq_true_eq]; exact hd c hc), stripZ_trim hh]
  rw [ha, List.map_cons, List.map_cons, List.map_nil, hn, hn2]
  unfold padS
  have hp : (List.replicate (12 - d.length) 48 : Str) = 48 :: 48 :: List.replicate z 48 := by
    rw [show 12 - d.length = z + 1 + 1 by omega, List.replicate_succ, List.replicate_succ]
  rw [repeatL_rep, hp]
  simp [Lib.join, List.intercalate, List.intersperse]
theorem cmpS_num (m n : Nat) (hm : m ≠ 0) (hn : n ≠ 0) (hmn : m ≠ n) (h1 : m < 4294967296) (h2 : n < 4294967296) :
    cmpS ([78, 111, 46, 32] ++ numT m) ([78, 111, 46, 32] ++ numT n) = if m < n then -1 else 1 := by
  unfold cmpS orI
  rw [keyS_num m hm h1, keyS_num n hn h2]
  have e : ∀ a b : Str, Lib.compareBytes ([110, 111, 32, 48, 48] ++ a) ([110, 111, 32, 48, 48] ++ b) = Lib.compareBytes a b := fun a b => by
    simp [Lib.compareBytes]
  rw [e, cb_digs 10 m n (by omega) (by omega)]
  by_cases l : m < n
  · simp only [if_pos l]
    rw [if_neg (by decide)]
  · have l2 : n < m := by omega
    simp only [if_neg l, if_pos l2]
    rw [if_neg (by decide)]
end Go.Proofs.YtlolhkjjbgpfbaaGreatDoor

namespace Go.Proofs.YtlolhkjjbgpfbaaGreatDoor
open Go.Am
set_option maxRecDepth 10000
set_option maxHeartbeats 4000000

theorem digs_cons : ∀ i k, digs (i + 1) k = dg (k / 10 ^ i) :: digs i k
  | 0, k => by simp [digs]
  | i + 1, k => by
    have ih := digs_cons i (k / 10)
    rw [digs, ih]
    simp only [List.cons_append]
    rw [Nat.div_div_eq_div_mul, show 10 * 10 ^ i = 10 ^ (i + 1) by rw [Nat.pow_succ]; omega]
    rfl
theorem ansTrimL : ∀ (w : Str), w.length < 1000000 → ansF cfg 89 [.str w, .int .u8 48] [] = some (.str (trimZ w), []) := by
  intro w hw
  refine ans_of_wp fn89 low89 ?_
  simp (config := { maxSteps := 1000000 }) (disch := omega) [-List.map_replicate, -List.map_set, -List.getD_eq_getElem?_getD, -getElem?_pos, -getElem?_neg, wrap_i64, le_strLim, le_sliceLim, le_buildLim, le_sliceLimI, Int.tmod_eq_emod_of_nonneg, Int.tdiv_eq_ediv_of_nonneg, omLe, omLeN, omLt, omLtN, omEq, omEqN, onLe, onLeN, onLt, onLtN, onEq, onEqN, ir89]
  refine Wp.loopM (fun (u : Str) => u.length) (fun u => [some (.str u), some (.int .u8 48), none, none]) (fun _ => []) (fun u => trimZ w = trimZ u ∧ u.length ≤ w.length) ?_ w ⟨rfl, Nat.le_refl _⟩ (by simp) rfl
  rintro u ⟨hu, hul⟩
  rw [hu]
  cases u with
  | nil => simp (config := { maxSteps := 1000000 }) (disch := omega) [-List.map_replicate, -List.map_set, -List.getD_eq_getElem?_getD, -getElem?_pos, -getElem?_neg, wrap_i64, le_strLim, le_sliceLim, le_buildLim, le_sliceLimI, Int.tmod_eq_emod_of_nonneg, Int.tdiv_eq_ediv_of_nonneg, omLe, omLeN, omLt, omLtN, omEq, omEqN, onLe, onLeN, onLt, onLtN, onEq, onEqN, trimZ]
  | cons c r =>
    simp only [List.length_cons] at hul
    have e0 : ((c.toNat : Int) == 48) = (c == 48) := byte_eq c 48 (by omega)
    cases h3 : (c == 48) with
    | true =>
      have hc : c = 48 := by simpa using h3
      subst hc
      have ht : List.take r.length r = r := List.take_length
      have hn : (48 : UInt8).toNat = 48 := rfl
      simp (config := { maxSteps := 1000000 }) (disch := omega) [-List.map_replicate, -List.map_set, -List.getD_eq_getElem?_getD, -getElem?_pos, -getElem?_neg, wrap_i64, le_strLim, le_sliceLim, le_buildLim, le_sliceLimI, Int.tmod_eq_emod_of_nonneg, Int.tdiv_eq_ediv_of_nonneg, omLe, omLeN, omLt, omLtN, omEq, omEqN, onLe, onLeN, onLt, onLtN, onEq, onEqN, ht, hn]
      rw [trimZ]
    | false =>
      have hst : trimZ (c :: r) = c :: r := by
        unfold trimZ
        split
        · rename_i h; cases h; simp at h3
        · rfl
      rw [h3] at e0
      rw [hst]
      simp (config := { maxSteps := 1000000 }) (disch := omega) [-List.map_replicate, -List.map_set, -List.getD_eq_getElem?_getD, -getElem?_pos, -getElem?_neg, wrap_i64, le_strLim, le_sliceLim, le_buildLim, le_sliceLimI, Int.tmod_eq_emod_of_nonneg, Int.tdiv_eq_ediv_of_nonneg, omLe, omLeN, omLt, omLtN, omEq, omEqN, onLe, onLeN, onLt, onLtN, onEq, onEqN, e0]
theorem ansTrimLeft (w : Str) (hw : w.length < 1000000) (hne : w ≠ []) : ansF cfg 43 [.str w, .str [48]] [] = some (.str (trimZ w), []) := by
  refine ans_of_wp fn43 low43 ?_
  have h := ansTrimL w hw
  have hn : (48 : UInt8).toNat = 48 := rfl
  simp (config := { maxSteps := 1000000 }) (disch := omega) [-List.map_replicate, -List.map_set, -List.getD_eq_getElem?_getD, -getElem?_pos, -getElem?_neg, wrap_i64, le_strLim, le_sliceLim, le_buildLim, le_sliceLimI, Int.tmod_eq_emod_of_nonneg, Int.tdiv_eq_ediv_of_nonneg, omLe, omLeN, omLt, omLtN, omEq, omEqN, onLe, onLeN, onLt, onLtN, onEq, onEqN, ir43, h, hne, hn]
theorem ansNumT (k : Nat) (hk : k < 4294967296) : ansF cfg 42 [.int .u32 k] [] = some (.str (numT k), []) := by
  refine ans_of_wp fn42 low42 ?_
  simp (config := { maxSteps := 1000000 }) (disch := omega) [-List.map_replicate, -List.map_set, -List.getD_eq_getElem?_getD, -getElem?_pos, -getElem?_neg, wrap_i64, le_strLim, le_sliceLim, le_buildLim, le_sliceLimI, Int.tmod_eq_emod_of_nonneg, Int.tdiv_eq_ediv_of_nonneg, omLe, omLeN, omLt, omLtN, omEq, omEqN, onLe, onLeN, onLt, onLtN, onEq, onEqN, ir42]
  refine Wp.loopM (fun (i : Nat) => 10 - i) (fun i => [some (.int .u32 ((k / 10 ^ i : Nat) : Int)), none, some (.str (digs i k)), some (.int .i64 i), none, none, none]) (fun _ => []) (fun i => i ≤ 10) ?_ 0 (by omega) (by simp [digs]) rfl
  intro i hi
  by_cases h1 : i < 10
  · have hd := digs_cons i k
    have hl := digs_len i k
    have hg := dg_nat (k / 10 ^ i)
    have hq : k / 10 ^ i / 10 = k / 10 ^ (i + 1) := by rw [Nat.div_div_eq_div_mul, ← Nat.pow_succ]
    have hqk : k / 10 ^ i ≤ k := Nat.div_le_self _ _
    generalize k / 10 ^ i = q at *
    have e1 : IntKind.u8.wrap (IntKind.u32.wrap (48 + (q : Int) % 10)) = ((dg q).toNat : Int) := by
      rw [hg, wrap_u32 (by omega) (by omega), wrap_u8 (by omega) (by omega)]
      omega
    have e2 : (q : Int) / 10 = ((k / 10 ^ (i + 1) : Nat) : Int) := by rw [← hq]; rfl
    have hq2 : k / 10 ^ (i + 1) ≤ k := Nat.div_le_self _ _
    have e3 : bytesOf [AV.int IntKind.u8 ((dg q).toNat : Int)] = some [dg q] := bytesOf_ofByte (l := [dg q])
    have e4 : (k : Int) / 10 ^ (i + 1) = ((k / 10 ^ (i + 1) : Nat) : Int) := by simp
    generalize k / 10 ^ (i + 1) = q2 at *
    have e5 : IntKind.u32.wrap (q2 : Int) = (q2 : Int) := wrap_u32 (by omega) (by omega)
    simp (config := { maxSteps := 1000000 }) (disch := omega) [-List.map_replicate, -List.map_set, -List.getD_eq_getElem?_getD, -getElem?_pos, -getElem?_neg, wrap_i64, le_strLim, le_sliceLim, le_buildLim, le_sliceLimI, Int.tmod_eq_emod_of_nonneg, Int.tdiv_eq_ediv_of_nonneg, omLe, omLeN, omLt, omLtN, omEq, omEqN, onLe, onLeN, onLt, onLtN, onEq, onEqN, h1, hl, e1, e2, e3, Cfg.descOf]
    exact ⟨i + 1, by omega, by omega, by rw [e5, e4], hd.symm, by omega⟩
  · have hi : i = 10 := by omega
    subst hi
    have hl := digs_len 10 k
    have ht := ansTrimLeft (digs 10 k) (by omega) (by intro h; rw [h] at hl; simp at hl)
    have hl2 := trimZ_len (digs 10 k)
    unfold numT
    simp (config := { maxSteps := 1000000 }) (disch := omega) [-List.map_replicate, -List.map_set, -List.getD_eq_getElem?_getD, -getElem?_pos, -getElem?_neg, wrap_i64, le_strLim, le_sliceLim, le_buildLim, le_sliceLimI, Int.tmod_eq_emod_of_nonneg, Int.tdiv_eq_ediv_of_nonneg, omLe, omLeN, omLt, omLtN, omEq, omEqN, onLe, onLeN, onLt, onLtN, onEq, onEqN, h1, ht]

theorem numT_len (k : Nat) : (numT k).length ≤ 11 := by
  unfold numT
  have := trimZ_len (digs 10 k)
  rw [digs_len] at this
  simp; omega
theorem ansOrderS (a b c : Str) (m n : Nat) (hm : m < 4294967296) (hn : n < 4294967296) : ansF cfg 9 [.str a, .str b, .str c, .int .u32 m, .int .u32 n] [] = some (.bool true, []) := by
  have hL := ansLong none [a, b, c] (by simp)
  refine ans_of_wp fn9 low9 ?_
  cases hl : longB [a, b, c] with
  | true =>
    rw [hl] at hL
    simp only [strA, List.map_cons, List.map_nil] at hL
    simp (config := { maxSteps := 1000000 }) (disch := omega) [-List.map_replicate, -List.map_set, -List.getD_eq_getElem?_getD, -getElem?_pos, -getElem?_neg, wrap_i64, le_strLim, le_sliceLim, le_buildLim, le_sliceLimI, Int.tmod_eq_emod_of_nonneg, Int.tdiv_eq_ediv_of_nonneg, omLe, omLeN, omLt, omLtN, omEq, omEqN, onLe, onLeN, onLt, onLtN, onEq, onEqN, ir9, awake, hL]
  | false =>
    have ha := long_not hl a (by simp)
    have hb := long_not hl b (by simp)
    have hc := long_not hl c (by simp)
    rw [hl] at hL
    simp only [strA, List.map_cons, List.map_nil] at hL
    have a1 := ansCompare a b (by omega) (by omega)
    have a2 := ansCompare b c (by omega) (by omega)
    have a3 := ansCompare a c (by omega) (by omega)
    have a4 := ansCompare a a (by omega) (by omega)
    have a5 := ansCompare b a (by omega) (by omega)
    rw [cmpS_self] at a4
    rw [cmpS_swap a b] at a5
    have t1 := cmpS_trans a b c
    have t2 := cmpS_trans c b a
    rw [cmpS_swap b c, cmpS_swap a b, cmpS_swap a c] at t2
    have x1 := cmpS_one a b
    have z1 := @cmpS_zero a b
    generalize cmpS a b = x at *
    generalize cmpS b c = y at *
    generalize cmpS a c = z at *
    have b1 := ansNumT m hm
    have b2 := ansNumT n hn
    have t3 : 0 ≤ x → 0 ≤ y → 0 ≤ z := fun h1 h2 => by have := t2 (by omega) (by omega); omega
    have z2 : (x == 0) = (a == b) := by
      rw [Bool.eq_iff_iff, beq_iff_eq, beq_iff_eq]; exact z1
    have l1 := numT_len m
    have l2 := numT_len n
    simp (config := { maxSteps := 1000000 }) (disch := omega) [-List.map_replicate, -List.map_set, -List.getD_eq_getElem?_getD, -getElem?_pos, -getElem?_neg, wrap_i64, le_strLim, le_sliceLim, le_buildLim, le_sliceLimI, Int.tmod_eq_emod_of_nonneg, Int.tdiv_eq_ediv_of_nonneg, omLe, omLeN, omLt, omLtN, omEq, omEqN, onLe, onLeN, onLt, onLtN, onEq, onEqN, ir9, awake, hL, a1, a2, a3, a4, a5, b1, b2]
    refine ⟨⟨⟨by rw [z2], t1⟩, t3⟩, fun hm0 hn0 hmn => ?_⟩
    have hmn' : m ≠ n := fun h => hmn (by rw [h])
    have hc := cmpS_num m n hm0 hn0 hmn' hm hn
    have a6 := ansCompare ([78, 111, 46, 32] ++ numT m) ([78, 111, 46, 32] ++ numT n) (by simp; omega) (by simp; omega)
    rw [hc] at a6
    simp only [List.cons_append, List.nil_append] at a6
    generalize numT m = u at *
    generalize numT n = v at *
    by_cases hlt : m < n
    · rw [if_pos hlt] at a6
      simp (config := { maxSteps := 1000000 }) (disch := omega) [-List.map_replicate, -List.map_set, -List.getD_eq_getElem?_getD, -getElem?_pos, -getElem?_neg, wrap_i64, le_strLim, le_sliceLim, le_buildLim, le_sliceLimI, Int.tmod_eq_emod_of_nonneg, Int.tdiv_eq_ediv_of_nonneg, omLe, omLeN, omLt, omLtN, omEq, omEqN, onLe, onLeN, onLt, onLtN, onEq, onEqN, a6, hlt]
    · rw [if_neg hlt] at a6
      simp (config := { maxSteps := 1000000 }) (disch := omega) [-List.map_replicate, -List.map_set, -List.getD_eq_getElem?_getD, -getElem?_pos, -getElem?_neg, wrap_i64, le_strLim, le_sliceLim, le_buildLim, le_sliceLimI, Int.tmod_eq_emod_of_nonneg, Int.tdiv_eq_ediv_of_nonneg, omLe, omLeN, omLt, omLtN, omEq, omEqN, onLe, onLeN, onLt, onLtN, onEq, onEqN, a6, hlt]
theorem args_order {xs : List AV} (h : ShpArgs Tryz.prog [9, 9, 9, 62, 62] xs) : ∃ (s t u : Str) (m n : Nat), xs = [.str s, .str t, .str u, .int .u32 m, .int .u32 n] ∧ m < 4294967296 ∧ n < 4294967296 := by
  obtain ⟨n, cs, r, rfl, h1, n2, cs2, r2, rfl, h2, n3, cs3, r3, rfl, h3, n4, cs4, r4, rfl, h4, n5, cs5, r5, rfl, h5, h6⟩ := h
  subst h6
  obtain ⟨s, rfl, _⟩ := h1.str (by kernel_rfl)
  obtain ⟨t, rfl, _⟩ := h2.str (by kernel_rfl)
  obtain ⟨u, rfl, _⟩ := h3.str (by kernel_rfl)
  obtain ⟨a, rfl, ha⟩ := h4.int (k := .u32) (by kernel_rfl)
  obtain ⟨b, rfl, hb⟩ := h5.int (k := .u32) (by kernel_rfl)
  simp [Lit.wf, IntKind.min, IntKind.max, IntKind.signed, IntKind.bits] at ha hb
  obtain ⟨a, rfl⟩ := Int.eq_ofNat_of_zero_le ha.1
  obtain ⟨b, rfl⟩ := Int.eq_ofNat_of_zero_le hb.1
  exact ⟨s, t, u, a, b, rfl, by omega, by omega⟩
theorem ansOrder {xs : List AV} (h : ShpArgs Tryz.prog [9, 9, 9, 62, 62] xs) : ansF cfg 9 xs [] = some (.bool true, []) := by
  obtain ⟨s, t, u, m, n, rfl, hm, hn⟩ := args_order h
  exact ansOrderS s t u m n hm hn
end Go.Proofs.YtlolhkjjbgpfbaaGreatDoor
