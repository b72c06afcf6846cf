/-
  The order of texts (plain).
-/
import Derived.Test.YtlolhkjjbgpfbaaGreatDoorCmpM
set_option linter.all false
namespace Go.Proofs.YtlolhkjjbgpfbaaGreatDoor
open Go.Am
set_option maxRecDepth 10000
set_option maxHeartbeats 4000000
theorem cb_swap : ∀ a b : Str, Lib.compareBytes b a = - Lib.compareBytes a b
  | [], [] => by simp [Lib.compareBytes]
  | [], _ :: _ => by simp [Lib.compareBytes]
  | _ :: _, [] => by simp [Lib.compareBytes]
  | a :: x, b :: y => by
    have ih := cb_swap x y
    unfold Lib.compareBytes
    by_cases l1 : a < b
    · have l2 : ¬ b < a := UInt8.lt_asymm l1
      rw [if_pos l1, if_neg l2, if_pos l1]; rfl
    · by_cases l2 : b < a
      · rw [if_pos l2, if_neg l1, if_pos l2]
      · rw [if_neg l1, if_neg l2, if_neg l1, if_neg l2, ih]
theorem cb_trans : ∀ a b c : Str, Lib.compareBytes a b ≤ 0 → Lib.compareBytes b c ≤ 0 → Lib.compareBytes a c ≤ 0 ∧ (Lib.compareBytes a c = 0 → Lib.compareBytes a b = 0 ∧ Lib.compareBytes b c = 0)
  | [], [], [] => by simp [Lib.compareBytes]
  | [], [], _ :: _ => by simp [Lib.compareBytes]
  | [], _ :: _, [] => by simp [Lib.compareBytes]
  | [], _ :: _, _ :: _ => by simp [Lib.compareBytes]
  | _ :: _, [], _ => by simp [Lib.compareBytes]
  | _ :: _, _ :: _, [] => by simp [Lib.compareBytes]
  | a :: x, b :: y, c :: z => by
    have ih := cb_trans x y z
    unfold Lib.compareBytes
    simp only [UInt8.lt_iff_toNat_lt]
    intro h1 h2
    by_cases l1 : a.toNat < b.toNat
    · rw [if_pos l1] at h1 ⊢
      by_cases l2 : b.toNat < c.toNat
      · rw [if_pos (by omega)]; exact ⟨by decide, fun h => absurd h (by decide)⟩
      · rw [if_neg l2] at h2
        by_cases l3 : c.toNat < b.toNat
        · rw [if_pos l3] at h2; exact absurd h2 (by decide)
        · rw [if_pos (by omega)]; exact ⟨by decide, fun h => absurd h (by decide)⟩
    · rw [if_neg l1] at h1 ⊢
      by_cases l3 : b.toNat < a.toNat
      · rw [if_pos l3] at h1; exact absurd h1 (by decide)
      · rw [if_neg l3] at h1 ⊢
        by_cases l2 : b.toNat < c.toNat
        · rw [if_pos (by omega)]; exact ⟨by decide, fun h => absurd h (by decide)⟩
        · rw [if_neg l2] at h2 ⊢
          by_cases l4 : c.toNat < b.toNat
          · rw [if_pos l4] at h2; exact absurd h2 (by decide)
          · rw [if_neg l4] at h2 ⊢
            rw [if_neg (by omega), if_neg (by omega)]
            exact ih h1 h2
theorem cb_one (a b : Str) : Lib.compareBytes a b = -1 ∨ Lib.compareBytes a b = 0 ∨ Lib.compareBytes a b = 1 := (cb_facts a b).2.2
theorem cb_zero {a b : Str} (h : Lib.compareBytes a b = 0) : a = b := (cb_facts a b).2.1.1 h
theorem cb_self (a : Str) : Lib.compareBytes a a = 0 := (cb_facts a a).2.1.2 rfl
theorem cmpS_self (a : Str) : cmpS a a = 0 := by
  unfold cmpS orI
  rw [cb_self, cb_self, if_pos rfl]
theorem cmpS_swap (a b : Str) : cmpS b a = - cmpS a b := by
  unfold cmpS orI
  rw [cb_swap (keyS a) (keyS b), cb_swap a b]
  split <;> split <;> omega
theorem cmpS_zero {a b : Str} : cmpS a b = 0 ↔ a = b := by
  constructor
  · unfold cmpS orI
    intro h
    split at h
    · exact cb_zero h
    · contradiction
  · rintro rfl; exact cmpS_self a
theorem cmpS_one (a b : Str) : cmpS a b = -1 ∨ cmpS a b = 0 ∨ cmpS a b = 1 := by
  unfold cmpS orI
  have h1 := cb_one (keyS a) (keyS b)
  have h2 := cb_one a b
  split
  · exact h2
  · exact h1
theorem cmpS_trans (a b c : Str) (h1 : cmpS a b ≤ 0) (h2 : cmpS b c ≤ 0) : cmpS a c ≤ 0 := by
  unfold cmpS orI at *
  have k := cb_trans (keyS a) (keyS b) (keyS c)
  have m := cb_trans a b c
  by_cases e1 : Lib.compareBytes (keyS a) (keyS b) = 0
  · rw [if_pos e1] at h1
    by_cases e2 : Lib.compareBytes (keyS b) (keyS c) = 0
    · rw [if_pos e2] at h2
      have e3 : Lib.compareBytes (keyS a) (keyS c) = 0 := by rw [cb_zero e1, cb_zero e2]; exact cb_self _
      rw [if_pos e3]
      exact (m h1 h2).1
    · rw [if_neg e2] at h2
      have := (k (by omega) h2)
      rw [if_neg (fun h => e2 (this.2 h).2)]
      exact this.1
  · rw [if_neg e1] at h1
    have h2' : Lib.compareBytes (keyS b) (keyS c) ≤ 0 := by
      split at h2
      · omega
      · exact h2
    have := (k h1 h2')
    rw [if_neg (fun h => e1 (this.2 h).1)]
    exact this.1
def dg (k : Nat) : UInt8 := UInt8.ofNat (48 + k % 10)
theorem dg_nat (k : Nat) : (dg k).toNat = 48 + k % 10 := by
  unfold dg
  rw [UInt8.toNat_ofNat']
  omega
def digs : Nat → Nat → Str
  | 0, _ => []
  | j + 1, k => digs j (k / 10) ++ [dg k]
theorem digs_len : ∀ j k, (digs j k).length = j
  | 0, _ => rfl
  | j + 1, k => by simp [digs, digs_len j]
theorem digs_dig : ∀ j k, ∀ c ∈ digs j k, 48 ≤ c.toNat ∧ c.toNat ≤ 57
  | 0, _, c, h => by cases h
  | j + 1, k, c, h => by
    simp only [digs, List.mem_append, List.mem_singleton] at h
    rcases h with h | rfl
    · exact digs_dig j _ c h
    · rw [dg_nat]; omega
theorem cb_snoc : ∀ (u v : Str) (x y : UInt8), u.length = v.length → Lib.compareBytes (u ++ [x]) (v ++ [y]) = if Lib.compareBytes u v = 0 then Lib.compareBytes [x] [y] else Lib.compareBytes u v
  | [], [], x, y, _ => by rw [show Lib.compareBytes [] [] = 0 from rfl, if_pos rfl]; rfl
  | [], _ :: _, _, _, h => by simp at h
  | _ :: _, [], _, _, h => by simp at h
  | a :: u, b :: v, x, y, h => by
    have ih := cb_snoc u v x y (by simpa using h)
    simp only [List.cons_append]
    rw [Lib.compareBytes, Lib.compareBytes, ih]
    by_cases l1 : a < b
    · rw [if_pos l1, if_pos l1, if_neg (by decide)]
    · by_cases l2 : b < a
      · rw [if_neg l1, if_pos l2, if_neg l1, if_pos l2, if_neg (by decide)]
      · rw [if_neg l1, if_neg l2, if_neg l1, if_neg l2]
theorem cb_digs : ∀ (j m n : Nat), m < 10 ^ j → n < 10 ^ j → Lib.compareBytes (digs j m) (digs j n) = if m < n then -1 else if n < m then 1 else 0
  | 0, m, n, hm, hn => by
    have : m = 0 := by simpa using hm
    have : n = 0 := by simpa using hn
    subst m n
    rfl
  | j + 1, m, n, hm, hn => by
    have hp : 10 ^ (j + 1) = 10 ^ j * 10 := Nat.pow_succ ..
    have ih := cb_digs j (m / 10) (n / 10) (by omega) (by omega)
    rw [digs, digs, cb_snoc _ _ _ _ (by rw [digs_len, digs_len]), ih]
    have h1 : Lib.compareBytes [dg m] [dg n] = if m % 10 < n % 10 then -1 else if n % 10 < m % 10 then 1 else 0 := by
      simp only [Lib.compareBytes, UInt8.lt_iff_toNat_lt, dg_nat]
      by_cases l1 : m % 10 < n % 10
      · rw [if_pos (by omega), if_pos l1]
      · by_cases l2 : n % 10 < m % 10
        · rw [if_neg (by omega), if_pos (by omega), if_neg l1, if_pos l2]
        · rw [if_neg (by omega), if_neg (by omega), if_neg l1, if_neg l2]
    rw [h1]
    by_cases a1 : m / 10 < n / 10
    · rw [if_pos a1, if_neg (by decide), if_pos (by omega)]
    · by_cases a2 : n / 10 < m / 10
      · rw [if_neg a1, if_pos a2, if_neg (by decide), if_neg (by omega), if_pos (by omega)]
      · rw [if_neg a1, if_neg a2, if_pos rfl]
        by_cases b1 : m % 10 < n % 10
        · rw [if_pos b1, if_pos (by omega)]
        · by_cases b2 : n % 10 < m % 10
          · rw [if_neg b1, if_pos b2, if_neg (by omega), if_pos (by omega)]
          · rw [if_neg b1, if_neg b2, if_neg (by omega), if_neg (by omega)]
def trimZ : Str → Str
  | 48 :: r => trimZ r
  | w => w
theorem trimZ_spec : ∀ w : Str, ∃ z, w = List.replicate z 48 ++ trimZ w
  | [] => ⟨0, rfl⟩
  | c :: r => by
    by_cases h : c = 48
    · subst h
      obtain ⟨z, hz⟩ := trimZ_spec r
      exact ⟨z + 1, by rw [List.replicate_succ, List.cons_append, trimZ, ← hz]⟩
    · refine ⟨0, ?_⟩
      unfold trimZ
      split
      · rename_i h'; cases h'; exact absurd rfl h
      · rfl
theorem trimZ_head : ∀ w : Str, (trimZ w).head? ≠ some 48
  | [] => by simp [trimZ]
  | c :: r => by
    by_cases h : c = 48
    · subst h
      rw [trimZ]
      exact trimZ_head r
    · unfold trimZ
      split
      · rename_i h'; cases h'; exact absurd rfl h
      · simp [h]
theorem trimZ_len (w : Str) : (trimZ w).length ≤ w.length := by
  obtain ⟨z, hz⟩ := trimZ_spec w
  have := congrArg List.length hz
  simp at this
  omega
theorem trimZ_mem {w : Str} {c : UInt8} (h : c ∈ trimZ w) : c ∈ w := by
  obtain ⟨z, hz⟩ := trimZ_spec w
  rw [hz]
  simp [h]
theorem stripZ_trim {w : Str} (h : w.head? ≠ some 48) : stripZ w = w := by
  unfold stripZ
  split
  · simp at h
  · rfl
theorem repeatL_rep (n : Nat) : Lib.repeatL [48] n = List.replicate n 48 := by
  induction n with
  | zero => rfl
  | succ n ih => simp [Lib.repeatL, ih, List.replicate_succ]
theorem wordsGo_digs : ∀ (d w : Str), (∀ c ∈ d, 48 ≤ c.toNat ∧ c.toNat ≤ 57) → wordsGo (d ++ [46]) w = if w ++ d = [] then [] else [w ++ d]
  | [], w, _ => by
    have hp : partB 46 = false := by decide
    simp only [List.nil_append, wordsGo, hp, Bool.false_eq_true, if_false, List.append_nil]
    by_cases hw : w = []
    · rw [if_pos hw, if_pos hw]; rfl
    · rw [if_neg hw, if_neg hw]; rfl
  | c :: d, w, h => by
    have hc := h c (by simp)
    have hp : partB c = true := by
      rw [part_iff, decide_eq_true_eq]; exact .inl hc
    have hl : lowB c = c := by
      unfold lowB
      rw [if_neg (by omega)]
    simp only [List.cons_append, wordsGo, hp, if_true, hl]
    rw [wordsGo_digs d _ (fun c hc => h c (by simp [hc]))]
    simp
theorem wordsL_no (d : Str) (hd : ∀ c ∈ d, 48 ≤ c.toNat ∧ c.toNat ≤ 57) (hne : d ≠ []) : wordsL ([78, 111, 46, 32] ++ (d ++ [46])) = [[110, 111], d] := by
  have h : wordsL ([78, 111, 46, 32] ++ (d ++ [46])) = [110, 111] :: wordsGo (d ++ [46]) [] := by rfl
  rw [h, wordsGo_digs d [] hd, List.nil_append, if_neg hne]
def numT (k : Nat) : Str := trimZ (digs 10 k) ++ [46]
theorem digs_zero : ∀ j k, k < 10 ^ j → (∀ c ∈ digs j k, c = 48) → k = 0
  | 0, k, h, _ => by simpa using h
  | j + 1, k, h, hc => by
    have hp : 10 ^ (j + 1) = 10 ^ j * 10 := Nat.pow_succ ..
    have h1 := digs_zero j (k / 10) (by omega) (fun c h => hc c (by simp [digs, h]))
    have h2 := congrArg UInt8.toNat (hc (dg k) (by simp [digs]))
    rw [dg_nat] at h2
    have : (48 : UInt8).toNat = 48 := rfl
    omega
theorem keyS_num (k : Nat) (h0 : k ≠ 0) (hk : k < 4294967296) : keyS ([78, 111, 46, 32] ++ numT k) = [110, 111, 32, 48, 48] ++ digs 10 k := by
  obtain ⟨z, hz⟩ := trimZ_spec (digs 10 k)
  have hh := trimZ_head (digs 10 k)
  have hd : ∀ c ∈ trimZ (digs 10 k), 48 ≤ c.toNat ∧ c.toNat ≤ 57 := fun c hc => digs_dig 10 k c (trimZ_mem hc)
  have hne : trimZ (digs 10 k) ≠ [] := by
    intro h
    rw [h, List.append_nil] at hz
    exact h0 (digs_zero 10 k (by omega) (fun c hc => by rw [hz] at hc; exact (List.mem_replicate.1 hc).2))
  have hl := congrArg List.length hz
  rw [digs_len, List.length_append, List.length_replicate] at hl
  unfold numT keyS keyW
  rw [wordsL_no _ hd hne]
  generalize trimZ (digs 10 k) = d at *
  rw [hz]
  have ha : dropArt [[110, 111], d] = [[110, 111], d] := rfl
  have hn : numS [110, 111] = [110, 111] := rfl
  have hn2 : numS d = padS d := by
    unfold numS
    rw [if_pos (by rw [List.all_eq_true]; intro c hc; unfold digB; rw [decide_eq_true_eq]; exact hd c hc), stripZ_trim hh]
  rw [ha, List.map_cons, List.map_cons, List.map_nil, hn, hn2]
  unfold padS
  have hp : (List.replicate (12 - d.length) 48 : Str) = 48 :: 48 :: List.replicate z 48 := by
    rw [show 12 - d.length = z + 1 + 1 by omega, List.replicate_succ, List.replicate_succ]
  rw [repeatL_rep, hp]
  simp [Lib.join, List.intercalate, List.intersperse]
theorem cmpS_num (m n : Nat) (hm : m ≠ 0) (hn : n ≠ 0) (hmn : m ≠ n) (h1 : m < 4294967296) (h2 : n < 4294967296) :
    cmpS ([78, 111, 46, 32] ++ numT m) ([78, 111, 46, 32] ++ numT n) = if m < n then -1 else 1 := by
  unfold cmpS orI
  rw [keyS_num m hm h1, keyS_num n hn h2]
  have e : ∀ a b : Str, Lib.compareBytes ([110, 111, 32, 48, 48] ++ a) ([110, 111, 32, 48, 48] ++ b) = Lib.compareBytes a b := fun a b => by
    simp [Lib.compareBytes]
  rw [e, cb_digs 10 m n (by omega) (by omega)]
  by_cases l : m < n
  · simp only [if_pos l]
    rw [if_neg (by decide)]
  · have l2 : n < m := by omega
    simp only [if_neg l, if_pos l2]
    rw [if_neg (by decide)]
end Go.Proofs.YtlolhkjjbgpfbaaGreatDoor
