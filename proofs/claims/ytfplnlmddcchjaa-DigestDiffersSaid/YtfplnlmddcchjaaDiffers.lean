/-
  DigestDiffers: Keccak's permutation is one to one.
-/
import Derived.Test.YtfplnlmddcchjaaLaws
namespace Go.Proofs.Ytfplnlmddcchjaa
open Go.Am Go.RowKit
set_option maxRecDepth 10000
set_option maxHeartbeats 4000000

/-! ### Rotations -/

theorem rot_bit (x : BitVec 64) (n j : Nat) (hn : n < 64) (hj : j < 64) : (rot x n).getLsbD j = x.getLsbD ((j + 64 - n) % 64) := by
  simp only [rot, BitVec.getLsbD_or, BitVec.getLsbD_shiftLeft, BitVec.getLsbD_ushiftRight]
  by_cases h : j < n
  · have e : (j + 64 - n) % 64 = 64 - n + j := by omega
    simp [h, e, hj]
  · have e : (j + 64 - n) % 64 = j - n := by omega
    have e2 : x.getLsbD (64 - n + j) = false := BitVec.getLsbD_of_ge x _ (by omega)
    simp [h, e, hj, e2]
theorem bits_eq {x y : BitVec 64} (h : ∀ j, j < 64 → x.getLsbD j = y.getLsbD j) : x = y := BitVec.eq_of_getLsbD_eq fun i hi => h i hi
theorem rot_inj {x y : BitVec 64} (n : Nat) (hn : n < 64) (h : rot x n = rot y n) : x = y := bits_eq fun j hj => by
  have h1 := congrArg (fun z => z.getLsbD ((j + n) % 64)) h
  simp only [rot_bit x n _ hn (Nat.mod_lt _ (by omega)), rot_bit y n _ hn (Nat.mod_lt _ (by omega))] at h1
  have e : ((j + n) % 64 + 64 - n) % 64 = j := by omega
  rwa [e] at h1

/-! ### Rows -/

theorem chi_bits : ∀ a b c d e a' b' c' d' e' : Bool, (a ^^ (!b && c)) = (a' ^^ (!b' && c')) → (b ^^ (!c && d)) = (b' ^^ (!c' && d')) → (c ^^ (!d && e)) = (c' ^^ (!d' && e')) → (d ^^ (!e && a)) = (d' ^^ (!e' && a')) → (e ^^ (!a && b)) = (e' ^^ (!a' && b')) → a = a' ∧ b = b' ∧ c = c' ∧ d = d' ∧ e = e' := by decide +kernel
theorem chi_inj {a b c d e a' b' c' d' e' : BitVec 64} (h1 : a ^^^ (~~~ b &&& c) = a' ^^^ (~~~ b' &&& c')) (h2 : b ^^^ (~~~ c &&& d) = b' ^^^ (~~~ c' &&& d')) (h3 : c ^^^ (~~~ d &&& e) = c' ^^^ (~~~ d' &&& e')) (h4 : d ^^^ (~~~ e &&& a) = d' ^^^ (~~~ e' &&& a')) (h5 : e ^^^ (~~~ a &&& b) = e' ^^^ (~~~ a' &&& b')) : a = a' ∧ b = b' ∧ c = c' ∧ d = d' ∧ e = e' := by
  have h : ∀ j, j < 64 → a.getLsbD j = a'.getLsbD j ∧ b.getLsbD j = b'.getLsbD j ∧ c.getLsbD j = c'.getLsbD j ∧ d.getLsbD j = d'.getLsbD j ∧ e.getLsbD j = e'.getLsbD j := by
    intro j hj
    have k1 := congrArg (fun z => z.getLsbD j) h1
    have k2 := congrArg (fun z => z.getLsbD j) h2
    have k3 := congrArg (fun z => z.getLsbD j) h3
    have k4 := congrArg (fun z => z.getLsbD j) h4
    have k5 := congrArg (fun z => z.getLsbD j) h5
    simp only [BitVec.getLsbD_xor, BitVec.getLsbD_and, BitVec.getLsbD_not, hj, decide_true, Bool.true_and] at k1 k2 k3 k4 k5
    exact chi_bits _ _ _ _ _ _ _ _ _ _ k1 k2 k3 k4 k5
  exact ⟨bits_eq fun j hj => (h j hj).1, bits_eq fun j hj => (h j hj).2.1, bits_eq fun j hj => (h j hj).2.2.1, bits_eq fun j hj => (h j hj).2.2.2.1, bits_eq fun j hj => (h j hj).2.2.2.2⟩

/-! ### Columns -/

theorem double {e : Nat → Nat → Bool} {k : Nat} (h : ∀ x j, e x j = (e (x + 4 * k) j ^^ e (x + k) (j + 63 * k))) : ∀ x j, e x j = (e (x + 4 * (2 * k)) j ^^ e (x + 2 * k) (j + 63 * (2 * k))) := by
  intro x j
  have h1 := h x j
  have h2 := h (x + 4 * k) j
  have h3 := h (x + k) (j + 63 * k)
  rw [show x + 4 * k + 4 * k = x + 4 * (2 * k) by omega, show x + 4 * k + k = x + 5 * k by omega] at h2
  rw [show x + k + 4 * k = x + 5 * k by omega, show x + k + k = x + 2 * k by omega, show j + 63 * k + 63 * k = j + 63 * (2 * k) by omega] at h3
  rw [h1, h2, h3]
  cases e (x + 4 * (2 * k)) j <;> cases e (x + 5 * k) (j + 63 * k) <;> cases e (x + 2 * k) (j + 63 * (2 * k)) <;> rfl

theorem cols_zero {e : Nat → Nat → Bool} (p5 : ∀ x j, e (x + 5) j = e x j) (p64 : ∀ x j, e x (j + 64) = e x j) (h : ∀ x j, e x j = (e (x + 4) j ^^ e (x + 1) (j + 63))) : ∀ x j, e x j = false := by
  have h1 : ∀ x j, e x j = (e (x + 4 * 1) j ^^ e (x + 1) (j + 63 * 1)) := h
  have h64 := double (double (double (double (double (double h1)))))
  simp only [Nat.reduceMul] at h64
  have q5 : ∀ n x j, e (x + 5 * n) j = e x j := by
    intro n
    induction n with
    | zero => intros; rfl
    | succ n ih => intro x j; rw [show x + 5 * (n + 1) = x + 5 * n + 5 by omega, p5, ih]
  have q64 : ∀ n x j, e x (j + 64 * n) = e x j := by
    intro n
    induction n with
    | zero => intros; rfl
    | succ n ih => intro x j; rw [show j + 64 * (n + 1) = j + 64 * n + 64 by omega, p64, ih]
  intro x j
  have F : ∀ x, e x j = (e (x + 1) j ^^ e (x + 4) j) := by
    intro x
    have := h64 x j
    rw [show x + 256 = x + 1 + 5 * 51 by omega, q5, show x + 64 = x + 4 + 5 * 12 by omega, q5, show j + 4032 = j + 64 * 63 by omega, q64] at this
    exact this
  have f0 := F x
  have f1 := F (x + 1)
  have f2 := F (x + 2)
  have f3 := F (x + 3)
  have f4 := F (x + 4)
  simp only [Nat.add_assoc, Nat.reduceAdd] at f1 f2 f3 f4
  rw [p5] at f1
  rw [show x + 6 = x + 1 + 5 by omega, p5] at f2
  rw [show x + 7 = x + 2 + 5 by omega, p5] at f3
  rw [p5, show x + 8 = x + 3 + 5 by omega, p5] at f4
  revert f0 f1 f2 f3 f4
  generalize e x j = a
  generalize e (x + 1) j = b
  generalize e (x + 2) j = c
  generalize e (x + 3) j = d
  generalize e (x + 4) j = f
  revert a b c d f
  decide

theorem five : ∀ p q p' q' b0 b1 b2 b3 b4 : Bool, ((((((b0 ^^ (p ^^ q ^^ p' ^^ q')) ^^ (b1 ^^ (p ^^ q ^^ p' ^^ q'))) ^^ (b2 ^^ (p ^^ q ^^ p' ^^ q'))) ^^ (b3 ^^ (p ^^ q ^^ p' ^^ q'))) ^^ (b4 ^^ (p ^^ q ^^ p' ^^ q'))) ^^ (((((b0 ^^ b1) ^^ b2) ^^ b3) ^^ b4))) = ((p ^^ p') ^^ (q ^^ q')) := by decide +kernel
theorem solve1 : ∀ a p q b p' q' : Bool, ((a ^^ p) ^^ q) = ((b ^^ p') ^^ q') → a = (b ^^ (p ^^ q ^^ p' ^^ q')) := by decide +kernel
theorem solve2 : ∀ a p q b : Bool, ((a ^^ p) ^^ q) = ((b ^^ p) ^^ q) → a = b := by decide +kernel
/-- sums of columns differ as their neighbours do -/
theorem five_eq {p q p' q' a0 a1 a2 a3 a4 b0 b1 b2 b3 b4 : Bool} (h0 : ((a0 ^^ p) ^^ q) = ((b0 ^^ p') ^^ q')) (h1 : ((a1 ^^ p) ^^ q) = ((b1 ^^ p') ^^ q')) (h2 : ((a2 ^^ p) ^^ q) = ((b2 ^^ p') ^^ q')) (h3 : ((a3 ^^ p) ^^ q) = ((b3 ^^ p') ^^ q')) (h4 : ((a4 ^^ p) ^^ q) = ((b4 ^^ p') ^^ q')) :
    (((((a0 ^^ a1) ^^ a2) ^^ a3) ^^ a4) ^^ ((((b0 ^^ b1) ^^ b2) ^^ b3) ^^ b4)) = ((p ^^ p') ^^ (q ^^ q')) := by
  rw [solve1 _ _ _ _ _ _ h0, solve1 _ _ _ _ _ _ h1, solve1 _ _ _ _ _ _ h2, solve1 _ _ _ _ _ _ h3, solve1 _ _ _ _ _ _ h4]
  exact five p q p' q' b0 b1 b2 b3 b4

/-! ### Steps of a round, as functions of the place -/

/-- the sum of a column -/
def col (a : Nat → BitVec 64) (x : Nat) : BitVec 64 := 0#64 ^^^ a (x % 5) ^^^ a (x % 5 + 5) ^^^ a (x % 5 + 10) ^^^ a (x % 5 + 15) ^^^ a (x % 5 + 20)
def theta (a : Nat → BitVec 64) (i : Nat) : BitVec 64 := a i ^^^ col a (i + 4) ^^^ rot (col a (i + 1)) 1

theorem theta_inj {a b : Nat → BitVec 64} (h : ∀ i, i < 25 → theta a i = theta b i) : ∀ i, i < 25 → a i = b i := by
  have hb : ∀ i j, i < 25 → j < 64 → (((a i).getLsbD j ^^ (col a (i + 4)).getLsbD j) ^^ (col a (i + 1)).getLsbD ((j + 63) % 64)) = (((b i).getLsbD j ^^ (col b (i + 4)).getLsbD j) ^^ (col b (i + 1)).getLsbD ((j + 63) % 64)) := by
    intro i j hi hj
    have := congrArg (fun z => z.getLsbD j) (h i hi)
    simp only [theta, BitVec.getLsbD_xor, rot_bit _ 1 j (by omega) hj] at this
    exact this
  have hm : ∀ (a : Nat → BitVec 64) x y, x % 5 = y % 5 → col a x = col a y := by
    intro a x y e; simp only [col, e]
  have hz := cols_zero (e := fun x j => (col a x).getLsbD (j % 64) ^^ (col b x).getLsbD (j % 64)) (by
    intro x j
    simp only [hm a (x + 5) x (by omega), hm b (x + 5) x (by omega)]) (by
    intro x j
    simp only [Nat.add_mod_right]) (by
    intro x j
    have hj : j % 64 < 64 := Nat.mod_lt _ (by omega)
    have g : ∀ y, y < 5 → _ := fun y hy => hb (x % 5 + 5 * y) (j % 64) (by omega) hj
    simp only [show ∀ y, (col a (x % 5 + 5 * y + 4)) = col a (x + 4) from fun y => hm a _ _ (by omega), show ∀ y, (col b (x % 5 + 5 * y + 4)) = col b (x + 4) from fun y => hm b _ _ (by omega), show ∀ y, (col a (x % 5 + 5 * y + 1)) = col a (x + 1) from fun y => hm a _ _ (by omega), show ∀ y, (col b (x % 5 + 5 * y + 1)) = col b (x + 1) from fun y => hm b _ _ (by omega)] at g
    have f := five_eq (g 0 (by omega)) (g 1 (by omega)) (g 2 (by omega)) (g 3 (by omega)) (g 4 (by omega))
    rw [show (j % 64 + 63) % 64 = (j + 63) % 64 by omega] at f
    rw [← f]
    simp only [col, BitVec.getLsbD_xor, BitVec.getLsbD_zero, Bool.false_xor, Nat.reduceMul, Nat.add_zero])
  have hc : ∀ x, col a x = col b x := fun x => bits_eq fun j hj => by
    have := hz x j
    rw [Nat.mod_eq_of_lt hj] at this
    revert this
    generalize (col a x).getLsbD j = p
    generalize (col b x).getLsbD j = q
    revert p q
    decide
  intro i hi
  refine bits_eq fun j hj => ?_
  have := hb i j hi hj
  rw [hc, hc] at this
  exact solve2 _ _ _ _ this

def lanes (t : Nat → BitVec 64) (c : BitVec 64) : W :=
  [((rot (t 0) 0) ^^^ (~~~ (rot (t 6) 44) &&& (rot (t 12) 43))) ^^^ c,
  (rot (t 6) 44) ^^^ (~~~ (rot (t 12) 43) &&& (rot (t 18) 21)),
  (rot (t 12) 43) ^^^ (~~~ (rot (t 18) 21) &&& (rot (t 24) 14)),
  (rot (t 18) 21) ^^^ (~~~ (rot (t 24) 14) &&& (rot (t 0) 0)),
  (rot (t 24) 14) ^^^ (~~~ (rot (t 0) 0) &&& (rot (t 6) 44)),
  (rot (t 3) 28) ^^^ (~~~ (rot (t 9) 20) &&& (rot (t 10) 3)),
  (rot (t 9) 20) ^^^ (~~~ (rot (t 10) 3) &&& (rot (t 16) 45)),
  (rot (t 10) 3) ^^^ (~~~ (rot (t 16) 45) &&& (rot (t 22) 61)),
  (rot (t 16) 45) ^^^ (~~~ (rot (t 22) 61) &&& (rot (t 3) 28)),
  (rot (t 22) 61) ^^^ (~~~ (rot (t 3) 28) &&& (rot (t 9) 20)),
  (rot (t 1) 1) ^^^ (~~~ (rot (t 7) 6) &&& (rot (t 13) 25)),
  (rot (t 7) 6) ^^^ (~~~ (rot (t 13) 25) &&& (rot (t 19) 8)),
  (rot (t 13) 25) ^^^ (~~~ (rot (t 19) 8) &&& (rot (t 20) 18)),
  (rot (t 19) 8) ^^^ (~~~ (rot (t 20) 18) &&& (rot (t 1) 1)),
  (rot (t 20) 18) ^^^ (~~~ (rot (t 1) 1) &&& (rot (t 7) 6)),
  (rot (t 4) 27) ^^^ (~~~ (rot (t 5) 36) &&& (rot (t 11) 10)),
  (rot (t 5) 36) ^^^ (~~~ (rot (t 11) 10) &&& (rot (t 17) 15)),
  (rot (t 11) 10) ^^^ (~~~ (rot (t 17) 15) &&& (rot (t 23) 56)),
  (rot (t 17) 15) ^^^ (~~~ (rot (t 23) 56) &&& (rot (t 4) 27)),
  (rot (t 23) 56) ^^^ (~~~ (rot (t 4) 27) &&& (rot (t 5) 36)),
  (rot (t 2) 62) ^^^ (~~~ (rot (t 8) 55) &&& (rot (t 14) 39)),
  (rot (t 8) 55) ^^^ (~~~ (rot (t 14) 39) &&& (rot (t 15) 41)),
  (rot (t 14) 39) ^^^ (~~~ (rot (t 15) 41) &&& (rot (t 21) 2)),
  (rot (t 15) 41) ^^^ (~~~ (rot (t 21) 2) &&& (rot (t 2) 62)),
  (rot (t 21) 2) ^^^ (~~~ (rot (t 2) 62) &&& (rot (t 8) 55))]
theorem round_lanes (a0 a1 a2 a3 a4 a5 a6 a7 a8 a9 a10 a11 a12 a13 a14 a15 a16 a17 a18 a19 a20 a21 a22 a23 a24 c : BitVec 64) : roundP [a0, a1, a2, a3, a4, a5, a6, a7, a8, a9, a10, a11, a12, a13, a14, a15, a16, a17, a18, a19, a20, a21, a22, a23, a24] rots c = lanes (theta (fun n => [a0, a1, a2, a3, a4, a5, a6, a7, a8, a9, a10, a11, a12, a13, a14, a15, a16, a17, a18, a19, a20, a21, a22, a23, a24].getD n 0#64)) c := by kernel_rfl

theorem xor_inj {x y c : BitVec 64} (h : x ^^^ c = y ^^^ c) : x = y := by
  have := congrArg (· ^^^ c) h
  simpa [BitVec.xor_assoc] using this
theorem lanes_inj {t u : Nat → BitVec 64} {c : BitVec 64} (h : lanes t c = lanes u c) : ∀ i, i < 25 → t i = u i := by
  simp only [lanes, List.cons.injEq, and_true] at h
  obtain ⟨h0, h1, h2, h3, h4, h5, h6, h7, h8, h9, h10, h11, h12, h13, h14, h15, h16, h17, h18, h19, h20, h21, h22, h23, h24⟩ := h
  have h0 := xor_inj h0
  obtain ⟨k0, k1, k2, k3, k4⟩ := chi_inj h0 h1 h2 h3 h4
  obtain ⟨k5, k6, k7, k8, k9⟩ := chi_inj h5 h6 h7 h8 h9
  obtain ⟨k10, k11, k12, k13, k14⟩ := chi_inj h10 h11 h12 h13 h14
  obtain ⟨k15, k16, k17, k18, k19⟩ := chi_inj h15 h16 h17 h18 h19
  obtain ⟨k20, k21, k22, k23, k24⟩ := chi_inj h20 h21 h22 h23 h24
  have m0 := rot_inj 0 (by omega) k0
  have m6 := rot_inj 44 (by omega) k1
  have m12 := rot_inj 43 (by omega) k2
  have m18 := rot_inj 21 (by omega) k3
  have m24 := rot_inj 14 (by omega) k4
  have m3 := rot_inj 28 (by omega) k5
  have m9 := rot_inj 20 (by omega) k6
  have m10 := rot_inj 3 (by omega) k7
  have m16 := rot_inj 45 (by omega) k8
  have m22 := rot_inj 61 (by omega) k9
  have m1 := rot_inj 1 (by omega) k10
  have m7 := rot_inj 6 (by omega) k11
  have m13 := rot_inj 25 (by omega) k12
  have m19 := rot_inj 8 (by omega) k13
  have m20 := rot_inj 18 (by omega) k14
  have m4 := rot_inj 27 (by omega) k15
  have m5 := rot_inj 36 (by omega) k16
  have m11 := rot_inj 10 (by omega) k17
  have m17 := rot_inj 15 (by omega) k18
  have m23 := rot_inj 56 (by omega) k19
  have m2 := rot_inj 62 (by omega) k20
  have m8 := rot_inj 55 (by omega) k21
  have m14 := rot_inj 39 (by omega) k22
  have m15 := rot_inj 41 (by omega) k23
  have m21 := rot_inj 2 (by omega) k24
  intro i hi
  match i, hi with
  | 0, _ => exact m0
  | 1, _ => exact m1
  | 2, _ => exact m2
  | 3, _ => exact m3
  | 4, _ => exact m4
  | 5, _ => exact m5
  | 6, _ => exact m6
  | 7, _ => exact m7
  | 8, _ => exact m8
  | 9, _ => exact m9
  | 10, _ => exact m10
  | 11, _ => exact m11
  | 12, _ => exact m12
  | 13, _ => exact m13
  | 14, _ => exact m14
  | 15, _ => exact m15
  | 16, _ => exact m16
  | 17, _ => exact m17
  | 18, _ => exact m18
  | 19, _ => exact m19
  | 20, _ => exact m20
  | 21, _ => exact m21
  | 22, _ => exact m22
  | 23, _ => exact m23
  | 24, _ => exact m24
  | n + 25, h => omega

theorem round_lanes2 (a : W) (ha : a.length = 25) (c : BitVec 64) : roundP a rots c = lanes (theta (fun n => a.getD n 0#64)) c := by
  match a, ha with
  | [a0, a1, a2, a3, a4, a5, a6, a7, a8, a9, a10, a11, a12, a13, a14, a15, a16, a17, a18, a19, a20, a21, a22, a23, a24], _ => exact round_lanes a0 a1 a2 a3 a4 a5 a6 a7 a8 a9 a10 a11 a12 a13 a14 a15 a16 a17 a18 a19 a20 a21 a22 a23 a24 c
theorem round_inj {a b : W} (ha : a.length = 25) (hb : b.length = 25) (c : BitVec 64) (h : roundP a rots c = roundP b rots c) : a = b := by
  rw [round_lanes2 a ha, round_lanes2 b hb] at h
  have := theta_inj (lanes_inj h)
  refine List.ext_getElem (by omega) fun i h1 h2 => ?_
  have := this i (by omega)
  simpa [List.getD_eq_getElem?_getD, List.getElem?_eq_getElem h1, List.getElem?_eq_getElem h2] using this

theorem perm_inj {a b : W} (ha : a.length = 25) (hb : b.length = 25) : ∀ n, permP a n = permP b n → a = b := by
  intro n
  induction n with
  | zero => intro h; exact h
  | succ n ih =>
    intro h
    rw [permP, permP] at h
    exact ih (round_inj (permP_length a ha n) (permP_length b hb n) _ h)
theorem eq_bool (x y : Bool) : eqRec cfg 20 4 (.bool x) (.bool y) = some (x == y) := by simp

theorem ansDiffers {xs : List AV} (h : ShpArgs Try.prog [23, 23] xs) : ansF cfg 6 xs [] = some (.bool true, []) := by
  obtain ⟨a, b, ha, hb, rfl⟩ := args_state2 h
  refine ans_of_wp fn6 low6 ?_
  have e : decide (permP a 24 = permP b 24) = decide (a = b) := by
    by_cases h : a = b
    · subst h; simp
    · have : ¬ permP a 24 = permP b 24 := fun k => h (perm_inj ha hb 24 k)
      simp [h, this]
  have p1 := ansPermP a ha
  have p2 := ansPermP b hb
  have q1 := eq_state a b ha hb
  have q2 := eq_state (permP a 24) (permP b 24) (permP_length a ha 24) (permP_length b hb 24)
  rw [e] at q2
  generalize permP a 24 = u at p1 q2
  generalize permP b 24 = v at p2 q2
  simp (disch := omega) [-List.map_replicate, -List.map_set, -List.getD_eq_getElem?_getD, -getElem?_pos, -getElem?_neg, ir6, ansAwake, ha, hb, take_w64 ha, take_w64 hb, p1, p2, q1, q2, eq_bool, -eqRec]
end Go.Proofs.Ytfplnlmddcchjaa
