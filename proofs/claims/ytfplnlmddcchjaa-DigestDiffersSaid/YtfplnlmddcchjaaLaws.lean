/-
  The laws of the digest, for the abstract machine.
-/
import Derived.Test.YtfplnlmddcchjaaAwake
import Derived.Test.YtfplnlmddcchjaaAmShape
namespace Go.Proofs.Ytfplnlmddcchjaa
open Go.Am Go.RowKit
set_option maxRecDepth 10000
set_option maxHeartbeats 4000000

/-! ### What comes in -/

theorem args_str {xs : List AV} (h : ShpArgs Try.prog [9] xs) : ∃ s : Str, xs = [.str s] := by
  obtain ⟨n, cs, r, rfl, h1, rfl⟩ := h
  obtain ⟨s, rfl, _⟩ := h1.str (by kernel_rfl)
  exact ⟨s, rfl⟩
theorem args_str2 {xs : List AV} (h : ShpArgs Try.prog [9, 9] xs) : ∃ s t : Str, xs = [.str s, .str t] := by
  obtain ⟨n, cs, r, rfl, h1, h2⟩ := h
  obtain ⟨t, rfl⟩ := args_str h2
  obtain ⟨s, rfl, _⟩ := h1.str (by kernel_rfl)
  exact ⟨s, t, rfl⟩
theorem args_str3 {xs : List AV} (h : ShpArgs Try.prog [9, 9, 9] xs) : ∃ s t u : Str, xs = [.str s, .str t, .str u] := by
  obtain ⟨n, cs, r, rfl, h1, h2⟩ := h
  obtain ⟨t, u, rfl⟩ := args_str2 h2
  obtain ⟨s, rfl, _⟩ := h1.str (by kernel_rfl)
  exact ⟨s, t, u, rfl⟩

theorem w64_of {m : Int} (h : (Lit.int .u64 m).wf = true) : AV.int .u64 m = w64 (BitVec.ofNat 64 m.toNat) := by
  simp [Lit.wf, IntKind.min, IntKind.max, IntKind.signed, IntKind.bits] at h
  unfold w64
  congr 1
  rw [BitVec.toNat_ofNat]
  omega

theorem shp_state {n : Nat} {cs : List AV} (h : Shp Try.prog n 23 cs) : ∃ s : W, s.length = 25 ∧ cs = s.map w64 := by
  obtain ⟨m, l, hl, rfl, hs⟩ := h.array (k := 25) (e := 22) (by kernel_rfl)
  have : ∀ l : List (List AV), (∀ ys ∈ l, Shp Try.prog m 22 ys) → ∃ s : W, s.length = l.length ∧ l.flatten = s.map w64 := by
    intro l
    induction l with
    | nil => intro _; exact ⟨[], rfl, rfl⟩
    | cons a l ih =>
      intro h
      obtain ⟨s, h1, h2⟩ := ih fun ys hy => h ys (List.mem_cons_of_mem _ hy)
      obtain ⟨x, rfl, hx⟩ := (h a List.mem_cons_self).int (k := .u64) (by kernel_rfl)
      exact ⟨BitVec.ofNat 64 x.toNat :: s, by simp [h1], by simp [h2, w64_of hx]⟩
  obtain ⟨s, h1, h2⟩ := this l hs
  exact ⟨s, by omega, h2⟩
theorem elem_state (cs : List AV) : elemOfCells (aggU (Try.prog.underlying 23)) cs = .agg cs := by
  have : aggU (Try.prog.underlying 23) = true := by kernel_rfl
  rw [this]; rfl
theorem args_state {xs : List AV} (h : ShpArgs Try.prog [23] xs) : ∃ s : W, s.length = 25 ∧ xs = [.agg (s.map w64)] := by
  obtain ⟨n, cs, r, rfl, h1, rfl⟩ := h
  obtain ⟨s, hs, rfl⟩ := shp_state h1
  exact ⟨s, hs, by rw [elem_state]⟩
theorem args_state2 {xs : List AV} (h : ShpArgs Try.prog [23, 23] xs) : ∃ s t : W, s.length = 25 ∧ t.length = 25 ∧ xs = [.agg (s.map w64), .agg (t.map w64)] := by
  obtain ⟨n, cs, r, rfl, h1, h2⟩ := h
  obtain ⟨t, ht, rfl⟩ := args_state h2
  obtain ⟨s, hs, rfl⟩ := shp_state h1
  exact ⟨s, t, hs, ht, by rw [elem_state]⟩

/-! ### States are compared word by word -/

theorem eq_w64 (x y : BitVec 64) : ((x.toNat : Int) == (y.toNat : Int)) = decide (x = y) := by
  by_cases h : x = y
  · simp [h]
  · have : x.toNat ≠ y.toNat := fun hn => h (BitVec.eq_of_toNat_eq hn)
    simp [h]; omega

theorem eqItems_w64 (a b : W) (ha : a.length = 25) (hb : b.length = 25) : ∀ l : List Nat, (∀ i ∈ l, i < 25) → eqItems (partT cfg) (eqRec cfg 19) 22 1 (a.map w64) (b.map w64) l = some (l.all fun i => decide (a.getD i 0#64 = b.getD i 0#64))
  | [], _ => rfl
  | i :: l, h => by
    have hi := h i List.mem_cons_self
    have ih := eqItems_w64 a b ha hb l fun j hj => h j (List.mem_cons_of_mem _ hj)
    have e1 : ∀ x y : BitVec 64, eqRec cfg 19 22 (w64 x) (w64 y) = some (decide (x = y)) := by
      intro x y
      rw [← eq_w64]
      simp [eqRec, eqCell, w64]
    rw [eqItems, ih]
    simp [-List.getD_eq_getElem?_getD, get_w64 (a := a) (i := i) (by omega), get_w64 (a := b) (i := i) (by omega), both, e1, -eqRec]

theorem eq_state (a b : W) (ha : a.length = 25) (hb : b.length = 25) : eqRec cfg 20 23 (.agg (a.map w64)) (.agg (b.map w64)) = some (decide (a = b)) := by
  have h := eqItems_w64 a b ha hb (List.range 25) (by simp)
  rw [eqRec]
  simp only [ti23, ti22]
  rw [h]
  congr 1
  by_cases hab : a = b
  · simp [hab]
  · rw [decide_eq_false hab]
    apply Bool.eq_false_iff.2
    intro hall
    apply hab
    apply List.ext_getElem (by omega)
    intro i h1 h2
    rw [List.all_eq_true] at hall
    have := hall i (by simp; omega)
    simpa [List.getD_eq_getElem?_getD, List.getElem?_eq_getElem h1, List.getElem?_eq_getElem h2] using this

/-! ### The laws -/

theorem ansPermutes {xs : List AV} (h : ShpArgs Try.prog [23] xs) : ansF cfg 3 xs [] = some (.bool true, []) := by
  obtain ⟨s, hs, rfl⟩ := args_state h
  refine ans_of_wp fn3 low3 ?_
  have h1 := ansPermP s hs
  have h2 := ansPermR s hs
  have hl := permR_length s hs 24
  rw [perm_same s hs] at h1
  simp (disch := omega) [-List.map_replicate, -List.map_set, -List.getD_eq_getElem?_getD, -getElem?_pos, -getElem?_neg, ir3, ansAwake, hs, take_w64 hs, h1, h2, -eqRec, eq_state _ _ hl hl]

theorem ansSums {xs : List AV} (h : ShpArgs Try.prog [9] xs) : ansF cfg 4 xs [] = some (.bool true, []) := by
  obtain ⟨d, rfl⟩ := args_str h
  refine ans_of_wp fn4 low4 ?_
  by_cases hd : d.length ≤ 700
  · have h1 := ansSumP d (by omega)
    have h2 := ansSumR d (by omega)
    rw [sum_same] at h1
    simp (disch := omega) [-List.map_replicate, -List.map_set, -List.getD_eq_getElem?_getD, -getElem?_pos, -getElem?_neg, omLtN, onEqN, ir4, ansAwake, h1, h2]
  · simp (disch := omega) [-List.map_replicate, -List.map_set, -List.getD_eq_getElem?_getD, -getElem?_pos, -getElem?_neg, omLt, onEqN, ir4, ansAwake]

theorem hexA_cases (a : Str) : ∃ s m, hexA a = .tup [.str s, .int .i64 m] := by
  unfold hexA
  split <;> exact ⟨_, _, rfl⟩
theorem parseA_cases (a : Str) : ∃ s m, parseA a = .tup [.str s, .int .i64 m] := by
  unfold parseA
  split <;> exact ⟨_, _, rfl⟩

theorem ansTexts {xs : List AV} (h : ShpArgs Try.prog [9, 9] xs) : ansF cfg 5 xs [] = some (.bool true, []) := by
  obtain ⟨a, b, rfl⟩ := args_str2 h
  refine ans_of_wp fn5 low5 ?_
  have h1 := ansHexP a
  have h2 := ansHexR a
  have h3 := ansParseP b
  have h4 := ansParseR b
  obtain ⟨s, m, e1⟩ := hexA_cases a
  obtain ⟨t, n, e2⟩ := parseA_cases b
  rw [e1] at h1 h2
  rw [e2] at h3 h4
  by_cases ha : a.length ≤ 200
  · by_cases hb : b.length ≤ 200
    · simp (disch := omega) [-List.map_replicate, -List.map_set, -List.getD_eq_getElem?_getD, -getElem?_pos, -getElem?_neg, omLtN, onEqN, ir5, ansAwake, h1, h2, h3, h4]
    · simp (disch := omega) [-List.map_replicate, -List.map_set, -List.getD_eq_getElem?_getD, -getElem?_pos, -getElem?_neg, omLt, omLtN, onEqN, ir5, ansAwake]
  · simp (disch := omega) [-List.map_replicate, -List.map_set, -List.getD_eq_getElem?_getD, -getElem?_pos, -getElem?_neg, omLt, onEqN, ir5, ansAwake]

theorem dig_dgt (n : Nat) (h : n < 16) : dig (dgt n) = n := by
  have : ∀ n, n < 16 → dig (dgt n) = n := by decide +kernel
  exact this n h
theorem dgt_dig (c : UInt8) (h : 0 ≤ dig c) : dgt (dig c).toNat = c := by
  have : ∀ n, n < 256 → 0 ≤ dig (UInt8.ofNat n) → dgt (dig (UInt8.ofNat n)).toNat = UInt8.ofNat n := by decide +kernel
  have := this c.toNat c.toNat_lt (by simpa using h)
  simpa using this

theorem hexN_get (d : Str) : ∀ (n i : Nat), i < n → (hexN d n).getD (2 * i) 0 = dgt ((d.getD i 0).toNat / 16) ∧ (hexN d n).getD (2 * i + 1) 0 = dgt ((d.getD i 0).toNat % 16)
  | 0, i, h => by omega
  | n + 1, i, h => by
    have hl := hexN_length d n
    rw [hexN_succ]
    by_cases hi : i < n
    · have := hexN_get d n i hi
      simp only [List.getD_eq_getElem?_getD] at this ⊢
      rw [List.getElem?_append_left (by simp; omega), List.getElem?_append_left (by omega), List.getElem?_append_left (by simp; omega), List.getElem?_append_left (by omega)]
      exact this
    · obtain rfl : i = n := by omega
      simp only [List.getD_eq_getElem?_getD]
      rw [List.getElem?_append_left (by simp; omega), List.getElem?_append_right (by omega), List.getElem?_append_right (by simp; omega)]
      simp [hl]

/-- digests come back from their texts -/
theorem parse_hex (d : Str) (hd : d.length = 32) : parseA (hexN d 32) = .tup [.str d, .int .i64 0] := by
  have hg := hexN_get d 32
  have hok : ∀ i, i < 32 → okAt (hexN d 32) i := fun i hi => by
    have h1 := (d.getD i 0).toNat_lt
    refine ⟨?_, ?_⟩
    · rw [(hg i hi).1, dig_dgt _ (by omega)]; omega
    · rw [(hg i hi).2, dig_dgt _ (by omega)]; omega
  rw [parseA, if_pos ⟨by rw [hexN_length], (allOk_iff _).2 hok⟩]
  have : unN (hexN d 32) 32 = d := by
    apply List.ext_getElem (by simp [unN, hd])
    intro i h1 h2
    have hi : i < 32 := by simpa [unN] using h1
    have hx := (d.getD i 0).toNat_lt
    simp only [unN, List.getElem_map, List.getElem_range, byAt]
    rw [(hg i hi).1, (hg i hi).2, dig_dgt _ (by omega), dig_dgt _ (by omega)]
    simp only [Int.toNat_natCast]
    rw [show 16 * ((d.getD i 0).toNat / 16) + (d.getD i 0).toNat % 16 = (d.getD i 0).toNat by omega]
    simp [List.getD_eq_getElem?_getD, List.getElem?_eq_getElem h2]
  rw [this]

/-- texts come back from their digests -/
theorem hex_parse (t : Str) (ht : t.length = 64) (hok : ∀ i, i < 32 → okAt t i) : hexA (unN t 32) = .tup [.str t, .int .i64 0] := by
  rw [hexA, if_pos (by simp [unN])]
  have : hexN (unN t 32) 32 = t := by
    have key : ∀ i, i < 32 → (hexN (unN t 32) 32).getD (2 * i) 0 = t.getD (2 * i) 0 ∧ (hexN (unN t 32) 32).getD (2 * i + 1) 0 = t.getD (2 * i + 1) 0 := by
      intro i hi
      obtain ⟨o1, o2⟩ := hok i hi
      have d1 := dig_lt (t.getD (2 * i) 0)
      have d2 := dig_lt (t.getD (2 * i + 1) 0)
      have hu : ((unN t 32).getD i 0).toNat = 16 * (dig (t.getD (2 * i) 0)).toNat + (dig (t.getD (2 * i + 1) 0)).toNat := by
        simp only [unN, List.getD_eq_getElem?_getD, List.getElem?_map, List.getElem?_range hi]
        simp only [Option.map_some, Option.getD_some, byAt, UInt8.toNat_ofNat']
        simp only [List.getD_eq_getElem?_getD] at d1 d2 o1 o2 ⊢
        omega
      rw [(hexN_get _ 32 i hi).1, (hexN_get _ 32 i hi).2, hu]
      refine ⟨?_, ?_⟩
      · rw [show (16 * (dig (t.getD (2 * i) 0)).toNat + (dig (t.getD (2 * i + 1) 0)).toNat) / 16 = (dig (t.getD (2 * i) 0)).toNat by omega, dgt_dig _ o1]
      · rw [show (16 * (dig (t.getD (2 * i) 0)).toNat + (dig (t.getD (2 * i + 1) 0)).toNat) % 16 = (dig (t.getD (2 * i + 1) 0)).toNat by omega, dgt_dig _ o2]
    apply List.ext_getElem (by rw [hexN_length, ht])
    intro j h1 h2
    rw [hexN_length] at h1
    have hj : j < 64 := by omega
    have e : ∀ l : Str, ∀ h : j < l.length, l[j] = l.getD j 0 := fun l h => by simp [List.getD_eq_getElem?_getD, List.getElem?_eq_getElem h]
    rw [e, e]
    by_cases hp : j % 2 = 0
    · have := (key (j / 2) (by omega)).1
      rwa [show 2 * (j / 2) = j by omega] at this
    · have := (key (j / 2) (by omega)).2
      rwa [show 2 * (j / 2) + 1 = j by omega] at this
  rw [this]

theorem ansBack {xs : List AV} (h : ShpArgs Try.prog [9] xs) : ansF cfg 8 xs [] = some (.bool true, []) := by
  obtain ⟨s, rfl⟩ := args_str h
  refine ans_of_wp fn8 low8 ?_
  by_cases hs : s.length ≤ 200
  · have h1 := ansHexP s
    have h3 := ansParseP s
    by_cases h32 : s.length = 32
    · have hn : ¬ (s.length = 64 ∧ allOk s = true) := by omega
      rw [hexA, if_pos h32] at h1
      rw [parseA, if_neg hn] at h3
      have h2 := ansParseP (hexN s 32)
      rw [parse_hex s h32] at h2
      have hl := hexN_length s 32
      simp (disch := omega) [-List.map_replicate, -List.map_set, -List.getD_eq_getElem?_getD, -getElem?_pos, -getElem?_neg, omLtN, omEq, onEqN, ir8, ansAwake, h1, h2, h3, hl]
    · rw [hexA, if_neg h32] at h1
      by_cases h64 : s.length = 64 ∧ allOk s = true
      · rw [parseA, if_pos h64] at h3
        have h2 := ansHexP (unN s 32)
        rw [hex_parse s h64.1 ((allOk_iff s).1 h64.2)] at h2
        have hl := unN_length s 32
        have h64' := h64.1
        simp (disch := omega) [-List.map_replicate, -List.map_set, -List.getD_eq_getElem?_getD, -getElem?_pos, -getElem?_neg, omLtN, omEqN, onEqN, ir8, ansAwake, h1, h2, h3, hl]
      · rw [parseA, if_neg h64] at h3
        simp (disch := omega) [-List.map_replicate, -List.map_set, -List.getD_eq_getElem?_getD, -getElem?_pos, -getElem?_neg, omLtN, omEqN, onEqN, ir8, ansAwake, h1, h3]
  · simp (disch := omega) [-List.map_replicate, -List.map_set, -List.getD_eq_getElem?_getD, -getElem?_pos, -getElem?_neg, omLt, onEqN, ir8, ansAwake]
end Go.Proofs.Ytfplnlmddcchjaa
