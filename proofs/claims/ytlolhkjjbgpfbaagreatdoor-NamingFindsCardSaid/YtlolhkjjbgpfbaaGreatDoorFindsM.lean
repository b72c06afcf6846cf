/-
  The law NamingFinds.
-/
import Derived.Test.YtlolhkjjbgpfbaaGreatDoorFoldsM
set_option linter.all false
namespace Go.Proofs.YtlolhkjjbgpfbaaGreatDoor
open Go.Am
set_option maxRecDepth 10000
set_option maxHeartbeats 4000000
def Turn (L E : List Str) (i : Nat) : Prop := E.length = L.length ∧ ∀ k, k < L.length → E[k]? = if k < i ∨ L.length - 1 - i < k then L[L.length - 1 - k]? else L[k]?
theorem turn_zero (L : List Str) : Turn L L 0 := ⟨rfl, fun k hk => by rw [if_neg (by omega)]⟩
theorem turn_end {L E : List Str} {i : Nat} (h : Turn L E i) (hi : L.length ≤ 2 * i + 1) : E = L.reverse := by
  apply List.ext_getElem?
  intro k
  by_cases hk : k < L.length
  · rw [h.2 k hk, List.getElem?_reverse hk]
    by_cases hc : k < i ∨ L.length - 1 - i < k
    · rw [if_pos hc]
    · rw [if_neg hc]
      congr 1
      omega
  · rw [List.getElem?_eq_none (by rw [h.1]; omega), List.getElem?_eq_none (by simp; omega)]
theorem turn_step {L E : List Str} {i : Nat} (h : Turn L E i) (hi : 2 * i + 1 < L.length) (x y : Str) (hx : E[i]? = some x) (hy : E[L.length - 1 - i]? = some y) : Turn L ((E.set i y).set (L.length - 1 - i) x) (i + 1) := by
  refine ⟨by simp [h.1], fun k hk => ?_⟩
  rw [h.2 i (by omega), if_neg (by omega)] at hx
  rw [h.2 _ (by omega), if_neg (by omega)] at hy
  have hl := h.1
  rw [List.getElem?_set, List.length_set]
  by_cases h1 : L.length - 1 - i = k
  · subst h1
    rw [if_pos rfl, if_pos (by omega), if_pos (by omega), ← hx]
    congr 1
    omega
  · rw [if_neg h1, List.getElem?_set]
    by_cases h2 : i = k
    · subst h2
      rw [if_pos rfl, if_pos (by omega), if_pos (by omega), ← hy]
    · rw [if_neg h2, h.2 k hk]
      by_cases h3 : k < i ∨ L.length - 1 - i < k
      · rw [if_pos h3, if_pos (by omega)]
      · rw [if_neg h3, if_neg (by omega)]
theorem join_two : ∀ l : List Str, (Lib.join l [59, 32]).length ≤ 2 * tot l
  | [] => by simp [Lib.join, List.intercalate]
  | [x] => by rw [join_one]; simp [tot]; omega
  | x :: y :: r => by
    have := join_two (y :: r)
    rw [join_cons2]
    simp [tot] at this ⊢
    omega
theorem tot_app : ∀ a b : List Str, tot (a ++ b) = tot a + tot b
  | [], b => by simp [tot]
  | x :: a, b => by simp only [List.cons_append, tot, tot_app a b]; omega
theorem tot_reverse : ∀ l : List Str, tot l.reverse = tot l
  | [] => rfl
  | x :: r => by rw [List.reverse_cons, tot_app, tot_reverse r]; simp [tot]; omega
theorem ansReverse (B : Box) (L : List Str) (hL : L.length < 1000000) :
    ansF cfg 40 [.osl 1 L.length] [B, .sl ⟨false, some 9⟩ 1 (strA L), .dead, .dead] = some (.tup [], [B, .sl ⟨false, some 9⟩ 1 (strA L.reverse), .dead, .dead]) := by
  refine ans_of_wp fn40 low40 ?_
  have hA := strA_len L
  simp (config := { maxSteps := 1000000 }) (disch := omega) [-List.map_replicate, -List.map_set, -List.getD_eq_getElem?_getD, -getElem?_pos, -getElem?_neg, om, ir40, hA]
  refine Wp.loopM (fun (i : Nat × List Str) => L.length - i.1) (fun i => [some (.osl 1 L.length), some (.int .i64 i.1), some (.int .i64 ((L.length : Int) - 1 - i.1)), none, none]) (fun i => [B, .sl ⟨false, some 9⟩ 1 (strA i.2), .dead, .dead]) (fun i => Turn L i.2 i.1 ∧ 2 * i.1 ≤ L.length + 1) ?_ (0, L) ⟨turn_zero L, by omega⟩ (by simp) rfl
  rintro ⟨i, E⟩ ⟨ht, hb⟩
  simp only at ht hb ⊢
  have hl := ht.1
  have hEl := strA_len E
  by_cases h1 : (i : Int) < (L.length : Int) - 1 - i
  · have hi : i < E.length := by omega
    have hj : L.length - 1 - i < E.length := by omega
    have g1 := get_strA E hi
    have g2 := get_strA E hj
    have hx : E[i]? = some (E.getD i []) := by rw [List.getD_eq_getElem?_getD, List.getElem?_eq_getElem hi]; rfl
    have hy : E[L.length - 1 - i]? = some (E.getD (L.length - 1 - i) []) := by rw [List.getD_eq_getElem?_getD, List.getElem?_eq_getElem hj]; rfl
    have hst := turn_step ht (by omega) _ _ hx hy
    generalize E.getD i [] = x at *
    generalize E.getD (L.length - 1 - i) [] = y at *
    have ej : ((L.length : Int) - 1 - i).toNat = L.length - 1 - i := by omega
    have hset : ((strA E).set i (.str y)).set (L.length - 1 - i) (.str x) = strA ((E.set i y).set (L.length - 1 - i) x) := by simp [strA, List.map_set]
    simp (config := { maxSteps := 1000000 }) (disch := omega) [-List.map_replicate, -List.map_set, -List.getD_eq_getElem?_getD, -getElem?_pos, -getElem?_neg, om, h1, hEl, hl, g1, g2, ej, hset]
    exact ⟨i + 1, _, ⟨hst, by omega⟩, by omega, by simp; omega, rfl⟩
  · have he := turn_end ht (by omega)
    subst he
    simp (config := { maxSteps := 1000000 }) (disch := omega) [-List.map_replicate, -List.map_set, -List.getD_eq_getElem?_getD, -getElem?_pos, -getElem?_neg, om, h1]
theorem ansFindsS (s q p : Str) (n : Nat) (hn : n < 256) : ansF cfg 8 [.str s, .str q, .str p, .int .u8 n] [] = some (.bool true, []) := by
  have hL := ansLong none [s, q, p] (by simp)
  refine ans_of_wp fn8 low8 ?_
  cases hl : longB [s, q, p] with
  | true =>
    rw [hl] at hL
    simp only [strA, List.map_cons, List.map_nil] at hL
    simp (config := { maxSteps := 1000000 }) (disch := omega) [-List.map_replicate, -List.map_set, -List.getD_eq_getElem?_getD, -getElem?_pos, -getElem?_neg, om, ir8, awake, hL]
  | false =>
    have hs := long_not hl s (by simp)
    have hq := long_not hl q (by simp)
    have hp := long_not hl p (by simp)
    rw [hl] at hL
    simp only [strA, List.map_cons, List.map_nil] at hL
    have hfl := foldS_len s
    have a1 := foldOk s (by omega)
    have hfa : (foldS s).length < 4294967281 ∧ ((foldS s).all fun b => decide (b.toNat < 128)) = true := ⟨by omega, foldS_all s⟩
    have a2 : ∀ bs : List Box, fieldsG [.str (foldS s)] bs = match wordsL s with
      | [] => some (.cap0 (some false), bs ++ [.var 9 []])
      | x :: r => some (.osl bs.length (r.length + 1), bs ++ [.sl ⟨false, some 9⟩ 1 ((x :: r).map .str)]) := fun bs => by
      simp only [fieldsG]
      rw [if_pos hfa, fields_fold]
      cases wordsL s <;> rfl
    have f1 := ansFound s (q ++ 32 :: p) (by omega) (by simp; omega)
    have f2 := ansFound s q (by omega) (by omega)
    have f3 := ansFound s p (by omega) (by omega)
    have f4 := ansFound s [] (by omega) (by simp)
    rw [found_two] at f1
    rw [found_none] at f4
    by_cases hw : wordsL s = []
    · rw [hw] at a2
      simp only at a2
      generalize foldS s = f at *
      generalize foundB s q = b1 at *
      generalize foundB s p = b2 at *
      cases b1 <;> cases b2 <;> simp (config := { maxSteps := 1000000 }) (disch := omega) [-List.map_replicate, -List.map_set, -List.getD_eq_getElem?_getD, -getElem?_pos, -getElem?_neg, om, ir8, awake, hL, a1, a2, f1, f2, f3, f4]
    · have a2' : ∀ bs : List Box, fieldsG [.str (foldS s)] bs = some (.osl bs.length (wordsL s).length, bs ++ [.sl ⟨false, some 9⟩ 1 (strA (wordsL s))]) := fun bs => by
        rw [a2 bs]
        cases hx : wordsL s with
        | nil => exact absurd hx hw
        | cons x r => rfl
      clear a2
      have hlen : 0 < (wordsL s).length := List.length_pos_iff.2 hw
      have hwl := words_tot s
      have hwl2 := tot_length (wordsL s)
      have hk : n % (wordsL s).length < (wordsL s).length := Nat.mod_lt _ hlen
      have hmod : (n : Int).tmod ((wordsL s).length : Int) = ((n % (wordsL s).length : Nat) : Int) := by
        rw [Int.tmod_eq_emod_of_nonneg (by omega), Int.natCast_emod]
      have hm : (wordsL s).getD (n % (wordsL s).length) [] ∈ wordsL s := by
        rw [List.getD_eq_getElem?_getD, List.getElem?_eq_getElem hk]
        exact List.getElem_mem hk
      have hg := get_strA (wordsL s) hk
      have hrev := found_reverse s
      have hjl : (Lib.join (wordsL s).reverse [59, 32]).length ≤ 2000 := by
        have := join_two (wordsL s).reverse
        rw [tot_reverse] at this
        omega
      have g3 := ansFound s (Lib.join (wordsL s).reverse [59, 32]) (by omega) (by omega)
      rw [hrev] at g3
      have hA := strA_len (wordsL s)
      have hw1 := wordsL_word s _ hm
      have g1 := ansFound s ((wordsL s).getD (n % (wordsL s).length) []) (by omega) (by have := tot_mem hm; omega)
      rw [found_word s _ hm] at g1
      have g2 := ansFound s (((wordsL s).getD (n % (wordsL s).length) []).take (1 + n % ((wordsL s).getD (n % (wordsL s).length) []).length)) (by omega) (by have := tot_mem hm; rw [List.length_take]; omega)
      rw [found_begin s _ _ hm] at g2
      have hwlen : 0 < ((wordsL s).getD (n % (wordsL s).length) []).length := List.length_pos_iff.2 hw1.1
      have hj : n % ((wordsL s).getD (n % (wordsL s).length) []).length < ((wordsL s).getD (n % (wordsL s).length) []).length := Nat.mod_lt _ hwlen
      have hmod2 : (n : Int).tmod (((wordsL s).getD (n % (wordsL s).length) []).length : Int) = ((n % ((wordsL s).getD (n % (wordsL s).length) []).length : Nat) : Int) := by
        rw [Int.tmod_eq_emod_of_nonneg (by omega), Int.natCast_emod]
      have hwb : ((wordsL s).getD (n % (wordsL s).length) []).length ≤ 400 := by have := tot_mem hm; omega
      generalize hkk : n % (wordsL s).length = k at *
      generalize (wordsL s).getD k [] = w at *
      generalize hjj : n % w.length = j at *
      generalize foldS s = f at *
      generalize wordsL s = L at *
      generalize foundB s q = b1 at *
      generalize foundB s p = b2 at *
      have e1 : (1 + (j : Int)).toNat = 1 + j := by omega
      have hR := ansReverse (.sl ⟨false, some 9⟩ 1 [.str s, .str q, .str p]) L (by omega)
      have hsl := strsOf_strA L.reverse
      have hrl := strA_len L.reverse
      have e0 : IntKind.i64.wrap (1 + (j : Int)) = 1 + (j : Int) := wrap_i64 (by omega) (by omega)
      simp (config := { maxSteps := 1000000 }) (disch := omega) [-List.map_replicate, -List.map_set, -List.getD_eq_getElem?_getD, -getElem?_pos, -getElem?_neg, om, ir8, awake, hL, a1, a2', f1, f2, f3, f4, hmod, hk, hg, hA, g1, g2, g3, hmod2, hj, e1, e0, hlen, hR, hsl, joinG, hrl, hjl]
      cases b1 <;> cases b2 <;> simp (config := { maxSteps := 1000000 }) (disch := omega) [-List.map_replicate, -List.map_set, -List.getD_eq_getElem?_getD, -getElem?_pos, -getElem?_neg, om, f4]
theorem args_finds {xs : List AV} (h : ShpArgs Tryz.prog [9, 9, 9, 5] xs) : ∃ (s q p : Str) (n : Nat), xs = [.str s, .str q, .str p, .int .u8 n] ∧ n < 256 := by
  obtain ⟨n, cs, r, rfl, h1, n2, cs2, r2, rfl, h2, n3, cs3, r3, rfl, h3, n4, cs4, r4, rfl, h4, h6⟩ := h
  subst h6
  obtain ⟨s, rfl, _⟩ := h1.str (by kernel_rfl)
  obtain ⟨q, rfl, _⟩ := h2.str (by kernel_rfl)
  obtain ⟨p, rfl, _⟩ := h3.str (by kernel_rfl)
  obtain ⟨a, rfl, ha⟩ := h4.int (k := .u8) (by kernel_rfl)
  simp [Lit.wf, IntKind.min, IntKind.max, IntKind.signed, IntKind.bits] at ha
  obtain ⟨a, rfl⟩ := Int.eq_ofNat_of_zero_le ha.1
  exact ⟨s, q, p, a, rfl, by omega⟩
theorem ansFinds {xs : List AV} (h : ShpArgs Tryz.prog [9, 9, 9, 5] xs) : ansF cfg 8 xs [] = some (.bool true, []) := by
  obtain ⟨s, q, p, n, rfl, hn⟩ := args_finds h
  exact ansFindsS s q p n hn
end Go.Proofs.YtlolhkjjbgpfbaaGreatDoor
