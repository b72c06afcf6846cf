/-
  Authorities, as values; names, spans of the program.
-/
import Derived.Test.YtlolhkjjbgpfbaaGreatDoorWordM
import Derived.Lib.IndexMore
set_option linter.all false
namespace Go.Proofs.YtlolhkjjbgpfbaaGreatDoor
open Go.Am
set_option maxRecDepth 10000
set_option maxHeartbeats 4000000
structure Nm where
  t : Str
  a : Int
  b : Int
structure Au where
  id : Int
  kind : Int
  a : Int
  b : Int
  names : List Nm
  next : List Int
  nn : Option Bool
  nz : Nat
  xn : Option Bool
  xz : Nat
structure Au.ok (x : Au) : Prop where
  nz : x.names ≠ [] → x.nz = 3
  xz : x.next ≠ [] → x.xz = 1
  nl : x.names.length < 1000000
  xl : x.next.length < 1000000
def nmA (n : Nm) : AV := .agg [.str n.t, .int .i64 n.a, .int .i64 n.b]
def intA (n : Int) : AV := .int .i64 n
def Au.cells (x : Au) : List AV := [.int .i64 x.id, .int .i64 x.kind, .int .i64 x.a, .int .i64 x.b, .lst x.nn x.nz (x.names.map nmA), .lst x.xn x.xz (x.next.map intA)]
def auA (x : Au) : AV := .agg x.cells
theorem plain_nmA : ∀ (l : List Nm), plainAll (l.map nmA) = true
  | [] => rfl
  | x :: r => by simp [plainAll, nmA, AV.plain, plain_nmA r]
theorem ansWithin (n lo hi : Int) : ansF cfg 121 [.int .i64 n, .int .i64 lo, .int .i64 hi] [] = some (.bool (decide (lo ≤ n ∧ n ≤ hi)), []) := by
  refine ans_of_wp fn121 low121 ?_
  by_cases h1 : lo ≤ n <;> by_cases h2 : n ≤ hi <;> simp (config := { maxSteps := 1000000 }) (disch := omega) [-List.map_replicate, -List.map_set, -List.getD_eq_getElem?_getD, -getElem?_pos, -getElem?_neg, om, ir121, h1, h2]
def spanB (a b : Int) : Bool := decide (0 ≤ a ∧ a < b ∧ b ≤ 1048576)
theorem ansSpans (a b : Int) : ansF cfg 176 [.agg [.int .i64 a, .int .i64 b]] [] = some (.bool (spanB a b), []) := by
  refine ans_of_wp fn176 low176 ?_
  unfold spanB
  by_cases h1 : 0 ≤ a
  · by_cases h2 : a < b
    · by_cases h3 : b ≤ 1048576
      · simp (config := { maxSteps := 1000000 }) (disch := omega) [-List.map_replicate, -List.map_set, -List.getD_eq_getElem?_getD, -getElem?_pos, -getElem?_neg, om, ir176, h1, h2, h3]
      · simp (config := { maxSteps := 1000000 }) (disch := omega) [-List.map_replicate, -List.map_set, -List.getD_eq_getElem?_getD, -getElem?_pos, -getElem?_neg, om, ir176, h1, h2, h3]
    · simp (config := { maxSteps := 1000000 }) (disch := omega) [-List.map_replicate, -List.map_set, -List.getD_eq_getElem?_getD, -getElem?_pos, -getElem?_neg, om, ir176, h1, h2]
  · simp (config := { maxSteps := 1000000 }) (disch := omega) [-List.map_replicate, -List.map_set, -List.getD_eq_getElem?_getD, -getElem?_pos, -getElem?_neg, om, ir176, h1]
def inB (a b day : Int) : Bool := decide (a ≤ day ∧ day < b)
theorem ansIn (a b day : Int) : ansF cfg 79 [.agg [.int .i64 a, .int .i64 b], .int .i64 day] [] = some (.bool (inB a b day), []) := by
  refine ans_of_wp fn79 low79 ?_
  unfold inB
  by_cases h1 : a ≤ day <;> by_cases h2 : day < b <;> simp (config := { maxSteps := 1000000 }) (disch := omega) [-List.map_replicate, -List.map_set, -List.getD_eq_getElem?_getD, -getElem?_pos, -getElem?_neg, om, ir79, h1, h2]
theorem rune_ascii (s : Str) {i : Nat} (h : i < s.length) (hc : (s.getD i 0).toNat < 128) : runeAt s i = ((s.getD i 0).toNat, 1) := by
  unfold runeAt
  have hg : (ByteArray.mk s.toArray).get! i = s.getD i 0 := by
    show s.toArray[i]! = _
    simp [List.getD_eq_getElem?_getD]
    rfl
  simp only [Utf8.decode, Nat.add_zero, hg, hc, if_true]
theorem rune_big (s : Str) {i : Nat} (hc : ¬ (s.getD i 0).toNat < 128) : 126 < (runeAt s i).1 := by
  unfold runeAt
  have hg : (ByteArray.mk s.toArray).get! i = s.getD i 0 := by
    show s.toArray[i]! = _
    simp [List.getD_eq_getElem?_getD]
    rfl
  simp only [Utf8.decode, Nat.add_zero, hg, hc, if_false]
  simp only [Utf8.runeError]
  repeat' split
  all_goals first
    | (simp only; omega)
    | (simp only [ge_iff_le, Bool.and_eq_true, decide_eq_true_eq] at *; omega)
def badB (c : UInt8) : Bool := decide (c.toNat < 32 ∨ 126 < c.toNat)
theorem ansBad (n : Int) : ansF cfg 197 [.int .i32 n] [] = some (.bool (decide (n < 32 ∨ 126 < n)), []) := by
  refine ans_of_wp fn197 low197 ?_
  by_cases h1 : n < 32 <;> by_cases h2 : 126 < n <;> simp (config := { maxSteps := 1000000 }) (disch := omega) [-List.map_replicate, -List.map_set, -List.getD_eq_getElem?_getD, -getElem?_pos, -getElem?_neg, om, ir197, h1, h2]
def badAt (s : Str) (i : Nat) : Int :=
  if h : i < s.length then if badB (s.getD i 0) then (i : Int) else badAt s (i + 1) else -1
termination_by s.length - i
theorem ansIdxF (s : Str) (hs : s.length < 1000000) : ansF cfg 201 [.str s, .fn 197 [] [], .bool true] [] = some (.int .i64 (badAt s 0), []) := by
  refine ans_of_wp fn201 low201 ?_
  simp (config := { maxSteps := 1000000 }) (disch := omega) [-List.map_replicate, -List.map_set, -List.getD_eq_getElem?_getD, -getElem?_pos, -getElem?_neg, om, ir201]
  refine Wp.loopM (fun (i : Nat) => s.length - i) (fun i => [none, some (.fn 197 [] []), some (.bool true), none, none, none, some (.itv 0), none, none, none, none]) (fun i => [.iter (.str s i)]) (fun i => badAt s 0 = badAt s i) ?_ 0 rfl (by simp) rfl
  intro i hi
  rw [hi]
  have hb := badAt.eq_def s i
  by_cases h1 : i < s.length
  · rw [dif_pos h1] at hb
    by_cases hc : (s.getD i 0).toNat < 128
    · have hr := rune_ascii s h1 hc
      have hB := ansBad ((s.getD i 0).toNat : Int)
      have hbb : decide (((s.getD i 0).toNat : Int) < 32 ∨ 126 < ((s.getD i 0).toNat : Int)) = badB (s.getD i 0) := by
        unfold badB; congr 1; apply propext; omega
      rw [hbb] at hB
      cases hv : badB (s.getD i 0) with
      | true =>
        rw [hv] at hB
        rw [hb, hv, if_pos rfl]
        generalize s.getD i 0 = c at *
        simp (config := { maxSteps := 1000000 }) (disch := omega) [-List.map_replicate, -List.map_set, -List.getD_eq_getElem?_getD, -getElem?_pos, -getElem?_neg, om, h1, hr, hB]
      | false =>
        rw [hv] at hB
        rw [hb, hv, if_neg (by simp)]
        generalize s.getD i 0 = c at *
        simp (config := { maxSteps := 1000000 }) (disch := omega) [-List.map_replicate, -List.map_set, -List.getD_eq_getElem?_getD, -getElem?_pos, -getElem?_neg, om, h1, hr, hB]
    · have hr0 := rune_big s hc
      obtain ⟨r1, r2, hr⟩ : ∃ r1 r2, runeAt s i = (r1, r2) := ⟨_, _, rfl⟩
      rw [hr] at hr0
      simp only at hr0
      have hB := ansBad (r1 : Int)
      have hbb : decide ((r1 : Int) < 32 ∨ 126 < (r1 : Int)) = true := by rw [decide_eq_true_eq]; omega
      rw [hbb] at hB
      have hv : badB (s.getD i 0) = true := by unfold badB; rw [decide_eq_true_eq]; omega
      rw [hb, hv, if_pos rfl]
      simp (config := { maxSteps := 1000000 }) (disch := omega) [-List.map_replicate, -List.map_set, -List.getD_eq_getElem?_getD, -getElem?_pos, -getElem?_neg, om, h1, hr, hB]
  · rw [dif_neg h1] at hb
    rw [hb]
    simp (config := { maxSteps := 1000000 }) (disch := omega) [-List.map_replicate, -List.map_set, -List.getD_eq_getElem?_getD, -getElem?_pos, -getElem?_neg, om, h1]
theorem badAt_spec (s : Str) (n : Nat) : ∀ i, s.length - i = n → (decide (0 ≤ badAt s i) = (s.drop i).any badB) := by
  induction n with
  | zero =>
    intro i h
    rw [badAt, dif_neg (by omega), List.drop_eq_nil_of_le (by omega)]
    rfl
  | succ n ih =>
    intro i h
    rw [badAt, dif_pos (by omega), drop_get s (by omega), List.any_cons]
    cases hv : badB (s.getD i 0) with
    | true => rw [if_pos rfl]; simp
    | false => rw [if_neg (by simp), ih (i + 1) (by omega)]; rfl
theorem ansContF (s : Str) (hs : s.length < 1000000) : ansF cfg 196 [.str s, .fn 197 [] []] [] = some (.bool (s.any badB), []) := by
  have h1 := ansIdxF s hs
  have h2 : ansF cfg 200 [.str s, .fn 197 [] []] [] = some (.int .i64 (badAt s 0), []) := by
    refine ans_of_wp fn200 low200 ?_
    simp (config := { maxSteps := 1000000 }) (disch := omega) [-List.map_replicate, -List.map_set, -List.getD_eq_getElem?_getD, -getElem?_pos, -getElem?_neg, om, ir200, h1]
  refine ans_of_wp fn196 low196 ?_
  have h3 := badAt_spec s s.length 0 (by simp)
  rw [List.drop_zero] at h3
  rw [← h3]
  by_cases h4 : 0 ≤ badAt s 0
  · simp (config := { maxSteps := 1000000 }) (disch := omega) [-List.map_replicate, -List.map_set, -List.getD_eq_getElem?_getD, -getElem?_pos, -getElem?_neg, om, ir196, h2, h4]
  · simp (config := { maxSteps := 1000000 }) (disch := omega) [-List.map_replicate, -List.map_set, -List.getD_eq_getElem?_getD, -getElem?_pos, -getElem?_neg, om, ir196, h2, h4]
theorem ansIndex (s t : Str) (hs : s.length < 1000000) : ansF cfg 75 [.str s, .str t] [] = some (.int .i64 (Lib.index s t), []) := by
  refine ans_of_wp fn75 low75 ?_
  have h1 : s.length < 4294967281 := by omega
  simp (config := { maxSteps := 1000000 }) (disch := omega) [-List.map_replicate, -List.map_set, -List.getD_eq_getElem?_getD, -getElem?_pos, -getElem?_neg, om, ir75, findG, h1]
theorem ansContains (s t : Str) (hs : s.length < 1000000) : ansF cfg 33 [.str s, .str t] [] = some (.bool (Lib.contains s t), []) := by
  refine ans_of_wp fn33 low33 ?_
  have h1 := ansIndex s t hs
  unfold Lib.contains
  by_cases h4 : 0 ≤ Lib.index s t
  · simp (config := { maxSteps := 1000000 }) (disch := omega) [-List.map_replicate, -List.map_set, -List.getD_eq_getElem?_getD, -getElem?_pos, -getElem?_neg, om, ir33, h1, h4]
  · simp (config := { maxSteps := 1000000 }) (disch := omega) [-List.map_replicate, -List.map_set, -List.getD_eq_getElem?_getD, -getElem?_pos, -getElem?_neg, om, ir33, h1, h4]
def nameB (s : Str) : Bool := !(decide (s.length < 1 ∨ 64 < s.length) || s.getD 0 0 == 32 || s.getD (s.length - 1) 0 == 32 || Lib.contains s [32, 32]) && !s.any badB
theorem byte_eq (c : UInt8) (n : Nat) (hn : n < 256) : ((c.toNat : Int) == (n : Int)) = (c == UInt8.ofNat n) := by
  rw [Bool.eq_iff_iff]
  simp only [beq_iff_eq]
  constructor
  · intro h
    apply UInt8.toNat_inj.1
    rw [UInt8.toNat_ofNat']
    omega
  · intro h
    subst h
    rw [UInt8.toNat_ofNat']
    omega
theorem ansName (s : Str) : ansF cfg 189 [.str s] [] = some (.bool (nameB s), []) := by
  refine ans_of_wp fn189 low189 ?_
  unfold nameB
  by_cases h1 : s.length < 1
  · simp (config := { maxSteps := 1000000 }) (disch := omega) [-List.map_replicate, -List.map_set, -List.getD_eq_getElem?_getD, -getElem?_pos, -getElem?_neg, om, ir189, h1]
  by_cases h2 : 64 < s.length
  · simp (config := { maxSteps := 1000000 }) (disch := omega) [-List.map_replicate, -List.map_set, -List.getD_eq_getElem?_getD, -getElem?_pos, -getElem?_neg, om, ir189, h1, h2]
  have g0 := get_str s (i := 0) (by omega)
  have g1 := get_str s (i := s.length - 1) (by omega)
  have hc := ansContains s [32, 32] (by omega)
  have hf := ansContF s (by omega)
  have e0 : (((s.getD 0 0).toNat : Int) == 32) = (s.getD 0 0 == 32) := byte_eq (s.getD 0 0) 32 (by omega)
  have e1 : (((s.getD (s.length - 1) 0).toNat : Int) == 32) = (s.getD (s.length - 1) 0 == 32) := byte_eq (s.getD (s.length - 1) 0) 32 (by omega)
  have hl : ((s.length : Int) - 1).toNat = s.length - 1 := by omega
  generalize s.getD 0 0 = c0 at *
  generalize s.getD (s.length - 1) 0 = c1 at *
  cases b0 : (c0 == 32) with
  | true =>
    rw [b0] at e0
    simp (config := { maxSteps := 1000000 }) (disch := omega) [-List.map_replicate, -List.map_set, -List.getD_eq_getElem?_getD, -getElem?_pos, -getElem?_neg, om, ir189, h1, h2, g0, e0]
  | false =>
    rw [b0] at e0
    cases b1 : (c1 == 32) with
    | true =>
      rw [b1] at e1
      simp (config := { maxSteps := 1000000 }) (disch := omega) [-List.map_replicate, -List.map_set, -List.getD_eq_getElem?_getD, -getElem?_pos, -getElem?_neg, om, ir189, h1, h2, g0, e0, g1, e1, hl]
    | false =>
      rw [b1] at e1
      cases b2 : Lib.contains s [32, 32] with
      | true =>
        rw [b2] at hc
        simp (config := { maxSteps := 1000000 }) (disch := omega) [-List.map_replicate, -List.map_set, -List.getD_eq_getElem?_getD, -getElem?_pos, -getElem?_neg, om, ir189, h1, h2, g0, e0, g1, e1, hl, hc]
      | false =>
        rw [b2] at hc
        simp (config := { maxSteps := 1000000 }) (disch := omega) [-List.map_replicate, -List.map_set, -List.getD_eq_getElem?_getD, -getElem?_pos, -getElem?_neg, om, ir189, h1, h2, g0, e0, g1, e1, hl, hc, hf]
end Go.Proofs.YtlolhkjjbgpfbaaGreatDoor
