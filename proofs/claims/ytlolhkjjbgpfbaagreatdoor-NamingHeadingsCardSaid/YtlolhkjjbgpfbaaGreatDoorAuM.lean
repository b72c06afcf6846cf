/-
  Authorities, as values; names, spans of the program. What is wrong with the names of an authority, with it alone. What is wrong with an authority alone. The place of an authority; successors; Check. Check of authorities. The name of an authority on a day.
-/
import Derived.Test.YtlolhkjjbgpfbaaGreatDoorWordM
import Derived.Lib.IndexMore
set_option linter.all false
namespace Go.Proofs.YtlolhkjjbgpfbaaGreatDoor
open Go.Am
set_option maxRecDepth 10000
set_option maxHeartbeats 4000000
structure Nm where
  t : Str
  a : Int
  b : Int
structure Au where
  id : Int
  kind : Int
  a : Int
  b : Int
  names : List Nm
  next : List Int
  nn : Option Bool
  nz : Nat
  xn : Option Bool
  xz : Nat
structure Au.ok (x : Au) : Prop where
  nz : x.names ≠ [] → x.nz = 3
  xz : x.next ≠ [] → x.xz = 1
  nl : x.names.length < 1000000
  xl : x.next.length < 1000000
def nmA (n : Nm) : AV := .agg [.str n.t, .int .i64 n.a, .int .i64 n.b]
def intA (n : Int) : AV := .int .i64 n
def Au.cells (x : Au) : List AV := [.int .i64 x.id, .int .i64 x.kind, .int .i64 x.a, .int .i64 x.b, .lst x.nn x.nz (x.names.map nmA), .lst x.xn x.xz (x.next.map intA)]
def auA (x : Au) : AV := .agg x.cells
theorem plain_nmA : ∀ (l : List Nm), plainAll (l.map nmA) = true
  | [] => rfl
  | x :: r => by simp [plainAll, nmA, AV.plain, plain_nmA r]
theorem ansWithin (n lo hi : Int) : ansF cfg 121 [.int .i64 n, .int .i64 lo, .int .i64 hi] [] = some (.bool (decide (lo ≤ n ∧ n ≤ hi)), []) := by
  refine ans_of_wp fn121 low121 ?_
  by_cases h1 : lo ≤ n <;> by_cases h2 : n ≤ hi <;> simp (config := { maxSteps := 1000000 }) (disch := omega) [-List.map_replicate, -List.map_set, -List.getD_eq_getElem?_getD, -getElem?_pos, -getElem?_neg, om, ir121, h1, h2]
def spanB (a b : Int) : Bool := decide (0 ≤ a ∧ a < b ∧ b ≤ 1048576)
theorem ansSpans (a b : Int) : ansF cfg 176 [.agg [.int .i64 a, .int .i64 b]] [] = some (.bool (spanB a b), []) := by
  refine ans_of_wp fn176 low176 ?_
  unfold spanB
  by_cases h1 : 0 ≤ a
  · by_cases h2 : a < b
    · by_cases h3 : b ≤ 1048576
      · simp (config := { maxSteps := 1000000 }) (disch := omega) [-List.map_replicate, -List.map_set, -List.getD_eq_getElem?_getD, -getElem?_pos, -getElem?_neg, om, ir176, h1, h2, h3]
      · simp (config := { maxSteps := 1000000 }) (disch := omega) [-List.map_replicate, -List.map_set, -List.getD_eq_getElem?_getD, -getElem?_pos, -getElem?_neg, om, ir176, h1, h2, h3]
    · simp (config := { maxSteps := 1000000 }) (disch := omega) [-List.map_replicate, -List.map_set, -List.getD_eq_getElem?_getD, -getElem?_pos, -getElem?_neg, om, ir176, h1, h2]
  · simp (config := { maxSteps := 1000000 }) (disch := omega) [-List.map_replicate, -List.map_set, -List.getD_eq_getElem?_getD, -getElem?_pos, -getElem?_neg, om, ir176, h1]
def inB (a b day : Int) : Bool := decide (a ≤ day ∧ day < b)
theorem ansIn (a b day : Int) : ansF cfg 79 [.agg [.int .i64 a, .int .i64 b], .int .i64 day] [] = some (.bool (inB a b day), []) := by
  refine ans_of_wp fn79 low79 ?_
  unfold inB
  by_cases h1 : a ≤ day <;> by_cases h2 : day < b <;> simp (config := { maxSteps := 1000000 }) (disch := omega) [-List.map_replicate, -List.map_set, -List.getD_eq_getElem?_getD, -getElem?_pos, -getElem?_neg, om, ir79, h1, h2]
theorem rune_ascii (s : Str) {i : Nat} (h : i < s.length) (hc : (s.getD i 0).toNat < 128) : runeAt s i = ((s.getD i 0).toNat, 1) := by
  unfold runeAt
  have hg : (ByteArray.mk s.toArray).get! i = s.getD i 0 := by
    show s.toArray[i]! = _
    simp [List.getD_eq_getElem?_getD]
    rfl
  simp only [Utf8.decode, Nat.add_zero, hg, hc, if_true]
theorem rune_big (s : Str) {i : Nat} (hc : ¬ (s.getD i 0).toNat < 128) : 126 < (runeAt s i).1 := by
  unfold runeAt
  have hg : (ByteArray.mk s.toArray).get! i = s.getD i 0 := by
    show s.toArray[i]! = _
    simp [List.getD_eq_getElem?_getD]
    rfl
  simp only [Utf8.decode, Nat.add_zero, hg, hc, if_false]
  simp only [Utf8.runeError]
  repeat' split
  all_goals first
    | (simp only; omega)
    | (simp only [ge_iff_le, Bool.and_eq_true, decide_eq_true_eq] at *; omega)
def badB (c : UInt8) : Bool := decide (c.toNat < 32 ∨ 126 < c.toNat)
theorem ansBad (n : Int) : ansF cfg 197 [.int .i32 n] [] = some (.bool (decide (n < 32 ∨ 126 < n)), []) := by
  refine ans_of_wp fn197 low197 ?_
  by_cases h1 : n < 32 <;> by_cases h2 : 126 < n <;> simp (config := { maxSteps := 1000000 }) (disch := omega) [-List.map_replicate, -List.map_set, -List.getD_eq_getElem?_getD, -getElem?_pos, -getElem?_neg, om, ir197, h1, h2]
def badAt (s : Str) (i : Nat) : Int :=
  if h : i < s.length then if badB (s.getD i 0) then (i : Int) else badAt s (i + 1) else -1
termination_by s.length - i
theorem ansIdxF (s : Str) (hs : s.length < 1000000) : ansF cfg 201 [.str s, .fn 197 [] [], .bool true] [] = some (.int .i64 (badAt s 0), []) := by
  refine ans_of_wp fn201 low201 ?_
  simp (config := { maxSteps := 1000000 }) (disch := omega) [-List.map_replicate, -List.map_set, -List.getD_eq_getElem?_getD, -getElem?_pos, -getElem?_neg, om, ir201]
  refine Wp.loopM (fun (i : Nat) => s.length - i) (fun i => [none, some (.fn 197 [] []), some (.bool true), none, none, none, some (.itv 0), none, none, none, none]) (fun i => [.iter s i]) (fun i => badAt s 0 = badAt s i) ?_ 0 rfl (by simp) rfl
  intro i hi
  rw [hi]
  have hb := badAt.eq_def s i
  by_cases h1 : i < s.length
  · rw [dif_pos h1] at hb
    by_cases hc : (s.getD i 0).toNat < 128
    · have hr := rune_ascii s h1 hc
      have hB := ansBad ((s.getD i 0).toNat : Int)
      have hbb : decide (((s.getD i 0).toNat : Int) < 32 ∨ 126 < ((s.getD i 0).toNat : Int)) = badB (s.getD i 0) := by
        unfold badB; congr 1; apply propext; omega
      rw [hbb] at hB
      cases hv : badB (s.getD i 0) with
      | true =>
        rw [hv] at hB
        rw [hb, hv, if_pos rfl]
        generalize s.getD i 0 = c at *
        simp (config := { maxSteps := 1000000 }) (disch := omega) [-List.map_replicate, -List.map_set, -List.getD_eq_getElem?_getD, -getElem?_pos, -getElem?_neg, om, h1, hr, hB]
      | false =>
        rw [hv] at hB
        rw [hb, hv, if_neg (by simp)]
        generalize s.getD i 0 = c at *
        simp (config := { maxSteps := 1000000 }) (disch := omega) [-List.map_replicate, -List.map_set, -List.getD_eq_getElem?_getD, -getElem?_pos, -getElem?_neg, om, h1, hr, hB]
    · have hr0 := rune_big s hc
      obtain ⟨r1, r2, hr⟩ : ∃ r1 r2, runeAt s i = (r1, r2) := ⟨_, _, rfl⟩
      rw [hr] at hr0
      simp only at hr0
      have hB := ansBad (r1 : Int)
      have hbb : decide ((r1 : Int) < 32 ∨ 126 < (r1 : Int)) = true := by rw [decide_eq_true_eq]; omega
      rw [hbb] at hB
      have hv : badB (s.getD i 0) = true := by unfold badB; rw [decide_eq_true_eq]; omega
      rw [hb, hv, if_pos rfl]
      simp (config := { maxSteps := 1000000 }) (disch := omega) [-List.map_replicate, -List.map_set, -List.getD_eq_getElem?_getD, -getElem?_pos, -getElem?_neg, om, h1, hr, hB]
  · rw [dif_neg h1] at hb
    rw [hb]
    simp (config := { maxSteps := 1000000 }) (disch := omega) [-List.map_replicate, -List.map_set, -List.getD_eq_getElem?_getD, -getElem?_pos, -getElem?_neg, om, h1]
theorem badAt_spec (s : Str) (n : Nat) : ∀ i, s.length - i = n → (decide (0 ≤ badAt s i) = (s.drop i).any badB) := by
  induction n with
  | zero =>
    intro i h
    rw [badAt, dif_neg (by omega), List.drop_eq_nil_of_le (by omega)]
    rfl
  | succ n ih =>
    intro i h
    rw [badAt, dif_pos (by omega), drop_get s (by omega), List.any_cons]
    cases hv : badB (s.getD i 0) with
    | true => rw [if_pos rfl]; simp
    | false => rw [if_neg (by simp), ih (i + 1) (by omega)]; rfl
theorem ansContF (s : Str) (hs : s.length < 1000000) : ansF cfg 196 [.str s, .fn 197 [] []] [] = some (.bool (s.any badB), []) := by
  have h1 := ansIdxF s hs
  have h2 : ansF cfg 200 [.str s, .fn 197 [] []] [] = some (.int .i64 (badAt s 0), []) := by
    refine ans_of_wp fn200 low200 ?_
    simp (config := { maxSteps := 1000000 }) (disch := omega) [-List.map_replicate, -List.map_set, -List.getD_eq_getElem?_getD, -getElem?_pos, -getElem?_neg, om, ir200, h1]
  refine ans_of_wp fn196 low196 ?_
  have h3 := badAt_spec s s.length 0 (by simp)
  rw [List.drop_zero] at h3
  rw [← h3]
  by_cases h4 : 0 ≤ badAt s 0
  · simp (config := { maxSteps := 1000000 }) (disch := omega) [-List.map_replicate, -List.map_set, -List.getD_eq_getElem?_getD, -getElem?_pos, -getElem?_neg, om, ir196, h2, h4]
  · simp (config := { maxSteps := 1000000 }) (disch := omega) [-List.map_replicate, -List.map_set, -List.getD_eq_getElem?_getD, -getElem?_pos, -getElem?_neg, om, ir196, h2, h4]
theorem ansIndex (s t : Str) (hs : s.length < 1000000) : ansF cfg 75 [.str s, .str t] [] = some (.int .i64 (Lib.index s t), []) := by
  refine ans_of_wp fn75 low75 ?_
  have h1 : s.length < 4294967281 := by omega
  simp (config := { maxSteps := 1000000 }) (disch := omega) [-List.map_replicate, -List.map_set, -List.getD_eq_getElem?_getD, -getElem?_pos, -getElem?_neg, om, ir75, findG, h1]
theorem ansContains (s t : Str) (hs : s.length < 1000000) : ansF cfg 33 [.str s, .str t] [] = some (.bool (Lib.contains s t), []) := by
  refine ans_of_wp fn33 low33 ?_
  have h1 := ansIndex s t hs
  unfold Lib.contains
  by_cases h4 : 0 ≤ Lib.index s t
  · simp (config := { maxSteps := 1000000 }) (disch := omega) [-List.map_replicate, -List.map_set, -List.getD_eq_getElem?_getD, -getElem?_pos, -getElem?_neg, om, ir33, h1, h4]
  · simp (config := { maxSteps := 1000000 }) (disch := omega) [-List.map_replicate, -List.map_set, -List.getD_eq_getElem?_getD, -getElem?_pos, -getElem?_neg, om, ir33, h1, h4]
def nameB (s : Str) : Bool := !(decide (s.length < 1 ∨ 64 < s.length) || s.getD 0 0 == 32 || s.getD (s.length - 1) 0 == 32 || Lib.contains s [32, 32]) && !s.any badB
theorem byte_eq (c : UInt8) (n : Nat) (hn : n < 256) : ((c.toNat : Int) == (n : Int)) = (c == UInt8.ofNat n) := by
  rw [Bool.eq_iff_iff]
  simp only [beq_iff_eq]
  constructor
  · intro h
    apply UInt8.toNat_inj.1
    rw [UInt8.toNat_ofNat']
    omega
  · intro h
    subst h
    rw [UInt8.toNat_ofNat']
    omega
theorem ansName (s : Str) : ansF cfg 189 [.str s] [] = some (.bool (nameB s), []) := by
  refine ans_of_wp fn189 low189 ?_
  unfold nameB
  by_cases h1 : s.length < 1
  · simp (config := { maxSteps := 1000000 }) (disch := omega) [-List.map_replicate, -List.map_set, -List.getD_eq_getElem?_getD, -getElem?_pos, -getElem?_neg, om, ir189, h1]
  by_cases h2 : 64 < s.length
  · simp (config := { maxSteps := 1000000 }) (disch := omega) [-List.map_replicate, -List.map_set, -List.getD_eq_getElem?_getD, -getElem?_pos, -getElem?_neg, om, ir189, h1, h2]
  have g0 := get_str s (i := 0) (by omega)
  have g1 := get_str s (i := s.length - 1) (by omega)
  have hc := ansContains s [32, 32] (by omega)
  have hf := ansContF s (by omega)
  have e0 : (((s.getD 0 0).toNat : Int) == 32) = (s.getD 0 0 == 32) := byte_eq (s.getD 0 0) 32 (by omega)
  have e1 : (((s.getD (s.length - 1) 0).toNat : Int) == 32) = (s.getD (s.length - 1) 0 == 32) := byte_eq (s.getD (s.length - 1) 0) 32 (by omega)
  have hl : ((s.length : Int) - 1).toNat = s.length - 1 := by omega
  generalize s.getD 0 0 = c0 at *
  generalize s.getD (s.length - 1) 0 = c1 at *
  cases b0 : (c0 == 32) with
  | true =>
    rw [b0] at e0
    simp (config := { maxSteps := 1000000 }) (disch := omega) [-List.map_replicate, -List.map_set, -List.getD_eq_getElem?_getD, -getElem?_pos, -getElem?_neg, om, ir189, h1, h2, g0, e0]
  | false =>
    rw [b0] at e0
    cases b1 : (c1 == 32) with
    | true =>
      rw [b1] at e1
      simp (config := { maxSteps := 1000000 }) (disch := omega) [-List.map_replicate, -List.map_set, -List.getD_eq_getElem?_getD, -getElem?_pos, -getElem?_neg, om, ir189, h1, h2, g0, e0, g1, e1, hl]
    | false =>
      rw [b1] at e1
      cases b2 : Lib.contains s [32, 32] with
      | true =>
        rw [b2] at hc
        simp (config := { maxSteps := 1000000 }) (disch := omega) [-List.map_replicate, -List.map_set, -List.getD_eq_getElem?_getD, -getElem?_pos, -getElem?_neg, om, ir189, h1, h2, g0, e0, g1, e1, hl, hc]
      | false =>
        rw [b2] at hc
        simp (config := { maxSteps := 1000000 }) (disch := omega) [-List.map_replicate, -List.map_set, -List.getD_eq_getElem?_getD, -getElem?_pos, -getElem?_neg, om, ir189, h1, h2, g0, e0, g1, e1, hl, hc, hf]
end Go.Proofs.YtlolhkjjbgpfbaaGreatDoor
namespace Go.Proofs.YtlolhkjjbgpfbaaGreatDoor
open Go.Am
set_option maxRecDepth 10000
set_option maxHeartbeats 4000000
theorem get_nms (L : List Nm) {i : Nat} (h : i < L.length) : (L.map nmA)[i]? = some (nmA L[i]) := by simp [h]
theorem get_ints (L : List Int) {i : Nat} (h : i < L.length) : (L.map intA)[i]? = some (.int .i64 L[i]) := by simp [h, intA]
def nmE (x : Au) (p : Option Nm) (n : Nm) : Int :=
  if nameB n.t = false then 4 else if spanB n.a n.b = false then 2 else if n.a < x.a ∨ x.b < n.b then 10 else match p with
    | some q => if n.a < q.b then 5 else 0
    | none => 0
def nmsGo (x : Au) : Option Nm → List Nm → Int
  | _, [] => 0
  | p, n :: r => if nmE x p n = 0 then nmsGo x (some n) r else nmE x p n
def namesE (x : Au) : Int := if x.names.length = 0 then 9 else if 16 < x.names.length then 8 else nmsGo x none x.names
def prevOf (L : List Nm) (i : Nat) : Option Nm := if i = 0 then none else L[i - 1]?
theorem ansNames (x : Au) (hx : x.ok) : ansF cfg 177 [auA x] [] = some (.int .i64 (namesE x), []) := by
  refine ans_of_wp fn177 low177 ?_
  unfold namesE
  by_cases h0 : x.names.length = 0
  · simp (config := { maxSteps := 1000000 }) (disch := omega) [-List.map_replicate, -List.map_set, -List.getD_eq_getElem?_getD, -getElem?_pos, -getElem?_neg, om, ir177, auA, Au.cells, h0]
  by_cases h16 : 16 < x.names.length
  · simp (config := { maxSteps := 1000000 }) (disch := omega) [-List.map_replicate, -List.map_set, -List.getD_eq_getElem?_getD, -getElem?_pos, -getElem?_neg, om, ir177, auA, Au.cells, h0, h16]
  have hz : x.nz = 3 := hx.nz (by intro h; rw [h] at h0; simp at h0)
  simp (config := { maxSteps := 1000000 }) (disch := omega) [-List.map_replicate, -List.map_set, -List.getD_eq_getElem?_getD, -getElem?_pos, -getElem?_neg, om, ir177, auA, Au.cells, h0, h16]
  refine Wp.loopM (fun (a : Nat × Option AV × Option AV) => x.names.length - a.1) (fun a => [none, some (.ptr 0 0), none, none, none, none, none, some (.lst x.nn x.nz (x.names.map nmA)), some (.int .i64 x.names.length), some (.int .i64 a.1), none, none, none, none, none, none, none, none]) (fun _ => [.var 51 x.cells])
    (fun a => a.1 ≤ x.names.length ∧ nmsGo x none x.names = nmsGo x (prevOf x.names a.1) (x.names.drop a.1)) ?_ (0, none, none) ⟨Nat.zero_le _, rfl⟩ (by simp) rfl
  rintro ⟨i, o1, o2⟩ ⟨hi, hr⟩
  simp only at hi hr ⊢
  rw [hr]
  unfold Au.cells
  by_cases h1 : i < x.names.length
  · have hg := get_nms x.names h1
    rw [List.drop_eq_getElem_cons h1] at hr ⊢
    simp only [nmsGo] at hr ⊢
    have hN := ansName (x.names[i]).t
    have hS := ansSpans (x.names[i]).a (x.names[i]).b
    have hnx : prevOf x.names (i + 1) = some x.names[i] := by simp [prevOf, h1]
    have hgp : 0 < i → (x.names.map nmA)[i - 1]? = some (nmA (x.names[i - 1]'(by omega))) := fun h => get_nms x.names (by omega)
    have hpv : 0 < i → prevOf x.names i = some (x.names[i - 1]'(by omega)) := fun h => by unfold prevOf; rw [if_neg (by omega)]; exact List.getElem?_eq_getElem (by omega)
    have hp0 : i = 0 → prevOf x.names i = none := fun h => by simp [prevOf, h]
    generalize prevOf x.names i = p at *
    generalize x.names[i] = n at *
    obtain ⟨t, a, b⟩ := n
    unfold nmE at hr ⊢
    simp only [nmA] at hN hS hr hg hnx ⊢
    cases k1 : nameB t with
    | false =>
      rw [k1] at hN
      simp (config := { maxSteps := 1000000 }) (disch := omega) [-List.map_replicate, -List.map_set, -List.getD_eq_getElem?_getD, -getElem?_pos, -getElem?_neg, om, h1, hg, hN, splice, nmA]
    | true =>
      rw [k1] at hN
      simp only [k1, Bool.true_eq_false, if_false] at hr ⊢
      cases k2 : spanB a b with
      | false =>
        rw [k2] at hS
        simp (config := { maxSteps := 1000000 }) (disch := omega) [-List.map_replicate, -List.map_set, -List.getD_eq_getElem?_getD, -getElem?_pos, -getElem?_neg, om, h1, hg, hN, hS, splice, nmA]
      | true =>
        rw [k2] at hS
        simp only [k2, Bool.true_eq_false, if_false] at hr ⊢
        by_cases k3 : a < x.a
        · simp (config := { maxSteps := 1000000 }) (disch := omega) [-List.map_replicate, -List.map_set, -List.getD_eq_getElem?_getD, -getElem?_pos, -getElem?_neg, om, h1, hg, hN, hS, splice, nmA, k3]
        by_cases k4 : x.b < b
        · simp (config := { maxSteps := 1000000 }) (disch := omega) [-List.map_replicate, -List.map_set, -List.getD_eq_getElem?_getD, -getElem?_pos, -getElem?_neg, om, h1, hg, hN, hS, splice, nmA, k3, k4]
        have k5 : ¬ (a < x.a ∨ x.b < b) := by omega
        simp only [k5, if_false] at hr ⊢
        by_cases hi0 : i = 0
        · subst hi0
          rw [hp0 rfl] at hr ⊢
          simp only [if_true] at hr ⊢
          simp (config := { maxSteps := 1000000 }) (disch := omega) [-List.map_replicate, -List.map_set, -List.getD_eq_getElem?_getD, -getElem?_pos, -getElem?_neg, om, h1, hg, hN, hS, splice, nmA, k3, k4]
          exact ⟨1, ⟨by omega, by rw [show prevOf x.names 1 = _ from hnx, List.drop_one]⟩, by omega, rfl⟩
        · have hgp := hgp (by omega)
          rw [hpv (by omega)] at hr ⊢
          simp only at hr ⊢
          have ei : ((i : Int) - 1).toNat = i - 1 := by omega
          generalize x.names[i - 1] = q at *
          obtain ⟨t', a', b'⟩ := q
          simp only [nmA] at hgp hr ⊢
          by_cases k6 : a < b'
          · simp (config := { maxSteps := 1000000 }) (disch := omega) [-List.map_replicate, -List.map_set, -List.getD_eq_getElem?_getD, -getElem?_pos, -getElem?_neg, om, h1, hg, hN, hS, splice, nmA, k3, k4, ei, hgp, k6]
          · simp only [k6, if_false, if_true] at hr ⊢
            simp (config := { maxSteps := 1000000 }) (disch := omega) [-List.map_replicate, -List.map_set, -List.getD_eq_getElem?_getD, -getElem?_pos, -getElem?_neg, om, h1, hg, hN, hS, splice, nmA, k3, k4, ei, hgp, k6]
            exact ⟨i + 1, ⟨by omega, by rw [hnx]⟩, by omega, by simp⟩
  · rw [List.drop_eq_nil_of_le (by omega)]
    simp (config := { maxSteps := 1000000 }) (disch := omega) [-List.map_replicate, -List.map_set, -List.getD_eq_getElem?_getD, -getElem?_pos, -getElem?_neg, om, h1, nmsGo]
end Go.Proofs.YtlolhkjjbgpfbaaGreatDoor
namespace Go.Proofs.YtlolhkjjbgpfbaaGreatDoor
open Go.Am
set_option maxRecDepth 10000
set_option maxHeartbeats 4000000
def nextGo : List Int → Int
  | a :: b :: r => if b ≤ a then 5 else nextGo (b :: r)
  | _ => 0
def auE (p : Option Au) (x : Au) : Int :=
  if ¬ (1 ≤ x.id ∧ x.id ≤ 1073741824) ∨ ¬ (1 ≤ x.kind ∧ x.kind ≤ 3) ∨ spanB x.a x.b = false then 2
  else if (match p with | some q => decide (x.id ≤ q.id) | none => false) = true then 5
  else if namesE x ≠ 0 then namesE x else if 16 < x.next.length then 8 else nextGo x.next
theorem get_aus (L : List Au) {i : Nat} (h : i < L.length) : (L.map auA)[i]? = some (auA L[i]) := by simp [h]
def auL (nl : Option Bool) (z : Nat) (l : List Au) : AV := .lst nl z (l.map auA)
def prevA (l : List Au) (i : Nat) : Option Au := if i = 0 then none else l[i - 1]?
theorem ansAlone (nl : Option Bool) (z : Nat) (l : List Au) (hz : l ≠ [] → z = 6) (hok : ∀ x ∈ l, x.ok) (i : Nat) (hi : i < l.length) (hl : l.length < 1000000) :
    ansF cfg 156 [auL nl z l, .int .i64 i] [] = some (.int .i64 (auE (prevA l i) l[i]), []) := by
  refine ans_of_wp fn156 low156 ?_
  have hz : z = 6 := hz (by intro h; rw [h] at hi; simp at hi)
  subst hz
  have hg := get_aus l hi
  have hx := hok _ (List.getElem_mem hi)
  have hgp : 0 < i → (l.map auA)[i - 1]? = some (auA (l[i - 1]'(by omega))) := fun h => get_aus l (by omega)
  have hpv : 0 < i → prevA l i = some (l[i - 1]'(by omega)) := fun h => by unfold prevA; rw [if_neg (by omega)]; exact List.getElem?_eq_getElem (by omega)
  have hp0 : i = 0 → prevA l i = none := fun h => by simp [prevA, h]
  have hN := ansNames l[i] hx
  have hS := ansSpans l[i].a l[i].b
  have hI := ansWithin l[i].id 1 1073741824
  have hK := ansWithin l[i].kind 1 3
  generalize prevA l i = p at *
  generalize l[i] = x at *
  unfold auE auL
  unfold auA Au.cells at hN
  by_cases k1 : 1 ≤ x.id ∧ x.id ≤ 1073741824
  case neg =>
    rw [decide_eq_false k1] at hI
    simp (config := { maxSteps := 1000000 }) (disch := omega) [-List.map_replicate, -List.map_set, -List.getD_eq_getElem?_getD, -getElem?_pos, -getElem?_neg, om, ir156, splice, auA, Au.cells, hg, hI, k1]
  rw [decide_eq_true k1] at hI
  by_cases k2 : 1 ≤ x.kind ∧ x.kind ≤ 3
  case neg =>
    rw [decide_eq_false k2] at hK
    simp (config := { maxSteps := 1000000 }) (disch := omega) [-List.map_replicate, -List.map_set, -List.getD_eq_getElem?_getD, -getElem?_pos, -getElem?_neg, om, ir156, splice, auA, Au.cells, hg, hI, k1, hK, k2]
  rw [decide_eq_true k2] at hK
  cases k3 : spanB x.a x.b with
  | false =>
    rw [k3] at hS
    simp (config := { maxSteps := 1000000 }) (disch := omega) [-List.map_replicate, -List.map_set, -List.getD_eq_getElem?_getD, -getElem?_pos, -getElem?_neg, om, ir156, splice, auA, Au.cells, hg, hI, k1, hK, k2, hS]
  | true =>
  rw [k3] at hS
  have hd1 : ¬ (¬ (1 ≤ x.id ∧ x.id ≤ 1073741824) ∨ ¬ (1 ≤ x.kind ∧ x.kind ≤ 3) ∨ true = false) := by simp; omega
  rw [if_neg hd1]
  have rest : ∀ (f : Bool), f = true → (∀ (Q : Prop), Q → Q) := fun _ _ _ h => h
  by_cases hi0 : i = 0
  · subst hi0
    rw [hp0 rfl]
    simp only [Bool.false_eq_true, if_false]
    by_cases k5 : namesE x = 0
    case neg =>
      have k6 : (namesE x != 0) = true := by simpa using k5
      rw [if_pos k5]
      generalize namesE x = e at *
      simp (config := { maxSteps := 1000000 }) (disch := omega) [-List.map_replicate, -List.map_set, -List.getD_eq_getElem?_getD, -getElem?_pos, -getElem?_neg, om, ir156, splice, auA, Au.cells, hg, hI, hK, hS, hN, k6]
    rw [k5] at hN
    rw [if_neg (by simp [k5])]
    by_cases k7 : 16 < x.next.length
    · rw [if_pos k7]
      simp (config := { maxSteps := 1000000 }) (disch := omega) [-List.map_replicate, -List.map_set, -List.getD_eq_getElem?_getD, -getElem?_pos, -getElem?_neg, om, ir156, splice, auA, Au.cells, hg, hI, hK, hS, hN, k7]
    rw [if_neg k7]
    simp (config := { maxSteps := 1000000 }) (disch := omega) [-List.map_replicate, -List.map_set, -List.getD_eq_getElem?_getD, -getElem?_pos, -getElem?_neg, om, ir156, splice, auA, Au.cells, hg, hI, hK, hS, hN, k7]
    clear hN hS hI hK hg hgp hpv hp0
    refine Wp.loopM (fun (k : Nat) => x.next.length + 1 - k) (fun k => [none, none, none, some (.ptr 0 0), none, some (.int .i64 k), none, none, none, none, none, none, none, none, none, none, none]) (fun _ => [.var 51 x.cells])
      (fun k => 1 ≤ k ∧ k ≤ x.next.length + 1 ∧ nextGo x.next = nextGo (x.next.drop (k - 1))) ?_ 1 ⟨Nat.le_refl _, by omega, rfl⟩ (by simp) rfl
    rintro k ⟨hk1, hk2, hr⟩
    rw [hr]
    unfold Au.cells
    by_cases h8 : k < x.next.length
    · have g1 := get_ints x.next h8
      have g2 := get_ints x.next (i := k - 1) (by omega)
      have e8 : ((k : Int) - 1).toNat = k - 1 := by omega
      have e9 : k - 1 + 1 = k := by omega
      have hxz : x.xz = 1 := hx.xz (by intro h; rw [h] at h8; simp at h8)
      have hdr : x.next.drop (k - 1) = x.next[k - 1] :: x.next[k] :: x.next.drop (k + 1) := by
        rw [List.drop_eq_getElem_cons (by omega : k - 1 < x.next.length)]
        simp only [e9]
        rw [List.drop_eq_getElem_cons h8]
      have hdk : x.next.drop k = x.next[k] :: x.next.drop (k + 1) := List.drop_eq_getElem_cons h8
      rw [hdr] at hr ⊢
      simp only [nextGo] at hr ⊢
      rw [← hdk] at hr ⊢
      generalize x.next[k - 1] = u at *
      generalize x.next[k] = v at *
      by_cases h9 : v ≤ u
      · simp (config := { maxSteps := 1000000 }) (disch := omega) [-List.map_replicate, -List.map_set, -List.getD_eq_getElem?_getD, -getElem?_pos, -getElem?_neg, om, h8, g1, g2, e8, h9]
      · simp only [h9, if_false] at hr ⊢
        simp (config := { maxSteps := 1000000 }) (disch := omega) [-List.map_replicate, -List.map_set, -List.getD_eq_getElem?_getD, -getElem?_pos, -getElem?_neg, om, h8, g1, g2, e8, h9]
        exact ⟨k + 1, ⟨by omega, by omega, rfl⟩, by omega, by simp⟩
    · have hdr : nextGo (x.next.drop (k - 1)) = 0 := by
        have : (x.next.drop (k - 1)).length ≤ 1 := by rw [List.length_drop]; omega
        match x.next.drop (k - 1), this with
        | [], _ => rfl
        | [a], _ => rfl
        | a :: b :: r, h => simp at h
      rw [hdr]
      simp (config := { maxSteps := 1000000 }) (disch := omega) [-List.map_replicate, -List.map_set, -List.getD_eq_getElem?_getD, -getElem?_pos, -getElem?_neg, om, h8]
  · have hgp := hgp (by omega)
    have hpi : 0 < i := by omega
    rw [hpv (by omega)]
    have ei : ((i : Int) - 1).toNat = i - 1 := by omega
    generalize l[i - 1] = q at *
    simp only [decide_eq_true_eq]
    by_cases k4 : x.id ≤ q.id
    · rw [if_pos k4]
      simp (config := { maxSteps := 1000000 }) (disch := omega) [-List.map_replicate, -List.map_set, -List.getD_eq_getElem?_getD, -getElem?_pos, -getElem?_neg, om, ir156, splice, auA, Au.cells, hg, hI, hK, hS, hgp, ei, k4]
    rw [if_neg k4]
    by_cases k5 : namesE x = 0
    case neg =>
      have k6 : (namesE x != 0) = true := by simpa using k5
      rw [if_pos k5]
      generalize namesE x = e at *
      simp (config := { maxSteps := 1000000 }) (disch := omega) [-List.map_replicate, -List.map_set, -List.getD_eq_getElem?_getD, -getElem?_pos, -getElem?_neg, om, ir156, splice, auA, Au.cells, hg, hI, hK, hS, hN, k6, hgp, ei, k4]
    rw [k5] at hN
    rw [if_neg (by simp [k5])]
    by_cases k7 : 16 < x.next.length
    · rw [if_pos k7]
      simp (config := { maxSteps := 1000000 }) (disch := omega) [-List.map_replicate, -List.map_set, -List.getD_eq_getElem?_getD, -getElem?_pos, -getElem?_neg, om, ir156, splice, auA, Au.cells, hg, hI, hK, hS, hN, k7, hgp, ei, k4]
    rw [if_neg k7]
    simp (config := { maxSteps := 1000000 }) (disch := omega) [-List.map_replicate, -List.map_set, -List.getD_eq_getElem?_getD, -getElem?_pos, -getElem?_neg, om, ir156, splice, auA, Au.cells, hg, hI, hK, hS, hN, k7, hgp, ei, k4]
    clear hN hS hI hK hg hgp hpv hp0
    refine Wp.loopM (fun (k : Nat) => x.next.length + 1 - k) (fun k => [none, none, none, some (.ptr 0 0), none, some (.int .i64 k), none, none, none, none, none, none, none, none, none, none, none]) (fun _ => [.var 51 x.cells])
      (fun k => 1 ≤ k ∧ k ≤ x.next.length + 1 ∧ nextGo x.next = nextGo (x.next.drop (k - 1))) ?_ 1 ⟨Nat.le_refl _, by omega, rfl⟩ (by simp) rfl
    rintro k ⟨hk1, hk2, hr⟩
    rw [hr]
    unfold Au.cells
    by_cases h8 : k < x.next.length
    · have g1 := get_ints x.next h8
      have g2 := get_ints x.next (i := k - 1) (by omega)
      have e8 : ((k : Int) - 1).toNat = k - 1 := by omega
      have e9 : k - 1 + 1 = k := by omega
      have hxz : x.xz = 1 := hx.xz (by intro h; rw [h] at h8; simp at h8)
      have hdr : x.next.drop (k - 1) = x.next[k - 1] :: x.next[k] :: x.next.drop (k + 1) := by
        rw [List.drop_eq_getElem_cons (by omega : k - 1 < x.next.length)]
        simp only [e9]
        rw [List.drop_eq_getElem_cons h8]
      have hdk : x.next.drop k = x.next[k] :: x.next.drop (k + 1) := List.drop_eq_getElem_cons h8
      rw [hdr] at hr ⊢
      simp only [nextGo] at hr ⊢
      rw [← hdk] at hr ⊢
      generalize x.next[k - 1] = u at *
      generalize x.next[k] = v at *
      by_cases h9 : v ≤ u
      · simp (config := { maxSteps := 1000000 }) (disch := omega) [-List.map_replicate, -List.map_set, -List.getD_eq_getElem?_getD, -getElem?_pos, -getElem?_neg, om, h8, g1, g2, e8, h9]
      · simp only [h9, if_false] at hr ⊢
        simp (config := { maxSteps := 1000000 }) (disch := omega) [-List.map_replicate, -List.map_set, -List.getD_eq_getElem?_getD, -getElem?_pos, -getElem?_neg, om, h8, g1, g2, e8, h9]
        exact ⟨k + 1, ⟨by omega, by omega, rfl⟩, by omega, by simp⟩
    · have hdr : nextGo (x.next.drop (k - 1)) = 0 := by
        have : (x.next.drop (k - 1)).length ≤ 1 := by rw [List.length_drop]; omega
        match x.next.drop (k - 1), this with
        | [], _ => rfl
        | [a], _ => rfl
        | a :: b :: r, h => simp at h
      rw [hdr]
      simp (config := { maxSteps := 1000000 }) (disch := omega) [-List.map_replicate, -List.map_set, -List.getD_eq_getElem?_getD, -getElem?_pos, -getElem?_neg, om, h8]
end Go.Proofs.YtlolhkjjbgpfbaaGreatDoor
namespace Go.Proofs.YtlolhkjjbgpfbaaGreatDoor
open Go.Am
set_option maxRecDepth 10000
set_option maxHeartbeats 4000000
def loc (l : List Au) (id : Int) (i : Nat) : Option Nat :=
  if h : i < l.length then if l[i].id = id then some i else loc l id (i + 1) else none
termination_by l.length - i
def locI (o : Option Nat) : Int := match o with | some i => (i : Int) | none => -1
theorem loc_spec (l : List Au) (id : Int) : ∀ (n i : Nat), l.length - i = n → ∀ j, loc l id i = some j → ∃ h : j < l.length, l[j].id = id
  | 0, i, hn, j, h => by rw [loc, dif_neg (by omega)] at h; cases h
  | n + 1, i, hn, j, h => by
    rw [loc, dif_pos (by omega)] at h
    split at h
    · cases h; exact ⟨by omega, by assumption⟩
    · exact loc_spec l id n (i + 1) (by omega) j h
theorem ansSame (x : Au) (id : Int) : ansF cfg 123 [auA x, .ptr 0 0] [.var 3 [.int .i64 id]] = some (.bool (x.id == id), [.var 3 [.int .i64 id]]) := by
  refine ans_of_wp fn123 low123 ?_
  simp (config := { maxSteps := 1000000 }) (disch := omega) [-List.map_replicate, -List.map_set, -List.getD_eq_getElem?_getD, -getElem?_pos, -getElem?_neg, om, ir123, auA, Au.cells, splice]
theorem ansLocF (nl : Option Bool) (z : Nat) (l : List Au) (hz : l ≠ [] → z = 6) (hl : l.length < 1000000) (id : Int) :
    ansF cfg 122 [auL nl z l, .fn 123 [] [.ptr 0 0]] [.var 3 [.int .i64 id]] = some (.int .i64 (locI (loc l id 0)), [.var 3 [.int .i64 id]]) := by
  refine ans_of_wp fn122 low122 ?_
  unfold auL
  simp (config := { maxSteps := 1000000 }) (disch := omega) [-List.map_replicate, -List.map_set, -List.getD_eq_getElem?_getD, -getElem?_pos, -getElem?_neg, om, ir122]
  refine Wp.loopM (fun (i : Nat) => l.length - i) (fun i => [some (.lst nl z (l.map auA)), some (.fn 123 [] [.ptr 0 0]), none, none, some (.int .i64 l.length), some (.int .i64 i), none, none]) (fun _ => [.var 3 [.int .i64 id]]) (fun i => loc l id 0 = loc l id i) ?_ 0 rfl (by simp) rfl
  intro i hr
  rw [hr]
  have hb := loc.eq_def l id i
  by_cases h1 : i < l.length
  · have hz : z = 6 := hz (by intro h; rw [h] at h1; simp at h1)
    subst hz
    have hg := get_aus l h1
    have hs := ansSame l[i] id
    rw [dif_pos h1] at hb
    generalize l[i] = x at *
    unfold auA Au.cells at hs
    by_cases h2 : x.id = id
    · rw [if_pos h2] at hb
      rw [hb]
      have h3 : (x.id == id) = true := by simpa using h2
      rw [h3] at hs
      simp (config := { maxSteps := 1000000 }) (disch := omega) [-List.map_replicate, -List.map_set, -List.getD_eq_getElem?_getD, -getElem?_pos, -getElem?_neg, om, h1, hg, hs, auA, Au.cells, locI]
    · rw [if_neg h2] at hb
      rw [hb]
      have h3 : (x.id == id) = false := by simpa using h2
      rw [h3] at hs
      simp (config := { maxSteps := 1000000 }) (disch := omega) [-List.map_replicate, -List.map_set, -List.getD_eq_getElem?_getD, -getElem?_pos, -getElem?_neg, om, h1, hg, hs, auA, Au.cells, locI]
      exact ⟨i + 1, rfl, by omega, by simp⟩
  · rw [dif_neg h1] at hb
    rw [hb]
    simp (config := { maxSteps := 1000000 }) (disch := omega) [-List.map_replicate, -List.map_set, -List.getD_eq_getElem?_getD, -getElem?_pos, -getElem?_neg, om, h1, locI]
theorem ansLoc (nl : Option Bool) (z : Nat) (l : List Au) (hz : l ≠ [] → z = 6) (hl : l.length < 1000000) (id : Int) :
    ansF cfg 78 [auL nl z l, .int .i64 id] [] = some (.int .i64 (locI (loc l id 0)), []) := by
  have h := ansLocF nl z l hz hl id
  refine ans_of_wp fn78 low78 ?_
  unfold auL at *
  simp (config := { maxSteps := 1000000 }) (disch := omega) [-List.map_replicate, -List.map_set, -List.getD_eq_getElem?_getD, -getElem?_pos, -getElem?_neg, om, ir78, h]
def idxI (P : Int → Bool) : List Int → Nat → Int
  | [], _ => -1
  | a :: r, i => if P a = true then (i : Int) else idxI P r (i + 1)
theorem idxI_any (P : Int → Bool) : ∀ (L : List Int) (i : Nat), decide (0 ≤ idxI P L i) = L.any P
  | [], i => rfl
  | a :: r, i => by
    have ih := idxI_any P r (i + 1)
    simp only [List.any_cons]
    unfold idxI
    by_cases he : P a = true
    · simp only [he, if_true, Bool.true_or]; simp
    · rw [Bool.not_eq_true] at he
      simp only [he, Bool.false_or, Bool.false_eq_true, if_false]
      exact ih
theorem ansAnyI (nl : Option Bool) (z : Nat) (L : List Int) (hz : L ≠ [] → z = 1) (hl : L.length < 1000000) (g : FuncId) (hx : cfg.ext g = none) (hv : cfg.ovb g = none) (hm : cfg.muts g = false) (caps : List AV) (k o : Nat) (cr : List AV) (hcaps : caps = .ptr k o :: cr) (bs : List Box) (P : Int → Bool)
    (hcl : lendAll bs cr = some cr) (hP : ∀ a ∈ L, ansF cfg g (.int .i64 a :: caps) bs = some (.bool (P a), bs)) :
    ansF cfg 178 [.lst nl z (L.map intA), .fn g [] caps] bs = some (.bool (L.any P), bs) := by
  have h : ansF cfg 190 [.lst nl z (L.map intA), .fn g [] caps] bs = some (.int .i64 (idxI P L 0), bs) := by
    refine ans_of_wp fn190 low190 ?_
    simp (config := { maxSteps := 1000000 }) (disch := omega) [-List.map_replicate, -List.map_set, -List.getD_eq_getElem?_getD, -getElem?_pos, -getElem?_neg, om, ir190]
    refine Wp.loopM (fun (i : Nat) => L.length - i) (fun i => [some (.lst nl z (L.map intA)), some (.fn g [] caps), none, none, some (.int .i64 L.length), some (.int .i64 i), none, none]) (fun _ => bs) (fun i => idxI P L 0 = idxI P (L.drop i) i) ?_ 0 rfl (by simp) rfl
    intro i hr
    rw [hr]
    by_cases h1 : i < L.length
    · have hz : z = 1 := hz (by intro h; rw [h] at h1; simp at h1)
      subst hz
      have hg := get_ints L h1
      have hs := hP _ (List.getElem_mem h1)
      rw [List.drop_eq_getElem_cons h1] at hr ⊢
      simp only [idxI] at hr ⊢
      generalize L[i] = a at *
      subst hcaps
      rw [cfg_ext] at hx
      rw [cfg_ovb] at hv
      rw [cfg_muts] at hm
      cases h2 : P a with
      | true =>
        rw [h2] at hs
        simp (config := { maxSteps := 1000000 }) (disch := omega) [-List.map_replicate, -List.map_set, -List.getD_eq_getElem?_getD, -getElem?_pos, -getElem?_neg, om, h1, hg, hs, hx, hm, hcl, -exts, -muts]
      | false =>
        rw [h2] at hs hr
        simp (config := { maxSteps := 1000000 }) (disch := omega) [-List.map_replicate, -List.map_set, -List.getD_eq_getElem?_getD, -getElem?_pos, -getElem?_neg, om, h1, hg, hs, hx, hm, hcl, -exts, -muts]
        exact ⟨i + 1, by simpa using rfl, by omega, by simp⟩
    · rw [List.drop_eq_nil_of_le (by omega)]
      simp (config := { maxSteps := 1000000 }) (disch := omega) [-List.map_replicate, -List.map_set, -List.getD_eq_getElem?_getD, -getElem?_pos, -getElem?_neg, om, h1, idxI]
  refine ans_of_wp fn178 low178 ?_
  rw [← idxI_any P L 0]
  subst hcaps
  by_cases h4 : 0 ≤ idxI P L 0
  · simp (config := { maxSteps := 1000000 }) (disch := omega) [-List.map_replicate, -List.map_set, -List.getD_eq_getElem?_getD, -getElem?_pos, -getElem?_neg, om, ir178, h, h4, hcl]
  · simp (config := { maxSteps := 1000000 }) (disch := omega) [-List.map_replicate, -List.map_set, -List.getD_eq_getElem?_getD, -getElem?_pos, -getElem?_neg, om, ir178, h, h4, hcl]
def getA (l : List Au) (id : Int) : Option Au := (loc l id 0).bind (l[·]?)
def noneB (l : List Au) (id : Int) : Bool := (loc l id 0).isNone
def kindB (l : List Au) (x : Au) (id : Int) : Bool := match getA l id with | some y => y.kind != x.kind | none => false
def gapB (l : List Au) (x : Au) (id : Int) : Bool := match getA l id with | some y => y.a != x.b | none => false
def succE (l : List Au) (x : Au) : Int := if x.next.any (noneB l) = true then 7 else if x.next.any (kindB l x) = true then 10 else if x.next.any (gapB l x) = true then 16 else 0
theorem loc_some {l : List Au} {id : Int} (h : noneB l id = false) : ∃ j, ∃ hj : j < l.length, loc l id 0 = some j ∧ getA l id = some l[j] := by
  unfold noneB at h
  cases hl : loc l id 0 with
  | none => rw [hl] at h; cases h
  | some j =>
    obtain ⟨hj, _⟩ := loc_spec l id _ 0 rfl j hl
    exact ⟨j, hj, rfl, by unfold getA; rw [hl]; simp [hj]⟩
theorem ansNo (nl : Option Bool) (z : Nat) (l : List Au) (hz : l ≠ [] → z = 6) (hl : l.length < 1000000) (x : Au) (id : Int) (bs : List Box) (hb : Box.at bs 0 = .var 28 [auL nl z l]) :
    ansF cfg 179 [.int .i64 id, .ptr 0 0] bs = some (.bool (noneB l id), bs) := by
  have h := ansLoc nl z l hz hl id
  refine ans_of_wp fn179 low179 ?_
  unfold auL at *
  unfold noneB
  cases hc : loc l id 0 with
  | none =>
    rw [hc] at h
    simp (config := { maxSteps := 1000000 }) (disch := omega) [-List.map_replicate, -List.map_set, -List.getD_eq_getElem?_getD, -getElem?_pos, -getElem?_neg, om, ir179, h, hb, locI]
  | some j =>
    rw [hc] at h
    simp (config := { maxSteps := 1000000 }) (disch := omega) [-List.map_replicate, -List.map_set, -List.getD_eq_getElem?_getD, -getElem?_pos, -getElem?_neg, om, ir179, h, hb, locI]
theorem ansKind (nl : Option Bool) (z : Nat) (l : List Au) (hz : l ≠ [] → z = 6) (hl : l.length < 1000000) (x : Au) (id : Int) (hid : noneB l id = false) (bs : List Box) (hb : Box.at bs 0 = .var 28 [auL nl z l]) (hb1 : Box.at bs 1 = .var 51 x.cells) :
    ansF cfg 180 [.int .i64 id, .ptr 0 0, .ptr 1 0] bs = some (.bool (kindB l x id), bs) := by
  have h := ansLoc nl z l hz hl id
  obtain ⟨j, hj, h1, h2⟩ := loc_some hid
  have hz : z = 6 := hz (by intro h; rw [h] at hj; simp at hj)
  subst hz
  have hg := get_aus l hj
  refine ans_of_wp fn180 low180 ?_
  unfold kindB
  rw [h2]
  rw [h1] at h
  unfold auL Au.cells at *
  generalize l[j] = y at *
  simp (config := { maxSteps := 1000000 }) (disch := omega) [-List.map_replicate, -List.map_set, -List.getD_eq_getElem?_getD, -getElem?_pos, -getElem?_neg, om, ir180, h, hb, hb1, locI, hg, auA, Au.cells]
theorem ansGap (nl : Option Bool) (z : Nat) (l : List Au) (hz : l ≠ [] → z = 6) (hl : l.length < 1000000) (x : Au) (id : Int) (hid : noneB l id = false) (bs : List Box) (hb : Box.at bs 0 = .var 28 [auL nl z l]) (hb1 : Box.at bs 1 = .var 51 x.cells) :
    ansF cfg 181 [.int .i64 id, .ptr 0 0, .ptr 1 0] bs = some (.bool (gapB l x id), bs) := by
  have h := ansLoc nl z l hz hl id
  obtain ⟨j, hj, h1, h2⟩ := loc_some hid
  have hz : z = 6 := hz (by intro h; rw [h] at hj; simp at hj)
  subst hz
  have hg := get_aus l hj
  refine ans_of_wp fn181 low181 ?_
  unfold gapB
  rw [h2]
  rw [h1] at h
  unfold auL Au.cells at *
  generalize l[j] = y at *
  simp (config := { maxSteps := 1000000 }) (disch := omega) [-List.map_replicate, -List.map_set, -List.getD_eq_getElem?_getD, -getElem?_pos, -getElem?_neg, om, ir181, h, hb, hb1, locI, hg, auA, Au.cells]
end Go.Proofs.YtlolhkjjbgpfbaaGreatDoor
namespace Go.Proofs.YtlolhkjjbgpfbaaGreatDoor
open Go.Am
set_option maxRecDepth 10000
set_option maxHeartbeats 4000000
theorem ansSucc (nl : Option Bool) (z : Nat) (l : List Au) (hz : l ≠ [] → z = 6) (hok : ∀ x ∈ l, x.ok) (i : Nat) (hi : i < l.length) (hl : l.length < 1000000) :
    ansF cfg 157 [auL nl z l, .int .i64 i] [] = some (.int .i64 (succE l l[i]), []) := by
  have hz6 : z = 6 := hz (by intro h; rw [h] at hi; simp at hi)
  have hg := get_aus l hi
  have hx := hok _ (List.getElem_mem hi)
  generalize l[i] = x at *
  have n1 := fun id bs hb => ansNo nl z l hz hl x id bs hb
  have n2 := fun id hid bs hb hb1 => ansKind nl z l hz hl x id hid bs hb hb1
  have n3 := fun id hid bs hb hb1 => ansGap nl z l hz hl x id hid bs hb hb1
  have a1 := ansAnyI x.xn x.xz x.next hx.xz hx.xl 179 rfl rfl rfl [.ptr 0 0] 0 0 [] rfl [.var 28 [auL nl z l], .var 51 x.cells] (noneB l) rfl (fun a _ => n1 a _ rfl)
  have a2 := fun (h : ∀ a ∈ x.next, noneB l a = false) => ansAnyI x.xn x.xz x.next hx.xz hx.xl 180 rfl rfl rfl [.ptr 0 0, .ptr 1 0] 0 0 [.ptr 1 0] rfl [.var 28 [auL nl z l], .var 51 x.cells] (kindB l x) rfl (fun a ha => n2 a (h a ha) _ rfl rfl)
  have a3 := fun (h : ∀ a ∈ x.next, noneB l a = false) => ansAnyI x.xn x.xz x.next hx.xz hx.xl 181 rfl rfl rfl [.ptr 0 0, .ptr 1 0] 0 0 [.ptr 1 0] rfl [.var 28 [auL nl z l], .var 51 x.cells] (gapB l x) rfl (fun a ha => n3 a (h a ha) _ rfl rfl)
  have hn : x.next.any (noneB l) = false → ∀ a ∈ x.next, noneB l a = false := fun h a ha => by
    have := List.any_eq_false.1 h a ha
    simpa using this
  refine ans_of_wp fn157 low157 ?_
  unfold succE
  subst hz6
  unfold auL Au.cells at *
  cases b1 : x.next.any (noneB l) with
  | true =>
    rw [b1] at a1
    rw [if_pos rfl]
    simp (config := { maxSteps := 1000000 }) (disch := omega) [-List.map_replicate, -List.map_set, -List.getD_eq_getElem?_getD, -getElem?_pos, -getElem?_neg, om, ir157, splice, auA, Au.cells, hg, a1]
  | false =>
    have hn := hn b1
    have a2 := a2 hn
    have a3 := a3 hn
    rw [b1] at a1
    rw [if_neg (by simp)]
    cases b2 : x.next.any (kindB l x) with
    | true =>
      rw [b2] at a2
      rw [if_pos rfl]
      simp (config := { maxSteps := 1000000 }) (disch := omega) [-List.map_replicate, -List.map_set, -List.getD_eq_getElem?_getD, -getElem?_pos, -getElem?_neg, om, ir157, splice, auA, Au.cells, hg, a1, a2]
    | false =>
      rw [b2] at a2
      rw [if_neg (by simp)]
      cases b3 : x.next.any (gapB l x) with
      | true =>
        rw [b3] at a3
        rw [if_pos rfl]
        simp (config := { maxSteps := 1000000 }) (disch := omega) [-List.map_replicate, -List.map_set, -List.getD_eq_getElem?_getD, -getElem?_pos, -getElem?_neg, om, ir157, splice, auA, Au.cells, hg, a1, a2, a3]
      | false =>
        rw [b3] at a3
        rw [if_neg (by simp)]
        simp (config := { maxSteps := 1000000 }) (disch := omega) [-List.map_replicate, -List.map_set, -List.getD_eq_getElem?_getD, -getElem?_pos, -getElem?_neg, om, ir157, splice, auA, Au.cells, hg, a1, a2, a3]
def firstE (E : Nat → Int) (n i : Nat) : Int :=
  if h : i < n then if E i = 0 then firstE E n (i + 1) else E i else 0
termination_by n - i
def firstK (E : Nat → Int) (n i : Nat) : Int :=
  if h : i < n then if E i = 0 then firstK E n (i + 1) else (i : Int) else -1
termination_by n - i
def aloneAt (l : List Au) (i : Nat) : Int := match l[i]? with | some x => auE (prevA l i) x | none => 0
def succAt (l : List Au) (i : Nat) : Int := match l[i]? with | some x => succE l x | none => 0
def checkE (l : List Au) : Int := if 64 < l.length then 8 else if firstE (aloneAt l) l.length 0 ≠ 0 then firstE (aloneAt l) l.length 0 else firstE (succAt l) l.length 0
def checkK (l : List Au) : Int := if 64 < l.length then -1 else if firstE (aloneAt l) l.length 0 ≠ 0 then firstK (aloneAt l) l.length 0 else firstK (succAt l) l.length 0
theorem ansCheck (nl : Option Bool) (z : Nat) (l : List Au) (hz : l ≠ [] → z = 6) (hok : ∀ x ∈ l, x.ok) :
    ansF cfg 120 [auL nl z l] [] = some (.tup [.int .i64 (checkK l), .int .i64 (checkE l)], []) := by
  by_cases h64 : 64 < l.length
  · refine ans_of_wp fn120 low120 ?_
    unfold checkE checkK auL
    simp (config := { maxSteps := 1000000 }) (disch := omega) [-List.map_replicate, -List.map_set, -List.getD_eq_getElem?_getD, -getElem?_pos, -getElem?_neg, om, ir120, h64]
  have A : ∀ i, i < l.length → ansF cfg 156 [auL nl z l, .int .i64 i] [] = some (.int .i64 (aloneAt l i), []) := fun i hi => by
    have := ansAlone nl z l hz hok i hi (by omega)
    unfold aloneAt
    rw [List.getElem?_eq_getElem hi]
    exact this
  have S : ∀ i, i < l.length → ansF cfg 157 [auL nl z l, .int .i64 i] [] = some (.int .i64 (succAt l i), []) := fun i hi => by
    have := ansSucc nl z l hz hok i hi (by omega)
    unfold succAt
    rw [List.getElem?_eq_getElem hi]
    exact this
  have hplain : plainAll (l.map auA) = true := by
    clear A S h64 hz hok
    induction l with
    | nil => rfl
    | cons x r ih => simp [plainAll, auA, Au.cells, AV.plain, ih]
  refine ans_of_wp fn120 low120 ?_
  unfold auL at *
  simp (config := { maxSteps := 1000000 }) (disch := omega) [-List.map_replicate, -List.map_set, -List.getD_eq_getElem?_getD, -getElem?_pos, -getElem?_neg, om, ir120, h64]
  refine Wp.loopM (fun (k : Nat) => 2 - k) (fun k => [some (.lst nl z (l.map auA)), none, none, none, none, none, none, some (.osl 0 2), some (.int .i64 2), some (.int .i64 k), none, none, none, none, none, none])
    (fun _ => [.sl ⟨false, some 86⟩ 1 [.fn 156 [] [], .fn 157 [] []]])
    (fun k => k = 0 ∨ (k = 1 ∧ firstE (aloneAt l) l.length 0 = 0) ∨ (k = 2 ∧ firstE (aloneAt l) l.length 0 = 0 ∧ firstE (succAt l) l.length 0 = 0 ∧ firstK (succAt l) l.length 0 = -1)) ?_ 0 (.inl rfl) (by simp) rfl
  rintro k (rfl | ⟨rfl, k1⟩ | ⟨rfl, k1, k2, k3⟩)
  · simp (config := { maxSteps := 1000000 }) (disch := omega) [-List.map_replicate, -List.map_set, -List.getD_eq_getElem?_getD, -getElem?_pos, -getElem?_neg, om]
    refine Wp.loopM (fun (i : Nat) => l.length - i) (fun i => [some (.lst nl z (l.map auA)), none, none, some (.fn 156 [] []), none, none, none, some (.osl 0 2), some (.int .i64 2), some (.int .i64 0), none, some (.int .i64 l.length), some (.int .i64 i), none, none, none])
      (fun _ => [.sl ⟨false, some 86⟩ 1 [.fn 156 [] [], .fn 157 [] []]])
      (fun i => firstE (aloneAt l) l.length 0 = firstE (aloneAt l) l.length i ∧ firstK (aloneAt l) l.length 0 = firstK (aloneAt l) l.length i) ?_ 0 ⟨rfl, rfl⟩ (by simp) rfl
    rintro i ⟨hi1, hi2⟩
    have b1 := firstE.eq_def (aloneAt l) l.length i
    have b2 := firstK.eq_def (aloneAt l) l.length i
    by_cases h1 : i < l.length
    · have hA := A i h1
      rw [dif_pos h1] at b1 b2
      generalize aloneAt l i = e at *
      by_cases h2 : e = 0
      · subst h2
        rw [if_pos rfl] at b1 b2
        simp (config := { maxSteps := 1000000 }) (disch := omega) [-List.map_replicate, -List.map_set, -List.getD_eq_getElem?_getD, -getElem?_pos, -getElem?_neg, om, h1, hA, hplain]
        exact ⟨i + 1, ⟨by rw [hi1, b1], by rw [hi2, b2]⟩, by omega, by simp⟩
      · rw [if_neg h2] at b1 b2
        have h3 : (e != 0) = true := by simpa using h2
        have h4 : firstE (aloneAt l) l.length 0 = e := by rw [hi1, b1]
        have h5 : firstK (aloneAt l) l.length 0 = i := by rw [hi2, b2]
        have c1 : checkE l = e := by unfold checkE; rw [if_neg h64, if_pos (by rw [h4]; exact h2), h4]
        have c2 : checkK l = i := by unfold checkK; rw [if_neg h64, if_pos (by rw [h4]; exact h2), h5]
        rw [c1, c2]
        simp (config := { maxSteps := 1000000 }) (disch := omega) [-List.map_replicate, -List.map_set, -List.getD_eq_getElem?_getD, -getElem?_pos, -getElem?_neg, om, h1, hA, hplain, h3]
    · rw [dif_neg h1] at b1 b2
      have h4 : firstE (aloneAt l) l.length 0 = 0 := by rw [hi1, b1]
      have h5 : firstK (aloneAt l) l.length 0 = -1 := by rw [hi2, b2]
      simp (config := { maxSteps := 1000000 }) (disch := omega) [-List.map_replicate, -List.map_set, -List.getD_eq_getElem?_getD, -getElem?_pos, -getElem?_neg, om, h1]
  · simp (config := { maxSteps := 1000000 }) (disch := omega) [-List.map_replicate, -List.map_set, -List.getD_eq_getElem?_getD, -getElem?_pos, -getElem?_neg, om]
    refine Wp.loopM (fun (i : Nat) => l.length - i) (fun i => [some (.lst nl z (l.map auA)), none, none, some (.fn 157 [] []), none, none, none, some (.osl 0 2), some (.int .i64 2), some (.int .i64 1), none, some (.int .i64 l.length), some (.int .i64 i), none, none, none])
      (fun _ => [.sl ⟨false, some 86⟩ 1 [.fn 156 [] [], .fn 157 [] []]])
      (fun i => firstE (succAt l) l.length 0 = firstE (succAt l) l.length i ∧ firstK (succAt l) l.length 0 = firstK (succAt l) l.length i) ?_ 0 ⟨rfl, rfl⟩ (by simp) rfl
    rintro i ⟨hi1, hi2⟩
    have b1 := firstE.eq_def (succAt l) l.length i
    have b2 := firstK.eq_def (succAt l) l.length i
    by_cases h1 : i < l.length
    · have hA := S i h1
      rw [dif_pos h1] at b1 b2
      generalize succAt l i = e at *
      by_cases h2 : e = 0
      · subst h2
        rw [if_pos rfl] at b1 b2
        simp (config := { maxSteps := 1000000 }) (disch := omega) [-List.map_replicate, -List.map_set, -List.getD_eq_getElem?_getD, -getElem?_pos, -getElem?_neg, om, h1, hA, hplain]
        exact ⟨i + 1, ⟨by rw [hi1, b1], by rw [hi2, b2]⟩, by omega, by simp⟩
      · rw [if_neg h2] at b1 b2
        have h3 : (e != 0) = true := by simpa using h2
        have h4 : firstE (succAt l) l.length 0 = e := by rw [hi1, b1]
        have h5 : firstK (succAt l) l.length 0 = i := by rw [hi2, b2]
        have c1 : checkE l = e := by unfold checkE; rw [if_neg h64, if_neg (by rw [k1]; simp), h4]
        have c2 : checkK l = i := by unfold checkK; rw [if_neg h64, if_neg (by rw [k1]; simp), h5]
        rw [c1, c2]
        simp (config := { maxSteps := 1000000 }) (disch := omega) [-List.map_replicate, -List.map_set, -List.getD_eq_getElem?_getD, -getElem?_pos, -getElem?_neg, om, h1, hA, hplain, h3]
    · rw [dif_neg h1] at b1 b2
      have h4 : firstE (succAt l) l.length 0 = 0 := by rw [hi1, b1]
      have h5 : firstK (succAt l) l.length 0 = -1 := by rw [hi2, b2]
      simp (config := { maxSteps := 1000000 }) (disch := omega) [-List.map_replicate, -List.map_set, -List.getD_eq_getElem?_getD, -getElem?_pos, -getElem?_neg, om, h1]
  · have c1 : checkE l = 0 := by unfold checkE; rw [if_neg h64, if_neg (by rw [k1]; simp), k2]
    have c2 : checkK l = -1 := by unfold checkK; rw [if_neg h64, if_neg (by rw [k1]; simp), k3]
    rw [c1, c2]
    simp (config := { maxSteps := 1000000 }) (disch := omega) [-List.map_replicate, -List.map_set, -List.getD_eq_getElem?_getD, -getElem?_pos, -getElem?_neg, om]
end Go.Proofs.YtlolhkjjbgpfbaaGreatDoor
namespace Go.Proofs.YtlolhkjjbgpfbaaGreatDoor
open Go.Am
set_option maxRecDepth 10000
set_option maxHeartbeats 4000000
def asksE (l : List Au) (day : Int) : Int := if checkE l ≠ 0 then 1 else if 0 ≤ day ∧ day ≤ 1048575 then 0 else 2
theorem ansAsks (nl : Option Bool) (z : Nat) (l : List Au) (hz : l ≠ [] → z = 6) (hok : ∀ x ∈ l, x.ok) (day : Int) :
    ansF cfg 77 [auL nl z l, .int .i64 day] [] = some (.int .i64 (asksE l day), []) := by
  have h := ansCheck nl z l hz hok
  have hw := ansWithin day 0 1048575
  refine ans_of_wp fn77 low77 ?_
  unfold asksE
  have hplain : plainAll (l.map auA) = true := by
    clear h hz hok
    induction l with
    | nil => rfl
    | cons x r ih => simp [plainAll, auA, Au.cells, AV.plain, ih]
  unfold auL at *
  generalize checkE l = e at *
  by_cases h1 : e = 0
  · subst h1
    by_cases h2 : 0 ≤ day ∧ day ≤ 1048575
    · rw [decide_eq_true h2] at hw
      simp (config := { maxSteps := 1000000 }) (disch := omega) [-List.map_replicate, -List.map_set, -List.getD_eq_getElem?_getD, -getElem?_pos, -getElem?_neg, om, ir77, h, hw, h2, hplain]
    · rw [decide_eq_false h2] at hw
      simp (config := { maxSteps := 1000000 }) (disch := omega) [-List.map_replicate, -List.map_set, -List.getD_eq_getElem?_getD, -getElem?_pos, -getElem?_neg, om, ir77, h, hw, h2, hplain]
  · have h3 : (e != 0) = true := by simpa using h1
    simp (config := { maxSteps := 1000000 }) (disch := omega) [-List.map_replicate, -List.map_set, -List.getD_eq_getElem?_getD, -getElem?_pos, -getElem?_neg, om, ir77, h, h3, h1, hplain]
def dayC (n : Nm) (day : Int) : Int := if inB n.a n.b day = true then 0 else if n.a < day then -1 else if n.a = day then 0 else 1
theorem ansCmpI (a b : Int) : ansF cfg 72 [.int .i64 a, .int .i64 b] [] = some (.int .i64 (if a < b then -1 else if a = b then 0 else 1), []) := by
  have hn : ∀ a : Int, ansF cfg 117 [.int .i64 a] [] = some (.bool false, []) := fun a => by
    refine ans_of_wp fn117 low117 ?_
    simp (config := { maxSteps := 1000000 }) (disch := omega) [-List.map_replicate, -List.map_set, -List.getD_eq_getElem?_getD, -getElem?_pos, -getElem?_neg, om, ir117]
  refine ans_of_wp fn72 low72 ?_
  by_cases h1 : a < b
  · simp (config := { maxSteps := 1000000 }) (disch := omega) [-List.map_replicate, -List.map_set, -List.getD_eq_getElem?_getD, -getElem?_pos, -getElem?_neg, om, ir72, hn, h1]
  · by_cases h2 : a = b
    · subst h2
      simp (config := { maxSteps := 1000000 }) (disch := omega) [-List.map_replicate, -List.map_set, -List.getD_eq_getElem?_getD, -getElem?_pos, -getElem?_neg, om, ir72, hn]
    · have h3 : b < a := by omega
      simp (config := { maxSteps := 1000000 }) (disch := omega) [-List.map_replicate, -List.map_set, -List.getD_eq_getElem?_getD, -getElem?_pos, -getElem?_neg, om, ir72, hn, h1, h2, h3]
theorem ansDay (n : Nm) (day : Int) : ansF cfg 125 [nmA n, .int .i64 day] [] = some (.int .i64 (dayC n day), []) := by
  have h := ansIn n.a n.b day
  have hc := ansCmpI n.a day
  refine ans_of_wp fn125 low125 ?_
  unfold dayC nmA
  cases h1 : inB n.a n.b day with
  | true =>
    rw [h1] at h
    simp (config := { maxSteps := 1000000 }) (disch := omega) [-List.map_replicate, -List.map_set, -List.getD_eq_getElem?_getD, -getElem?_pos, -getElem?_neg, om, ir125, h]
  | false =>
    rw [h1] at h
    rw [if_neg (by simp)]
    generalize (if n.a < day then -1 else if n.a = day then 0 else 1 : Int) = c at *
    simp (config := { maxSteps := 1000000 }) (disch := omega) [-List.map_replicate, -List.map_set, -List.getD_eq_getElem?_getD, -getElem?_pos, -getElem?_neg, om, ir125, h, hc]
instance : Inhabited Nm := ⟨⟨[], 0, 0⟩⟩
def bsGo (L : List Nm) (day : Int) (i j : Nat) : Nat :=
  if h : i < j then if dayC (L.getD ((i + j) / 2) default) day < 0 then bsGo L day ((i + j) / 2 + 1) j else bsGo L day i ((i + j) / 2) else i
termination_by j - i
theorem half_i64 (a : Nat) : (a : Int).fdiv (2 ^ min 1 IntKind.u64.bits) = ((a / 2 : Nat) : Int) := by
  have h : (2 : Int) ^ min 1 IntKind.u64.bits = 2 := by decide
  rw [h, Int.fdiv_eq_ediv_of_nonneg _ (by omega)]
  rfl
def foundN (L : List Nm) (day : Int) : Bool := match L[bsGo L day 0 L.length]? with | some n => dayC n day == 0 | none => false
theorem ansSearch (nl : Option Bool) (z : Nat) (L : List Nm) (hz : L ≠ [] → z = 3) (hl : L.length < 1000000) (day : Int) :
    ansF cfg 124 [.lst nl z (L.map nmA), .int .i64 day, .fn 125 [] []] [] = some (.tup [.int .i64 (bsGo L day 0 L.length), .bool (foundN L day)], []) := by
  refine ans_of_wp fn124 low124 ?_
  simp (config := { maxSteps := 1000000 }) (disch := omega) [-List.map_replicate, -List.map_set, -List.getD_eq_getElem?_getD, -getElem?_pos, -getElem?_neg, om, ir124]
  refine Wp.loopM (fun (a : Nat × Nat) => a.2 - a.1) (fun a => [some (.lst nl z (L.map nmA)), some (.int .i64 day), some (.fn 125 [] []), none, none, some (.int .i64 L.length), some (.int .i64 a.1), some (.int .i64 a.2), none, none, none, none, none]) (fun _ => [])
    (fun a => a.1 ≤ a.2 ∧ a.2 ≤ L.length ∧ bsGo L day 0 L.length = bsGo L day a.1 a.2) ?_ (0, L.length) ⟨Nat.zero_le _, Nat.le_refl _, rfl⟩ (by simp) rfl
  rintro ⟨i, j⟩ ⟨h1, h2, hr⟩
  simp only at h1 h2 hr ⊢
  have hb := bsGo.eq_def L day i j
  by_cases h3 : i < j
  · rw [dif_pos h3] at hb
    have hh : (i + j) / 2 < L.length := by omega
    have hh1 : (i + j) / 2 < j := by omega
    have hh2 : i ≤ (i + j) / 2 := by omega
    have hg : L[(i + j) / 2]? = some L[(i + j) / 2] := List.getElem?_eq_getElem hh
    have hz : z = 3 := hz (by intro h; rw [h] at hh; simp at hh)
    subst hz
    have hD := ansDay L[(i + j) / 2] day
    have hgd : L.getD ((i + j) / 2) default = L[(i + j) / 2] := by simp [List.getD_eq_getElem?_getD, hh]
    rw [hgd] at hb
    have hs := half_i64 (i + j)
    rw [Int.natCast_add] at hs
    have hw : IntKind.u64.wrap ((i : Int) + (j : Int)) = ((i + j : Nat) : Int) := by rw [← Int.natCast_add]; exact wrap_u64 (by omega) (by omega)
    have hw2 : IntKind.i64.wrap (((i + j) / 2 : Nat) : Int) = (((i + j) / 2 : Nat) : Int) := wrap_i64 (by omega) (by omega)
    generalize L[(i + j) / 2] = n at *
    generalize (i + j) / 2 = m at *
    obtain ⟨t, a, b⟩ := n
    unfold nmA at hD
    simp only at hD
    by_cases h4 : dayC ⟨t, a, b⟩ day < 0
    · rw [if_pos h4] at hb
      generalize dayC ⟨t, a, b⟩ day = c at *
      simp (config := { maxSteps := 1000000 }) (disch := omega) [-List.map_replicate, -List.map_set, -List.getD_eq_getElem?_getD, -getElem?_pos, -getElem?_neg, om, h3, hg, hD, hs, h4, wrap_u64, nmA]
      exact ⟨m + 1, j, ⟨by omega, by omega, by rw [hr, hb]⟩, by omega, by simp⟩
    · rw [if_neg h4] at hb
      generalize dayC ⟨t, a, b⟩ day = c at *
      simp (config := { maxSteps := 1000000 }) (disch := omega) [-List.map_replicate, -List.map_set, -List.getD_eq_getElem?_getD, -getElem?_pos, -getElem?_neg, om, h3, hg, hD, hs, h4, wrap_u64, nmA]
      exact ⟨i, m, ⟨by omega, by omega, by rw [hr, hb]⟩, by omega, by simp⟩
  · rw [dif_neg h3] at hb
    rw [hb] at hr
    rw [hr]
    unfold foundN
    rw [hr]
    by_cases h5 : i < L.length
    · have hg : L[i]? = some L[i] := List.getElem?_eq_getElem h5
      have hD := ansDay L[i] day
      have hz : z = 3 := hz (by intro h; rw [h] at h5; simp at h5)
      subst hz
      generalize L[i] = n at *
      obtain ⟨t, a, b⟩ := n
      rw [hg]
      unfold nmA at hD
      simp only at hD ⊢
      generalize dayC ⟨t, a, b⟩ day = c at *
      simp (config := { maxSteps := 1000000 }) (disch := omega) [-List.map_replicate, -List.map_set, -List.getD_eq_getElem?_getD, -getElem?_pos, -getElem?_neg, om, h3, h5, hg, hD, nmA]
    · rw [List.getElem?_eq_none (by omega)]
      simp (config := { maxSteps := 1000000 }) (disch := omega) [-List.map_replicate, -List.map_set, -List.getD_eq_getElem?_getD, -getElem?_pos, -getElem?_neg, om, h3, h5]
def onS (x : Au) (day : Int) : Option Str := match x.names[bsGo x.names day 0 x.names.length]? with | some n => if dayC n day = 0 then some n.t else none | none => none
def onA (o : Option Str) : AV := match o with | some s => .tup [.str s, .bool true] | none => .tup [.str [], .bool false]
theorem ansOn (x : Au) (hx : x.ok) (day : Int) : ansF cfg 80 [auA x, .int .i64 day] [] = some (onA (onS x day), []) := by
  have h := ansSearch x.nn x.nz x.names hx.nz hx.nl day
  refine ans_of_wp fn80 low80 ?_
  unfold onS foundN at *
  generalize hk : bsGo x.names day 0 x.names.length = k at *
  have hgo : ∀ n, x.names[k]? = some n → x.nz = 3 := fun n hn => hx.nz (by intro h; rw [h] at hn; simp at hn)
  unfold auA Au.cells
  cases hg : x.names[k]? with
  | none =>
    rw [hg] at h
    simp (config := { maxSteps := 1000000 }) (disch := omega) [-List.map_replicate, -List.map_set, -List.getD_eq_getElem?_getD, -getElem?_pos, -getElem?_neg, om, ir80, h, onA, plain_nmA]
  | some n =>
    have hz := hgo n hg
    rw [hg] at h
    obtain ⟨t, a, b⟩ := n
    simp only at h ⊢
    generalize dayC ⟨t, a, b⟩ day = c at *
    by_cases h0 : c = 0
    · subst h0
      rw [hz] at h ⊢
      simp (config := { maxSteps := 1000000 }) (disch := omega) [-List.map_replicate, -List.map_set, -List.getD_eq_getElem?_getD, -getElem?_pos, -getElem?_neg, om, ir80, h, onA, plain_nmA, hg, nmA]
    · have h1 : (c == 0) = false := by simpa using h0
      rw [h1] at h
      simp (config := { maxSteps := 1000000 }) (disch := omega) [-List.map_replicate, -List.map_set, -List.getD_eq_getElem?_getD, -getElem?_pos, -getElem?_neg, om, ir80, h, onA, plain_nmA, h0]
end Go.Proofs.YtlolhkjjbgpfbaaGreatDoor
