/-
  The reference's names, spans, finding of authorities. The reference's faults of an authority: its names, by itself, its successors. The reference's successors and Check. The reference's Name. The reference's plain headings, numbers in decimal, Heading.
-/
import Derived.Test.YtlolhkjjbgpfbaaGreatDoorHdM
import Derived.Test.YtlolhkjjbgpfbaaGreatDoorRefM
import Derived.Test.YtlolhkjjbgpfbaaGreatDoorPlM
set_option linter.all false
namespace Go.Proofs.YtlolhkjjbgpfbaaGreatDoor
open Go.Am
set_option maxRecDepth 10000
set_option maxHeartbeats 4000000
theorem ansIsSpan (a b : Int) : ansF cfg 187 [.agg [.int .i64 a, .int .i64 b]] [] = some (.bool (spanB a b), []) := by
  refine ans_of_wp fn187 low187 ?_
  unfold spanB
  by_cases h1 : 0 ≤ a
  · by_cases h2 : a < b
    · by_cases h3 : b ≤ 1048576
      · simp (config := { maxSteps := 1000000 }) (disch := omega) [-List.map_replicate, -List.map_set, -List.getD_eq_getElem?_getD, -getElem?_pos, -getElem?_neg, om, ir187, splice, h1, h2, h3]
      · simp (config := { maxSteps := 1000000 }) (disch := omega) [-List.map_replicate, -List.map_set, -List.getD_eq_getElem?_getD, -getElem?_pos, -getElem?_neg, om, ir187, splice, h1, h2, h3]
    · simp (config := { maxSteps := 1000000 }) (disch := omega) [-List.map_replicate, -List.map_set, -List.getD_eq_getElem?_getD, -getElem?_pos, -getElem?_neg, om, ir187, splice, h1, h2]
  · simp (config := { maxSteps := 1000000 }) (disch := omega) [-List.map_replicate, -List.map_set, -List.getD_eq_getElem?_getD, -getElem?_pos, -getElem?_neg, om, ir187, splice, h1]
theorem ansOnR (a b day : Int) : ansF cfg 112 [.agg [.int .i64 a, .int .i64 b], .int .i64 day] [] = some (.bool (inB a b day), []) := by
  refine ans_of_wp fn112 low112 ?_
  unfold inB
  by_cases h1 : a ≤ day <;> by_cases h2 : day < b <;> simp (config := { maxSteps := 1000000 }) (disch := omega) [-List.map_replicate, -List.map_set, -List.getD_eq_getElem?_getD, -getElem?_pos, -getElem?_neg, om, ir112, splice, h1, h2]
def nmGo : Option UInt8 → Str → Bool
  | _, [] => true
  | p, c :: r => !badB c && !(p == some 32 && c == 32) && nmGo (some c) r
theorem contains_two (c : UInt8) (r : Str) : Lib.contains (c :: r) [32, 32] = ((c == 32 && r.head? == some 32) || Lib.contains r [32, 32]) := by
  unfold Lib.contains
  rw [Lib.index]
  have hg := Lib.index_ge r [32, 32]
  have hp : List.isPrefixOf [32, 32] (c :: r) = (c == 32 && r.head? == some 32) := by
    cases r with
    | nil => simp [List.isPrefixOf]
    | cons d r => simp [List.isPrefixOf, Bool.beq_comm]
  rw [hp]
  cases (c == 32 && r.head? == some 32) with
  | true => simp
  | false =>
    simp only [Bool.false_eq_true, if_false, Bool.false_or]
    by_cases h : Lib.index r [32, 32] = -1
    · rw [h]; rfl
    · have h' : (Lib.index r [32, 32] == -1) = false := by simpa using h
      rw [h']
      simp only [Bool.false_eq_true, if_false]
      congr 1
      apply propext
      omega
theorem nmGo_some : ∀ (s : Str) (p : UInt8), nmGo (some p) s = (!s.any badB && !Lib.contains (p :: s) [32, 32])
  | [], p => by
    rw [contains_two]
    have : Lib.contains [] [32, 32] = false := by decide
    simp [nmGo, this]
  | c :: r, p => by
    have ih := nmGo_some r c
    rw [contains_two, nmGo, ih]
    simp only [List.any_cons, List.head?_cons]
    have e : (some p == some (32 : UInt8)) = (p == 32) := rfl
    have e2 : (some c == some (32 : UInt8)) = (c == 32) := rfl
    rw [e, e2]
    cases badB c <;> cases (p == 32 && c == 32) <;> cases r.any badB <;> simp
theorem nmGo_none (s : Str) : nmGo none s = (!s.any badB && !Lib.contains s [32, 32]) := by
  cases s with
  | nil => decide
  | cons c r =>
    rw [nmGo, nmGo_some]
    simp only [List.any_cons]
    cases badB c <;> simp
theorem ansIsNameR (s : Str) : ansF cfg 195 [.str s] [] = some (.bool (nameB s), []) := by
  have hb : nameB s = (!(decide (s.length < 1 ∨ 64 < s.length) || s.getD 0 0 == 32 || s.getD (s.length - 1) 0 == 32) && nmGo none s) := by
    rw [nmGo_none]
    unfold nameB
    cases decide (s.length < 1 ∨ 64 < s.length) <;> cases (s.getD 0 0 == 32) <;> cases (s.getD (s.length - 1) 0 == 32) <;> cases Lib.contains s [32, 32] <;> simp
  rw [hb]
  refine ans_of_wp fn195 low195 ?_
  by_cases h1 : s.length < 1
  · simp (config := { maxSteps := 1000000 }) (disch := omega) [-List.map_replicate, -List.map_set, -List.getD_eq_getElem?_getD, -getElem?_pos, -getElem?_neg, om, ir195, h1]
  by_cases h2 : 64 < s.length
  · simp (config := { maxSteps := 1000000 }) (disch := omega) [-List.map_replicate, -List.map_set, -List.getD_eq_getElem?_getD, -getElem?_pos, -getElem?_neg, om, ir195, h1, h2]
  have g0 := get_str s (i := 0) (by omega)
  have g1 := get_str s (i := s.length - 1) (by omega)
  have e0 : (((s.getD 0 0).toNat : Int) == 32) = (s.getD 0 0 == 32) := byte_eq (s.getD 0 0) 32 (by omega)
  have e1 : (((s.getD (s.length - 1) 0).toNat : Int) == 32) = (s.getD (s.length - 1) 0 == 32) := byte_eq (s.getD (s.length - 1) 0) 32 (by omega)
  have hl : ((s.length : Int) - 1).toNat = s.length - 1 := by omega
  generalize s.getD 0 0 = c0 at *
  generalize s.getD (s.length - 1) 0 = c1 at *
  cases b0 : (c0 == 32) with
  | true =>
    rw [b0] at e0
    simp (config := { maxSteps := 1000000 }) (disch := omega) [-List.map_replicate, -List.map_set, -List.getD_eq_getElem?_getD, -getElem?_pos, -getElem?_neg, om, ir195, h1, h2, g0, e0]
  | false =>
    rw [b0] at e0
    cases b1 : (c1 == 32) with
    | true =>
      rw [b1] at e1
      simp (config := { maxSteps := 1000000 }) (disch := omega) [-List.map_replicate, -List.map_set, -List.getD_eq_getElem?_getD, -getElem?_pos, -getElem?_neg, om, ir195, h1, h2, g0, e0, g1, e1, hl]
    | false =>
      rw [b1] at e1
      simp (config := { maxSteps := 1000000 }) (disch := omega) [-List.map_replicate, -List.map_set, -List.getD_eq_getElem?_getD, -getElem?_pos, -getElem?_neg, om, ir195, h1, h2, g0, e0, g1, e1, hl]
      clear hb g0 g1 e0 e1 b0 b1
      refine Wp.loopM (fun (i : Nat) => s.length - i) (fun i => [some (.str s), none, some (.int .i64 i), none, none, none]) (fun _ => [])
        (fun i => nmGo none s = nmGo (if i = 0 then none else s[i - 1]?) (s.drop i)) ?_ 0 rfl (by simp) rfl
      intro i hr
      rw [hr]
      by_cases h3 : i < s.length
      · have hg := get_str s h3
        rw [drop_get s h3] at hr ⊢
        have hn : (if i + 1 = 0 then none else s[i + 1 - 1]?) = some (s.getD i 0) := by rw [if_neg (by omega)]; exact hg
        have hgp : 0 < i → s[i - 1]? = some (s.getD (i - 1) 0) := fun h => get_str s (by omega)
        simp only [nmGo] at hr ⊢
        generalize s.getD i 0 = c at *
        have ec : ((c.toNat : Int) == 32) = (c == 32) := byte_eq c 32 (by omega)
        unfold badB at hr ⊢
        by_cases k1 : c.toNat < 32
        · simp (config := { maxSteps := 1000000 }) (disch := omega) [-List.map_replicate, -List.map_set, -List.getD_eq_getElem?_getD, -getElem?_pos, -getElem?_neg, om, h3, hg, k1]
        by_cases k2 : 126 < c.toNat
        · simp (config := { maxSteps := 1000000 }) (disch := omega) [-List.map_replicate, -List.map_set, -List.getD_eq_getElem?_getD, -getElem?_pos, -getElem?_neg, om, h3, hg, k1, k2]
        have k3 : decide (c.toNat < 32 ∨ 126 < c.toNat) = false := by simp; omega
        rw [k3] at hr ⊢
        by_cases hi0 : i = 0
        · subst hi0
          simp (config := { maxSteps := 1000000 }) (disch := omega) [-List.map_replicate, -List.map_set, -List.getD_eq_getElem?_getD, -getElem?_pos, -getElem?_neg, om, h3, hg, k1, k2]
          refine ⟨1, ?_, by omega, rfl⟩
          rw [hn]
          simp
        · have hgp := hgp (by omega)
          rw [if_neg hi0, hgp] at hr ⊢
          have ei : ((i : Int) - 1).toNat = i - 1 := by omega
          generalize s.getD (i - 1) 0 = d at *
          have ed : ((d.toNat : Int) == 32) = (d == 32) := byte_eq d 32 (by omega)
          have eo : (some d == some (32 : UInt8)) = (d == 32) := rfl
          rw [eo] at hr ⊢
          cases k4 : c == 32 with
          | false =>
            rw [k4] at ec hr
            simp (config := { maxSteps := 1000000 }) (disch := omega) [-List.map_replicate, -List.map_set, -List.getD_eq_getElem?_getD, -getElem?_pos, -getElem?_neg, om, h3, hg, k1, k2, ec]
            exact ⟨i + 1, by rw [hn], by omega, by simp⟩
          | true =>
            rw [k4] at ec hr
            cases k5 : d == 32 with
            | false =>
              rw [k5] at ed hr
              simp (config := { maxSteps := 1000000 }) (disch := omega) [-List.map_replicate, -List.map_set, -List.getD_eq_getElem?_getD, -getElem?_pos, -getElem?_neg, om, h3, hg, k1, k2, ec, ei, hgp, ed, hi0]
              exact ⟨i + 1, by rw [hn], by omega, by simp⟩
            | true =>
              rw [k5] at ed
              simp (config := { maxSteps := 1000000 }) (disch := omega) [-List.map_replicate, -List.map_set, -List.getD_eq_getElem?_getD, -getElem?_pos, -getElem?_neg, om, h3, hg, k1, k2, ec, ei, hgp, ed, hi0]
      · rw [List.drop_eq_nil_of_le (by omega)]
        simp (config := { maxSteps := 1000000 }) (disch := omega) [-List.map_replicate, -List.map_set, -List.getD_eq_getElem?_getD, -getElem?_pos, -getElem?_neg, om, h3, nmGo]
def au0 : AV := .agg [.int .i64 0, .int .i64 0, .int .i64 0, .int .i64 0, .lst (some true) 0 [], .lst (some true) 0 []]
def optA : Option Au → AV
  | some x => auA x
  | none => au0
theorem ansFindR (nl : Option Bool) (z : Nat) (l : List Au) (hz : l ≠ [] → z = 6) (hl : l.length < 1000000) (id : Int) :
    ansF cfg 66 [auL nl z l, .int .i64 id] [] = some (.tup [optA (getA l id), .bool (getA l id).isSome], []) := by
  refine ans_of_wp fn66 low66 ?_
  unfold auL getA
  simp (config := { maxSteps := 1000000 }) (disch := omega) [-List.map_replicate, -List.map_set, -List.getD_eq_getElem?_getD, -getElem?_pos, -getElem?_neg, om, ir66]
  refine Wp.loopM (fun (i : Nat) => l.length - i) (fun i => [some (.lst nl z (l.map auA)), some (.int .i64 id), some (.ptr 0 0), none, some (.int .i64 i), none, none, none])
    (fun _ => [.var 51 [.int .i64 0, .int .i64 0, .int .i64 0, .int .i64 0, .osl 1 0, .osl 2 0], .sl ⟨false, some 70⟩ 3 [], .sl ⟨false, some 3⟩ 1 []])
    (fun i => loc l id 0 = loc l id i) ?_ 0 rfl (by simp) rfl
  intro i hr
  rw [hr]
  have hb := loc.eq_def l id i
  by_cases h1 : i < l.length
  · have hz : z = 6 := hz (by intro h; rw [h] at h1; simp at h1)
    subst hz
    have hg := get_aus l h1
    have hg2 : l[i]? = some l[i] := List.getElem?_eq_getElem h1
    rw [dif_pos h1] at hb
    by_cases h2 : l[i].id = id
    · rw [if_pos h2] at hb
      rw [hb]
      simp only [Option.bind_some, hg2, optA, Option.isSome_some]
      generalize l[i] = x at *
      have h3 : (x.id == id) = true := by simpa using h2
      simp (config := { maxSteps := 1000000 }) (disch := omega) [-List.map_replicate, -List.map_set, -List.getD_eq_getElem?_getD, -getElem?_pos, -getElem?_neg, om, h1, hg, auA, Au.cells, h3, splice]
    · rw [if_neg h2] at hb
      rw [hb]
      generalize l[i] = x at *
      have h3 : (x.id == id) = false := by simpa using h2
      simp (config := { maxSteps := 1000000 }) (disch := omega) [-List.map_replicate, -List.map_set, -List.getD_eq_getElem?_getD, -getElem?_pos, -getElem?_neg, om, h1, hg, auA, Au.cells, h3, splice]
      exact ⟨i + 1, rfl, by omega, by simp⟩
  · rw [dif_neg h1] at hb
    rw [hb]
    simp (config := { maxSteps := 1000000 }) (disch := omega) [-List.map_replicate, -List.map_set, -List.getD_eq_getElem?_getD, -getElem?_pos, -getElem?_neg, om, h1, optA, au0, splice]
end Go.Proofs.YtlolhkjjbgpfbaaGreatDoor
namespace Go.Proofs.YtlolhkjjbgpfbaaGreatDoor
open Go.Am
set_option maxRecDepth 10000
set_option maxHeartbeats 4000000
theorem ansNamesR (x : Au) (hx : x.ok) : ansF cfg 188 [auA x] [] = some (.int .i64 (namesE x), []) := by
  refine ans_of_wp fn188 low188 ?_
  unfold namesE
  by_cases h0 : x.names.length = 0
  · simp (config := { maxSteps := 1000000 }) (disch := omega) [-List.map_replicate, -List.map_set, -List.getD_eq_getElem?_getD, -getElem?_pos, -getElem?_neg, om, ir188, auA, Au.cells, h0]
  by_cases h16 : 16 < x.names.length
  · simp (config := { maxSteps := 1000000 }) (disch := omega) [-List.map_replicate, -List.map_set, -List.getD_eq_getElem?_getD, -getElem?_pos, -getElem?_neg, om, ir188, auA, Au.cells, h0, h16]
  have hz : x.nz = 3 := hx.nz (by intro h; rw [h] at h0; simp at h0)
  simp (config := { maxSteps := 1000000 }) (disch := omega) [-List.map_replicate, -List.map_set, -List.getD_eq_getElem?_getD, -getElem?_pos, -getElem?_neg, om, ir188, auA, Au.cells, h0, h16]
  refine Wp.loopM (fun (i : Nat) => x.names.length - i) (fun i => [none, some (.ptr 0 0), none, some (.int .i64 i), none, none, none, none, none, none, none, none, none, none, none]) (fun _ => [.var 51 x.cells])
    (fun i => i ≤ x.names.length ∧ nmsGo x none x.names = nmsGo x (prevOf x.names i) (x.names.drop i)) ?_ 0 ⟨Nat.zero_le _, rfl⟩ (by simp) rfl
  rintro i ⟨hi, hr⟩
  rw [hr]
  unfold Au.cells
  by_cases h1 : i < x.names.length
  · have hg := get_nms x.names h1
    rw [List.drop_eq_getElem_cons h1] at hr ⊢
    simp only [nmsGo] at hr ⊢
    have hN := ansIsNameR (x.names[i]).t
    have hS := ansIsSpan (x.names[i]).a (x.names[i]).b
    have hnx : prevOf x.names (i + 1) = some x.names[i] := by simp [prevOf, h1]
    have hgp : 0 < i → (x.names.map nmA)[i - 1]? = some (nmA (x.names[i - 1]'(by omega))) := fun h => get_nms x.names (by omega)
    have hpv : 0 < i → prevOf x.names i = some (x.names[i - 1]'(by omega)) := fun h => by unfold prevOf; rw [if_neg (by omega)]; exact List.getElem?_eq_getElem (by omega)
    have hp0 : i = 0 → prevOf x.names i = none := fun h => by simp [prevOf, h]
    generalize prevOf x.names i = p at *
    generalize x.names[i] = n at *
    obtain ⟨t, a, b⟩ := n
    unfold nmE at hr ⊢
    simp only [nmA] at hN hS hr hg hnx ⊢
    cases k1 : nameB t with
    | false =>
      rw [k1] at hN
      simp (config := { maxSteps := 1000000 }) (disch := omega) [-List.map_replicate, -List.map_set, -List.getD_eq_getElem?_getD, -getElem?_pos, -getElem?_neg, om, h1, hg, hN, splice, nmA]
    | true =>
      rw [k1] at hN
      simp only [k1, Bool.true_eq_false, if_false] at hr ⊢
      cases k2 : spanB a b with
      | false =>
        rw [k2] at hS
        simp (config := { maxSteps := 1000000 }) (disch := omega) [-List.map_replicate, -List.map_set, -List.getD_eq_getElem?_getD, -getElem?_pos, -getElem?_neg, om, h1, hg, hN, hS, splice, nmA]
      | true =>
        rw [k2] at hS
        simp only [k2, Bool.true_eq_false, if_false] at hr ⊢
        by_cases k3 : a < x.a
        · simp (config := { maxSteps := 1000000 }) (disch := omega) [-List.map_replicate, -List.map_set, -List.getD_eq_getElem?_getD, -getElem?_pos, -getElem?_neg, om, h1, hg, hN, hS, splice, nmA, k3]
        by_cases k4 : x.b < b
        · simp (config := { maxSteps := 1000000 }) (disch := omega) [-List.map_replicate, -List.map_set, -List.getD_eq_getElem?_getD, -getElem?_pos, -getElem?_neg, om, h1, hg, hN, hS, splice, nmA, k3, k4]
        have k5 : ¬ (a < x.a ∨ x.b < b) := by omega
        simp only [k5, if_false] at hr ⊢
        by_cases hi0 : i = 0
        · subst hi0
          rw [hp0 rfl] at hr ⊢
          simp only [if_true] at hr ⊢
          simp (config := { maxSteps := 1000000 }) (disch := omega) [-List.map_replicate, -List.map_set, -List.getD_eq_getElem?_getD, -getElem?_pos, -getElem?_neg, om, h1, hg, hN, hS, splice, nmA, k3, k4]
          exact ⟨1, ⟨by omega, by rw [show prevOf x.names 1 = _ from hnx, List.drop_one]⟩, by omega, rfl⟩
        · have hgp := hgp (by omega)
          rw [hpv (by omega)] at hr ⊢
          simp only at hr ⊢
          have ei : ((i : Int) - 1).toNat = i - 1 := by omega
          generalize x.names[i - 1] = q at *
          obtain ⟨t', a', b'⟩ := q
          simp only [nmA] at hgp hr ⊢
          by_cases k6 : a < b'
          · simp (config := { maxSteps := 1000000 }) (disch := omega) [-List.map_replicate, -List.map_set, -List.getD_eq_getElem?_getD, -getElem?_pos, -getElem?_neg, om, h1, hg, hN, hS, splice, nmA, k3, k4, ei, hgp, k6]
          · simp only [k6, if_false, if_true] at hr ⊢
            simp (config := { maxSteps := 1000000 }) (disch := omega) [-List.map_replicate, -List.map_set, -List.getD_eq_getElem?_getD, -getElem?_pos, -getElem?_neg, om, h1, hg, hN, hS, splice, nmA, k3, k4, ei, hgp, k6]
            exact ⟨i + 1, ⟨by omega, by rw [hnx]⟩, by omega, by simp⟩
  · rw [List.drop_eq_nil_of_le (by omega)]
    simp (config := { maxSteps := 1000000 }) (disch := omega) [-List.map_replicate, -List.map_set, -List.getD_eq_getElem?_getD, -getElem?_pos, -getElem?_neg, om, h1, nmsGo]
theorem ansOwn (nl : Option Bool) (z : Nat) (l : List Au) (hz : l ≠ [] → z = 6) (hok : ∀ x ∈ l, x.ok) (i : Nat) (hi : i < l.length) (hl : l.length < 1000000) :
    ansF cfg 172 [auL nl z l, .int .i64 i] [] = some (.int .i64 (auE (prevA l i) l[i]), []) := by
  refine ans_of_wp fn172 low172 ?_
  have hz : z = 6 := hz (by intro h; rw [h] at hi; simp at hi)
  subst hz
  have hg := get_aus l hi
  have hx := hok _ (List.getElem_mem hi)
  have hgp : 0 < i → (l.map auA)[i - 1]? = some (auA (l[i - 1]'(by omega))) := fun h => get_aus l (by omega)
  have hpv : 0 < i → prevA l i = some (l[i - 1]'(by omega)) := fun h => by unfold prevA; rw [if_neg (by omega)]; exact List.getElem?_eq_getElem (by omega)
  have hp0 : i = 0 → prevA l i = none := fun h => by simp [prevA, h]
  have hN := ansNamesR l[i] hx
  have hS := ansIsSpan l[i].a l[i].b
  generalize prevA l i = p at *
  generalize l[i] = x at *
  unfold auE auL
  unfold auA Au.cells at hN
  by_cases k1 : 1 ≤ x.id
  case neg =>
    rw [if_pos (.inl (by omega))]
    simp (config := { maxSteps := 1000000 }) (disch := omega) [-List.map_replicate, -List.map_set, -List.getD_eq_getElem?_getD, -getElem?_pos, -getElem?_neg, om, ir172, splice, auA, Au.cells, hg, k1]
  by_cases k2 : x.id ≤ 1073741824
  case neg =>
    rw [if_pos (.inl (by omega))]
    simp (config := { maxSteps := 1000000 }) (disch := omega) [-List.map_replicate, -List.map_set, -List.getD_eq_getElem?_getD, -getElem?_pos, -getElem?_neg, om, ir172, splice, auA, Au.cells, hg, k1, k2]
  by_cases k3 : 1 ≤ x.kind
  case neg =>
    rw [if_pos (.inr (.inl (by omega)))]
    simp (config := { maxSteps := 1000000 }) (disch := omega) [-List.map_replicate, -List.map_set, -List.getD_eq_getElem?_getD, -getElem?_pos, -getElem?_neg, om, ir172, splice, auA, Au.cells, hg, k1, k2, k3]
  by_cases k4 : x.kind ≤ 3
  case neg =>
    rw [if_pos (.inr (.inl (by omega)))]
    simp (config := { maxSteps := 1000000 }) (disch := omega) [-List.map_replicate, -List.map_set, -List.getD_eq_getElem?_getD, -getElem?_pos, -getElem?_neg, om, ir172, splice, auA, Au.cells, hg, k1, k2, k3, k4]
  cases k5 : spanB x.a x.b with
  | false =>
    rw [k5] at hS
    rw [if_pos (.inr (.inr rfl))]
    simp (config := { maxSteps := 1000000 }) (disch := omega) [-List.map_replicate, -List.map_set, -List.getD_eq_getElem?_getD, -getElem?_pos, -getElem?_neg, om, ir172, splice, auA, Au.cells, hg, k1, k2, k3, k4, hS]
  | true =>
  rw [k5] at hS
  have hd1 : ¬ (¬ (1 ≤ x.id ∧ x.id ≤ 1073741824) ∨ ¬ (1 ≤ x.kind ∧ x.kind ≤ 3) ∨ true = false) := by simp; omega
  rw [if_neg hd1]
  by_cases hi0 : i = 0
  · subst hi0
    rw [hp0 rfl]
    simp only [Bool.false_eq_true, if_false]
    by_cases k5 : namesE x = 0
    case neg =>
      have k6 : (namesE x != 0) = true := by simpa using k5
      rw [if_pos k5]
      generalize namesE x = e at *
      simp (config := { maxSteps := 1000000 }) (disch := omega) [-List.map_replicate, -List.map_set, -List.getD_eq_getElem?_getD, -getElem?_pos, -getElem?_neg, om, ir172, splice, auA, Au.cells, hg, k1, k2, k3, k4, hS, hN, k6]
    rw [k5] at hN
    rw [if_neg (by simp [k5])]
    by_cases k7 : 16 < x.next.length
    · rw [if_pos k7]
      simp (config := { maxSteps := 1000000 }) (disch := omega) [-List.map_replicate, -List.map_set, -List.getD_eq_getElem?_getD, -getElem?_pos, -getElem?_neg, om, ir172, splice, auA, Au.cells, hg, k1, k2, k3, k4, hS, hN, k7]
    rw [if_neg k7]
    simp (config := { maxSteps := 1000000 }) (disch := omega) [-List.map_replicate, -List.map_set, -List.getD_eq_getElem?_getD, -getElem?_pos, -getElem?_neg, om, ir172, splice, auA, Au.cells, hg, k1, k2, k3, k4, hS, hN, k7]
    clear hN hS hg hgp hpv hp0
    refine Wp.loopM (fun (k : Nat) => x.next.length + 1 - k) (fun k => [none, none, none, some (.ptr 0 0), none, some (.int .i64 k), none, none, none, none, none, none, none, none, none, none]) (fun _ => [.var 51 x.cells])
      (fun k => 1 ≤ k ∧ k ≤ x.next.length + 1 ∧ nextGo x.next = nextGo (x.next.drop (k - 1))) ?_ 1 ⟨Nat.le_refl _, by omega, rfl⟩ (by simp) rfl
    rintro k ⟨hk1, hk2, hr⟩
    rw [hr]
    unfold Au.cells
    by_cases h8 : k < x.next.length
    · have g1 := get_ints x.next h8
      have g2 := get_ints x.next (i := k - 1) (by omega)
      have e8 : ((k : Int) - 1).toNat = k - 1 := by omega
      have e9 : k - 1 + 1 = k := by omega
      have hxz : x.xz = 1 := hx.xz (by intro h; rw [h] at h8; simp at h8)
      have hdr : x.next.drop (k - 1) = x.next[k - 1] :: x.next[k] :: x.next.drop (k + 1) := by
        rw [List.drop_eq_getElem_cons (by omega : k - 1 < x.next.length)]
        simp only [e9]
        rw [List.drop_eq_getElem_cons h8]
      have hdk : x.next.drop k = x.next[k] :: x.next.drop (k + 1) := List.drop_eq_getElem_cons h8
      rw [hdr] at hr ⊢
      simp only [nextGo] at hr ⊢
      rw [← hdk] at hr ⊢
      generalize x.next[k - 1] = u at *
      generalize x.next[k] = v at *
      by_cases h9 : v ≤ u
      · simp (config := { maxSteps := 1000000 }) (disch := omega) [-List.map_replicate, -List.map_set, -List.getD_eq_getElem?_getD, -getElem?_pos, -getElem?_neg, om, h8, g1, g2, e8, h9]
      · simp only [h9, if_false] at hr ⊢
        simp (config := { maxSteps := 1000000 }) (disch := omega) [-List.map_replicate, -List.map_set, -List.getD_eq_getElem?_getD, -getElem?_pos, -getElem?_neg, om, h8, g1, g2, e8, h9]
        exact ⟨k + 1, ⟨by omega, by omega, rfl⟩, by omega, by simp⟩
    · have hdr : nextGo (x.next.drop (k - 1)) = 0 := by
        have : (x.next.drop (k - 1)).length ≤ 1 := by rw [List.length_drop]; omega
        match x.next.drop (k - 1), this with
        | [], _ => rfl
        | [a], _ => rfl
        | a :: b :: r, h => simp at h
      rw [hdr]
      simp (config := { maxSteps := 1000000 }) (disch := omega) [-List.map_replicate, -List.map_set, -List.getD_eq_getElem?_getD, -getElem?_pos, -getElem?_neg, om, h8]
  · have hgp := hgp (by omega)
    have hpi : 0 < i := by omega
    rw [hpv (by omega)]
    have ei : ((i : Int) - 1).toNat = i - 1 := by omega
    generalize l[i - 1] = q at *
    simp only [decide_eq_true_eq]
    by_cases k8 : x.id ≤ q.id
    · rw [if_pos k8]
      simp (config := { maxSteps := 1000000 }) (disch := omega) [-List.map_replicate, -List.map_set, -List.getD_eq_getElem?_getD, -getElem?_pos, -getElem?_neg, om, ir172, splice, auA, Au.cells, hg, k1, k2, k3, k4, hS, hgp, ei, k8]
    rw [if_neg k8]
    by_cases k5 : namesE x = 0
    case neg =>
      have k6 : (namesE x != 0) = true := by simpa using k5
      rw [if_pos k5]
      generalize namesE x = e at *
      simp (config := { maxSteps := 1000000 }) (disch := omega) [-List.map_replicate, -List.map_set, -List.getD_eq_getElem?_getD, -getElem?_pos, -getElem?_neg, om, ir172, splice, auA, Au.cells, hg, k1, k2, k3, k4, hS, hN, k6, hgp, ei, k8]
    rw [k5] at hN
    rw [if_neg (by simp [k5])]
    by_cases k7 : 16 < x.next.length
    · rw [if_pos k7]
      simp (config := { maxSteps := 1000000 }) (disch := omega) [-List.map_replicate, -List.map_set, -List.getD_eq_getElem?_getD, -getElem?_pos, -getElem?_neg, om, ir172, splice, auA, Au.cells, hg, k1, k2, k3, k4, hS, hN, k7, hgp, ei, k8]
    rw [if_neg k7]
    simp (config := { maxSteps := 1000000 }) (disch := omega) [-List.map_replicate, -List.map_set, -List.getD_eq_getElem?_getD, -getElem?_pos, -getElem?_neg, om, ir172, splice, auA, Au.cells, hg, k1, k2, k3, k4, hS, hN, k7, hgp, ei, k8]
    clear hN hS hg hgp hpv hp0
    refine Wp.loopM (fun (k : Nat) => x.next.length + 1 - k) (fun k => [none, none, none, some (.ptr 0 0), none, some (.int .i64 k), none, none, none, none, none, none, none, none, none, none]) (fun _ => [.var 51 x.cells])
      (fun k => 1 ≤ k ∧ k ≤ x.next.length + 1 ∧ nextGo x.next = nextGo (x.next.drop (k - 1))) ?_ 1 ⟨Nat.le_refl _, by omega, rfl⟩ (by simp) rfl
    rintro k ⟨hk1, hk2, hr⟩
    rw [hr]
    unfold Au.cells
    by_cases h8 : k < x.next.length
    · have g1 := get_ints x.next h8
      have g2 := get_ints x.next (i := k - 1) (by omega)
      have e8 : ((k : Int) - 1).toNat = k - 1 := by omega
      have e9 : k - 1 + 1 = k := by omega
      have hxz : x.xz = 1 := hx.xz (by intro h; rw [h] at h8; simp at h8)
      have hdr : x.next.drop (k - 1) = x.next[k - 1] :: x.next[k] :: x.next.drop (k + 1) := by
        rw [List.drop_eq_getElem_cons (by omega : k - 1 < x.next.length)]
        simp only [e9]
        rw [List.drop_eq_getElem_cons h8]
      have hdk : x.next.drop k = x.next[k] :: x.next.drop (k + 1) := List.drop_eq_getElem_cons h8
      rw [hdr] at hr ⊢
      simp only [nextGo] at hr ⊢
      rw [← hdk] at hr ⊢
      generalize x.next[k - 1] = u at *
      generalize x.next[k] = v at *
      by_cases h9 : v ≤ u
      · simp (config := { maxSteps := 1000000 }) (disch := omega) [-List.map_replicate, -List.map_set, -List.getD_eq_getElem?_getD, -getElem?_pos, -getElem?_neg, om, h8, g1, g2, e8, h9]
      · simp only [h9, if_false] at hr ⊢
        simp (config := { maxSteps := 1000000 }) (disch := omega) [-List.map_replicate, -List.map_set, -List.getD_eq_getElem?_getD, -getElem?_pos, -getElem?_neg, om, h8, g1, g2, e8, h9]
        exact ⟨k + 1, ⟨by omega, by omega, rfl⟩, by omega, by simp⟩
    · have hdr : nextGo (x.next.drop (k - 1)) = 0 := by
        have : (x.next.drop (k - 1)).length ≤ 1 := by rw [List.length_drop]; omega
        match x.next.drop (k - 1), this with
        | [], _ => rfl
        | [a], _ => rfl
        | a :: b :: r, h => simp at h
      rw [hdr]
      simp (config := { maxSteps := 1000000 }) (disch := omega) [-List.map_replicate, -List.map_set, -List.getD_eq_getElem?_getD, -getElem?_pos, -getElem?_neg, om, h8]
end Go.Proofs.YtlolhkjjbgpfbaaGreatDoor
namespace Go.Proofs.YtlolhkjjbgpfbaaGreatDoor
open Go.Am
set_option maxRecDepth 10000
set_option maxHeartbeats 4000000
theorem getA_none {l : List Au} {id : Int} : (getA l id).isSome = !noneB l id := by
  unfold getA noneB
  cases hl : loc l id 0 with
  | none => rfl
  | some j =>
    obtain ⟨hj, _⟩ := loc_spec l id _ 0 rfl j hl
    simp [hj]
def AnyAt {α : Type} (P : α → Bool) (L : List α) (i : Nat) : Prop := L.any P = (L.drop i).any P
def NoneTo (l : List Au) (L : List Int) (i : Nat) : Prop := ∀ k (_ : k < i) (h : k < L.length), noneB l L[k] = false
theorem any_yes {α : Type} {P : α → Bool} {L : List α} {i : Nat} (h : AnyAt P L i) (hi : i < L.length) (hp : P L[i] = true) : L.any P = true := by
  unfold AnyAt at h
  rw [h, List.drop_eq_getElem_cons hi, List.any_cons, hp]
  rfl
theorem any_no {α : Type} {P : α → Bool} {L : List α} {i : Nat} (h : AnyAt P L i) (hi : i < L.length) (hp : P L[i] = false) : AnyAt P L (i + 1) := by
  unfold AnyAt at *
  rw [h, List.drop_eq_getElem_cons hi, List.any_cons, hp]
  rfl
theorem any_end {α : Type} {P : α → Bool} {L : List α} {i : Nat} (h : AnyAt P L i) (hi : ¬ i < L.length) : L.any P = false := by
  unfold AnyAt at h
  rw [h, List.drop_eq_nil_of_le (by omega)]
  rfl
theorem none_step {l : List Au} {L : List Int} {i : Nat} (h : NoneTo l L i) (hi : i < L.length) (hp : noneB l L[i] = false) : NoneTo l L (i + 1) := fun k hk hl => by
  rcases Nat.lt_or_ge k i with h2 | h2
  · exact h k h2 hl
  · obtain rfl : k = i := by omega
    exact hp
theorem ansNext (nl : Option Bool) (z : Nat) (l : List Au) (hz : l ≠ [] → z = 6) (hl : l.length < 1000000) (x : Au) (hx : x.ok) :
    ansF cfg 173 [auL nl z l, auA x] [] = some (.int .i64 (succE l x), []) := by
  have hF := fun id => ansFindR nl z l hz hl id
  have hn := hx.xl
  have r7 : x.next.any (noneB l) = true → succE l x = 7 := fun h => by unfold succE; rw [if_pos h]
  have r10 : x.next.any (noneB l) = false → x.next.any (kindB l x) = true → succE l x = 10 := fun h h2 => by unfold succE; rw [if_neg (by rw [h]; simp), if_pos h2]
  have r16 : x.next.any (noneB l) = false → x.next.any (kindB l x) = false → x.next.any (gapB l x) = true → succE l x = 16 := fun h h2 h3 => by unfold succE; rw [if_neg (by rw [h]; simp), if_neg (by rw [h2]; simp), if_pos h3]
  have r0 : x.next.any (noneB l) = false → x.next.any (kindB l x) = false → x.next.any (gapB l x) = false → succE l x = 0 := fun h h2 h3 => by unfold succE; rw [if_neg (by rw [h]; simp), if_neg (by rw [h2]; simp), if_neg (by rw [h3]; simp)]
  refine ans_of_wp fn173 low173 ?_
  generalize succE l x = res at *
  unfold auA Au.cells auL at *
  simp (config := { maxSteps := 1000000 }) (disch := omega) [-List.map_replicate, -List.map_set, -List.getD_eq_getElem?_getD, -getElem?_pos, -getElem?_neg, om, ir173]
  refine Wp.loopM (fun (i : Nat) => x.next.length - i) (fun i => [some (.lst nl z (l.map auA)), none, some (.ptr 0 0), none, some (.int .i64 i), none, none, none, none, none, none, none, none, none, none, none, none, none, none, none]) (fun _ => [.var 51 x.cells])
    (fun i => i ≤ x.next.length ∧ AnyAt (noneB l) x.next i ∧ NoneTo l x.next i) ?_ 0 ⟨Nat.zero_le _, rfl, fun k hk => by omega⟩ (by simp) rfl
  rintro i ⟨hi, hr, hall⟩
  unfold Au.cells
  by_cases h1 : i < x.next.length
  · have hxz : x.xz = 1 := hx.xz (by intro h; rw [h] at h1; simp at h1)
    have hg := get_ints x.next h1
    have hF := hF x.next[i]
    have hy := any_yes hr h1
    have hno := any_no hr h1
    have hst := none_step hall h1
    rw [getA_none] at hF
    generalize x.next[i] = id at *
    cases h2 : noneB l id with
    | true =>
      have r7 := r7 (hy h2)
      subst r7
      rw [h2] at hF
      clear hno hst hy r10 r16 r0
      generalize getA l id = o at *
      cases o with
      | none => simp (config := { maxSteps := 1000000 }) (disch := omega) [-List.map_replicate, -List.map_set, -List.getD_eq_getElem?_getD, -getElem?_pos, -getElem?_neg, om, h1, hg, hF, optA, au0, splice]
      | some y => simp (config := { maxSteps := 1000000 }) (disch := omega) [-List.map_replicate, -List.map_set, -List.getD_eq_getElem?_getD, -getElem?_pos, -getElem?_neg, om, h1, hg, hF, optA, auA, Au.cells, splice]
    | false =>
      have hno := hno h2
      have hst := hst h2
      rw [h2] at hF
      clear hy r7 r10 r16 r0
      generalize getA l id = o at *
      cases o with
      | none =>
        simp (config := { maxSteps := 1000000 }) (disch := omega) [-List.map_replicate, -List.map_set, -List.getD_eq_getElem?_getD, -getElem?_pos, -getElem?_neg, om, h1, hg, hF, optA, au0, splice]
        exact ⟨i + 1, ⟨by omega, hno, hst⟩, by omega, by simp⟩
      | some y =>
        simp (config := { maxSteps := 1000000 }) (disch := omega) [-List.map_replicate, -List.map_set, -List.getD_eq_getElem?_getD, -getElem?_pos, -getElem?_neg, om, h1, hg, hF, optA, auA, Au.cells, splice]
        exact ⟨i + 1, ⟨by omega, hno, hst⟩, by omega, by simp⟩
  have hN1 := any_end hr h1
  have hall : ∀ k (h : k < x.next.length), noneB l x.next[k] = false := fun k h => hall k (by omega) h
  clear hr
  simp (config := { maxSteps := 1000000 }) (disch := omega) [-List.map_replicate, -List.map_set, -List.getD_eq_getElem?_getD, -getElem?_pos, -getElem?_neg, om, h1]
  refine Wp.loopM (fun (i : Nat) => x.next.length - i) (fun i => [some (.lst nl z (l.map auA)), none, some (.ptr 0 0), none, none, none, none, some (.int .i64 i), none, none, none, none, none, none, none, none, none, none, none, none]) (fun _ => [.var 51 x.cells])
    (fun i => i ≤ x.next.length ∧ AnyAt (kindB l x) x.next i) ?_ 0 ⟨Nat.zero_le _, rfl⟩ (by simp) rfl
  rintro i ⟨hi, hr⟩
  unfold Au.cells
  by_cases h1 : i < x.next.length
  · have hxz : x.xz = 1 := hx.xz (by intro h; rw [h] at h1; simp at h1)
    have hg := get_ints x.next h1
    have hF := hF x.next[i]
    obtain ⟨j, hj, _, hget⟩ := loc_some (hall i h1)
    have hno : kindB l x x.next[i] = false → AnyAt (kindB l x) x.next (i + 1) := any_no hr h1
    rw [hget] at hF
    have hk : kindB l x x.next[i] = (l[j].kind != x.kind) := by unfold kindB; rw [hget]
    have hy : kindB l x x.next[i] = true → x.next.any (kindB l x) = true := any_yes hr h1
    rw [hk] at hno hy
    clear hk hget
    generalize x.next[i] = id at *
    generalize l[j] = y at *
    simp only [Option.isSome_some] at hF
    cases h2 : y.kind != x.kind with
    | true =>
      have r10 := r10 hN1 (hy h2)
      subst r10
      clear hno hy r7 r16 r0
      simp (config := { maxSteps := 1000000 }) (disch := omega) [-List.map_replicate, -List.map_set, -List.getD_eq_getElem?_getD, -getElem?_pos, -getElem?_neg, om, h1, hg, hF, optA, auA, Au.cells, splice, h2]
    | false =>
      have hno := hno h2
      clear hy r7 r10 r16 r0
      simp (config := { maxSteps := 1000000 }) (disch := omega) [-List.map_replicate, -List.map_set, -List.getD_eq_getElem?_getD, -getElem?_pos, -getElem?_neg, om, h1, hg, hF, optA, auA, Au.cells, splice, h2]
      exact ⟨i + 1, ⟨by omega, hno⟩, by omega, by simp⟩
  have hN2 := any_end hr h1
  clear hr
  simp (config := { maxSteps := 1000000 }) (disch := omega) [-List.map_replicate, -List.map_set, -List.getD_eq_getElem?_getD, -getElem?_pos, -getElem?_neg, om, h1]
  refine Wp.loopM (fun (i : Nat) => x.next.length - i) (fun i => [some (.lst nl z (l.map auA)), none, some (.ptr 0 0), none, none, none, none, none, none, some (.int .i64 i), none, none, none, none, none, none, none, none, none, none]) (fun _ => [.var 51 x.cells])
    (fun i => i ≤ x.next.length ∧ AnyAt (gapB l x) x.next i) ?_ 0 ⟨Nat.zero_le _, rfl⟩ (by simp) rfl
  rintro i ⟨hi, hr⟩
  unfold Au.cells
  by_cases h1 : i < x.next.length
  · have hxz : x.xz = 1 := hx.xz (by intro h; rw [h] at h1; simp at h1)
    have hg := get_ints x.next h1
    have hF := hF x.next[i]
    obtain ⟨j, hj, _, hget⟩ := loc_some (hall i h1)
    have hno : gapB l x x.next[i] = false → AnyAt (gapB l x) x.next (i + 1) := any_no hr h1
    have hk : gapB l x x.next[i] = (l[j].a != x.b) := by unfold gapB; rw [hget]
    have hy : gapB l x x.next[i] = true → x.next.any (gapB l x) = true := any_yes hr h1
    rw [hget] at hF
    rw [hk] at hno hy
    clear hk hget
    generalize x.next[i] = id at *
    generalize l[j] = y at *
    simp only [Option.isSome_some] at hF
    cases h2 : y.a != x.b with
    | true =>
      have r16 := r16 hN1 hN2 (hy h2)
      subst r16
      clear hno hy r7 r10 r0
      simp (config := { maxSteps := 1000000 }) (disch := omega) [-List.map_replicate, -List.map_set, -List.getD_eq_getElem?_getD, -getElem?_pos, -getElem?_neg, om, h1, hg, hF, optA, auA, Au.cells, splice, h2]
    | false =>
      have hno := hno h2
      clear hy r7 r10 r16 r0
      simp (config := { maxSteps := 1000000 }) (disch := omega) [-List.map_replicate, -List.map_set, -List.getD_eq_getElem?_getD, -getElem?_pos, -getElem?_neg, om, h1, hg, hF, optA, auA, Au.cells, splice, h2]
      exact ⟨i + 1, ⟨by omega, hno⟩, by omega, by simp⟩
  have r0 := r0 hN1 hN2 (any_end hr h1)
  subst r0
  clear r7 r10 r16 hr
  simp (config := { maxSteps := 1000000 }) (disch := omega) [-List.map_replicate, -List.map_set, -List.getD_eq_getElem?_getD, -getElem?_pos, -getElem?_neg, om, h1]
theorem ansCheckR (nl : Option Bool) (z : Nat) (l : List Au) (hz : l ≠ [] → z = 6) (hok : ∀ x ∈ l, x.ok) :
    ansF cfg 153 [auL nl z l] [] = some (.tup [.int .i64 (checkK l), .int .i64 (checkE l)], []) := by
  by_cases h64 : 64 < l.length
  · refine ans_of_wp fn153 low153 ?_
    unfold checkE checkK auL
    simp (config := { maxSteps := 1000000 }) (disch := omega) [-List.map_replicate, -List.map_set, -List.getD_eq_getElem?_getD, -getElem?_pos, -getElem?_neg, om, ir153, h64]
  have A : ∀ i, i < l.length → ansF cfg 172 [auL nl z l, .int .i64 i] [] = some (.int .i64 (aloneAt l i), []) := fun i hi => by
    have := ansOwn nl z l hz hok i hi (by omega)
    unfold aloneAt
    rw [List.getElem?_eq_getElem hi]
    exact this
  have S : ∀ i (hi : i < l.length), ansF cfg 173 [auL nl z l, auA l[i]] [] = some (.int .i64 (succAt l i), []) := fun i hi => by
    have := ansNext nl z l hz (by omega) l[i] (hok _ (List.getElem_mem hi))
    unfold succAt
    rw [List.getElem?_eq_getElem hi]
    exact this
  have hpl := plain_auA l
  refine ans_of_wp fn153 low153 ?_
  unfold auL checkE checkK at *
  rw [if_neg h64, if_neg h64]
  simp (config := { maxSteps := 1000000 }) (disch := omega) [-List.map_replicate, -List.map_set, -List.getD_eq_getElem?_getD, -getElem?_pos, -getElem?_neg, om, ir153, h64]
  refine Wp.loopM (fun (i : Nat) => l.length - i) (fun i => [some (.lst nl z (l.map auA)), none, none, some (.int .i64 i), none, none, none, none, none, none, none, none, none, none]) (fun _ => [])
    (fun i => i ≤ l.length ∧ firstE (aloneAt l) l.length 0 = firstE (aloneAt l) l.length i ∧ firstK (aloneAt l) l.length 0 = firstK (aloneAt l) l.length i) ?_ 0 ⟨Nat.zero_le _, rfl, rfl⟩ (by simp) rfl
  rintro i ⟨hi, hr, hk⟩
  by_cases h1 : i < l.length
  · have hA := A i h1
    rw [firstE.eq_def (aloneAt l) l.length i, dif_pos h1] at hr
    rw [firstK.eq_def (aloneAt l) l.length i, dif_pos h1] at hk
    by_cases h2 : aloneAt l i = 0
    · rw [if_pos h2] at hr hk
      rw [h2] at hA
      simp (config := { maxSteps := 1000000 }) (disch := omega) [-List.map_replicate, -List.map_set, -List.getD_eq_getElem?_getD, -getElem?_pos, -getElem?_neg, om, h1, hA, hpl]
      exact ⟨i + 1, ⟨by omega, hr, hk⟩, by omega, by simp⟩
    · rw [if_neg h2] at hr hk
      rw [if_neg (by rw [hr]; exact h2), if_neg (by rw [hr]; exact h2), hr, hk]
      generalize aloneAt l i = e at *
      have h3 : (e != 0) = true := by simpa using h2
      simp (config := { maxSteps := 1000000 }) (disch := omega) [-List.map_replicate, -List.map_set, -List.getD_eq_getElem?_getD, -getElem?_pos, -getElem?_neg, om, h1, hA, hpl, h3]
  have h0 : firstE (aloneAt l) l.length 0 = 0 := by rw [hr, firstE.eq_def (aloneAt l) l.length i, dif_neg (by omega)]
  rw [if_pos h0, if_pos h0]
  clear hr hk
  simp (config := { maxSteps := 1000000 }) (disch := omega) [-List.map_replicate, -List.map_set, -List.getD_eq_getElem?_getD, -getElem?_pos, -getElem?_neg, om, h1]
  refine Wp.loopM (fun (i : Nat) => l.length - i) (fun i => [some (.lst nl z (l.map auA)), none, none, none, none, some (.int .i64 i), none, none, none, none, none, none, none, none]) (fun _ => [])
    (fun i => i ≤ l.length ∧ firstE (succAt l) l.length 0 = firstE (succAt l) l.length i ∧ firstK (succAt l) l.length 0 = firstK (succAt l) l.length i) ?_ 0 ⟨Nat.zero_le _, rfl, rfl⟩ (by simp) rfl
  rintro i ⟨hi, hr, hk⟩
  by_cases h1 : i < l.length
  · have hS := S i h1
    have hz6 : z = 6 := hz (by intro h; rw [h] at h1; simp at h1)
    subst hz6
    have hg := get_aus l h1
    rw [firstE.eq_def (succAt l) l.length i, dif_pos h1] at hr
    rw [firstK.eq_def (succAt l) l.length i, dif_pos h1] at hk
    generalize l[i] = x at *
    simp only [auA, Au.cells] at hS
    by_cases h2 : succAt l i = 0
    · rw [if_pos h2] at hr hk
      rw [h2] at hS
      simp (config := { maxSteps := 1000000 }) (disch := omega) [-List.map_replicate, -List.map_set, -List.getD_eq_getElem?_getD, -getElem?_pos, -getElem?_neg, om, h1, hg, hS, hpl, auA, Au.cells, splice]
      exact ⟨i + 1, ⟨by omega, hr, hk⟩, by omega, by simp⟩
    · rw [if_neg h2] at hr hk
      rw [hr, hk]
      generalize succAt l i = e at *
      have h3 : (e != 0) = true := by simpa using h2
      simp (config := { maxSteps := 1000000 }) (disch := omega) [-List.map_replicate, -List.map_set, -List.getD_eq_getElem?_getD, -getElem?_pos, -getElem?_neg, om, h1, hg, hS, hpl, auA, Au.cells, splice, h3]
  rw [hr, hk, firstE.eq_def (succAt l) l.length i, dif_neg (by omega), firstK.eq_def (succAt l) l.length i, dif_neg (by omega)]
  simp (config := { maxSteps := 1000000 }) (disch := omega) [-List.map_replicate, -List.map_set, -List.getD_eq_getElem?_getD, -getElem?_pos, -getElem?_neg, om, h1]
end Go.Proofs.YtlolhkjjbgpfbaaGreatDoor
namespace Go.Proofs.YtlolhkjjbgpfbaaGreatDoor
open Go.Am
set_option maxRecDepth 10000
set_option maxHeartbeats 4000000
theorem ansRightR (nl : Option Bool) (z : Nat) (l : List Au) (hz : l ≠ [] → z = 6) (hok : ∀ x ∈ l, x.ok) : ansF cfg 118 [auL nl z l] [] = some (.bool (decide (checkE l = 0)), []) := by
  have h := ansCheckR nl z l hz hok
  have hpl := plain_auA l
  refine ans_of_wp fn118 low118 ?_
  generalize checkE l = e at *
  generalize checkK l = k at *
  unfold auL at *
  simp (config := { maxSteps := 1000000 }) (disch := omega) [-List.map_replicate, -List.map_set, -List.getD_eq_getElem?_getD, -getElem?_pos, -getElem?_neg, om, ir118, h, hpl]
  by_cases h0 : e = 0
  · simp [h0]
  · simp [h0]
theorem ansBasic23 (nl : Option Bool) (z : Nat) (l : List Au) (hz : l ≠ [] → z = 6) (hok : ∀ x ∈ l, x.ok) (day : Int) : ansF cfg 111 [auL nl z l, .int .i64 day] [] = some (.int .i64 (asksE l day), []) := by
  have h := ansRightR nl z l hz hok
  have hpl := plain_auA l
  refine ans_of_wp fn111 low111 ?_
  unfold asksE
  generalize checkE l = e at *
  unfold auL at *
  by_cases h1 : e = 0
  · subst h1
    by_cases h2 : 0 ≤ day
    · by_cases h3 : day ≤ 1048575
      · simp (config := { maxSteps := 1000000 }) (disch := omega) [-List.map_replicate, -List.map_set, -List.getD_eq_getElem?_getD, -getElem?_pos, -getElem?_neg, om, ir111, h, h2, h3, hpl]
      · simp (config := { maxSteps := 1000000 }) (disch := omega) [-List.map_replicate, -List.map_set, -List.getD_eq_getElem?_getD, -getElem?_pos, -getElem?_neg, om, ir111, h, h2, h3, hpl]
    · simp (config := { maxSteps := 1000000 }) (disch := omega) [-List.map_replicate, -List.map_set, -List.getD_eq_getElem?_getD, -getElem?_pos, -getElem?_neg, om, ir111, h, h2, hpl]
  · rw [decide_eq_false h1] at h
    simp (config := { maxSteps := 1000000 }) (disch := omega) [-List.map_replicate, -List.map_set, -List.getD_eq_getElem?_getD, -getElem?_pos, -getElem?_neg, om, ir111, h, h1, hpl]
theorem ansBasic24 (nl : Option Bool) (z : Nat) (l : List Au) (hz : l ≠ [] → z = 6) (hok : ∀ x ∈ l, x.ok) (day : Int) : ansF cfg 73 [auL nl z l, .int .i64 day] [] = some (.int .i64 (asksE l day), []) := by
  have h := ansRightR nl z l hz hok
  have hpl := plain_auA l
  refine ans_of_wp fn73 low73 ?_
  unfold asksE
  generalize checkE l = e at *
  unfold auL at *
  by_cases h1 : e = 0
  · subst h1
    by_cases h2 : 0 ≤ day
    · by_cases h3 : day ≤ 1048575
      · simp (config := { maxSteps := 1000000 }) (disch := omega) [-List.map_replicate, -List.map_set, -List.getD_eq_getElem?_getD, -getElem?_pos, -getElem?_neg, om, ir73, h, h2, h3, hpl]
      · simp (config := { maxSteps := 1000000 }) (disch := omega) [-List.map_replicate, -List.map_set, -List.getD_eq_getElem?_getD, -getElem?_pos, -getElem?_neg, om, ir73, h, h2, h3, hpl]
    · simp (config := { maxSteps := 1000000 }) (disch := omega) [-List.map_replicate, -List.map_set, -List.getD_eq_getElem?_getD, -getElem?_pos, -getElem?_neg, om, ir73, h, h2, hpl]
  · rw [decide_eq_false h1] at h
    simp (config := { maxSteps := 1000000 }) (disch := omega) [-List.map_replicate, -List.map_set, -List.getD_eq_getElem?_getD, -getElem?_pos, -getElem?_neg, om, ir73, h, h1, hpl]
theorem ansOnL (x : Au) (hx : x.ok) (day : Int) : ansF cfg 113 [auA x, .int .i64 day] [] = some (.str (onL day x.names), []) := by
  refine ans_of_wp fn113 low113 ?_
  have hxl := hx.nl
  unfold auA Au.cells
  simp (config := { maxSteps := 1000000 }) (disch := omega) [-List.map_replicate, -List.map_set, -List.getD_eq_getElem?_getD, -getElem?_pos, -getElem?_neg, om, ir113]
  refine Wp.loopM (fun (i : Nat) => x.names.length - i) (fun i => [none, some (.int .i64 day), some (.ptr 0 0), none, some (.int .i64 i), none, none]) (fun _ => [.var 51 x.cells]) (fun i => i ≤ x.names.length ∧ onL day x.names = onL day (x.names.drop i)) ?_ 0 ⟨Nat.zero_le _, rfl⟩ (by simp) rfl
  rintro i ⟨hi, hr⟩
  rw [hr]
  unfold Au.cells
  by_cases h1 : i < x.names.length
  · have hz : x.nz = 3 := hx.nz (by intro h; rw [h] at h1; simp at h1)
    have hg := get_nms x.names h1
    rw [List.drop_eq_getElem_cons h1] at hr ⊢
    simp only [onL] at hr ⊢
    have hI := ansOnR (x.names[i]).a (x.names[i]).b day
    generalize x.names[i] = n at *
    obtain ⟨t, a, b⟩ := n
    simp only [nmA] at hg hr hI ⊢
    cases h2 : inB a b day with
    | true =>
      rw [h2] at hI
      simp (config := { maxSteps := 1000000 }) (disch := omega) [-List.map_replicate, -List.map_set, -List.getD_eq_getElem?_getD, -getElem?_pos, -getElem?_neg, om, h1, hg, hI, splice]
    | false =>
      rw [h2] at hI hr
      simp only [Bool.false_eq_true, if_false] at hr ⊢
      simp (config := { maxSteps := 1000000 }) (disch := omega) [-List.map_replicate, -List.map_set, -List.getD_eq_getElem?_getD, -getElem?_pos, -getElem?_neg, om, h1, hg, hI, splice]
      exact ⟨i + 1, ⟨by omega, rfl⟩, by omega, by simp⟩
  · rw [List.drop_eq_nil_of_le (by omega)]
    simp (config := { maxSteps := 1000000 }) (disch := omega) [-List.map_replicate, -List.map_set, -List.getD_eq_getElem?_getD, -getElem?_pos, -getElem?_neg, om, h1, onL]
theorem ansNameRef (nl : Option Bool) (z : Nat) (l : List Au) (hz : l ≠ [] → z = 6) (hok : ∀ x ∈ l, x.ok) (id day : Int) :
    ansF cfg 65 [auL nl z l, .int .i64 id, .int .i64 day] [] = some (.tup [.str (nameR l id day).1, .int .i64 (nameR l id day).2], []) := by
  have h := ansBasic23 nl z l hz hok day
  have hpl := plain_auA l
  refine ans_of_wp fn65 low65 ?_
  unfold nameR
  by_cases h0 : asksE l day = 0
  case neg =>
    rw [if_pos h0]
    generalize asksE l day = e at *
    have h1 : (e != 0) = true := by simpa using h0
    unfold auL at *
    simp (config := { maxSteps := 1000000 }) (disch := omega) [-List.map_replicate, -List.map_set, -List.getD_eq_getElem?_getD, -getElem?_pos, -getElem?_neg, om, ir65, h, h1, hpl]
  have hl := asks_len h0
  have hL := ansFindR nl z l hz (by omega) id
  rw [if_neg (by simp [h0])]
  have hxm := fun x (hx : getA l id = some x) => (getA_some hx).1
  have hon := fun x (hx : x ∈ l) => on_eq (asks_names h0 hx) day
  rw [h0] at h
  cases hc : getA l id with
  | none =>
    rw [hc] at hL
    unfold auL optA au0 at *
    simp (config := { maxSteps := 1000000 }) (disch := omega) [-List.map_replicate, -List.map_set, -List.getD_eq_getElem?_getD, -getElem?_pos, -getElem?_neg, om, ir65, h, hL, hpl, splice]
  | some x =>
    have hx := hxm x hc
    have hO := ansOnL x (hok x hx) day
    have hI := ansOnR x.a x.b day
    obtain ⟨on1, on2⟩ := hon x hx
    rw [on1] at hO
    rw [hc] at hL
    clear hxm hon
    simp only [Option.isSome_some]
    unfold auL optA auA Au.cells at *
    cases h2 : inB x.a x.b day with
    | false =>
      rw [h2] at hI
      simp (config := { maxSteps := 1000000 }) (disch := omega) [-List.map_replicate, -List.map_set, -List.getD_eq_getElem?_getD, -getElem?_pos, -getElem?_neg, om, ir65, h, hL, hpl, hI, splice]
    | true =>
      rw [h2] at hI
      cases h3 : onS x day with
      | none =>
        rw [h3] at hO
        simp only [Option.getD_none] at hO
        simp (config := { maxSteps := 1000000 }) (disch := omega) [-List.map_replicate, -List.map_set, -List.getD_eq_getElem?_getD, -getElem?_pos, -getElem?_neg, om, ir65, h, hL, hpl, hI, hO, plain_nmA, plain_intA, splice]
      | some s =>
        have hs : (s == []) = false := by simpa using on2 s h3
        rw [h3] at hO
        simp only [Option.getD_some] at hO
        simp (config := { maxSteps := 1000000 }) (disch := omega) [-List.map_replicate, -List.map_set, -List.getD_eq_getElem?_getD, -getElem?_pos, -getElem?_neg, om, ir65, h, hL, hpl, hI, hO, hs, plain_nmA, plain_intA, splice]
end Go.Proofs.YtlolhkjjbgpfbaaGreatDoor
namespace Go.Proofs.YtlolhkjjbgpfbaaGreatDoor
open Go.Am
set_option maxRecDepth 10000
set_option maxHeartbeats 4000000
theorem ansPlainRef (nl : Option Bool) (z : Nat) (l : List Au) (hz : l ≠ [] → z = 6) (hok : ∀ x ∈ l, x.ok) (x : Au) (day : Int) :
    ansF cfg 67 [auL nl z l, auA x, .int .i64 day] [] = some (.str (plainR l x day).1, []) := by
  have h := ansNameRef nl z l hz hok x.id day
  have hi := ansInvR (nameR l x.id day).1 (by have := nameR_len l x.id day; omega)
  have hpl := plain_auA l
  have her := @plainR_err l x day
  refine ans_of_wp fn67 low67 ?_
  unfold plainR at *
  generalize nameR l x.id day = r at *
  obtain ⟨s, e⟩ := r
  simp only at h hi her ⊢
  unfold auL auA Au.cells at *
  by_cases h1 : e = 0
  · subst h1
    by_cases h2 : x.kind = 1
    · simp (config := { maxSteps := 1000000 }) (disch := omega) [-List.map_replicate, -List.map_set, -List.getD_eq_getElem?_getD, -getElem?_pos, -getElem?_neg, om, ir67, h, hi, hpl, h2, plain_nmA, plain_intA]
    · have h3 : (x.kind == 1) = false := by simpa using h2
      simp (config := { maxSteps := 1000000 }) (disch := omega) [-List.map_replicate, -List.map_set, -List.getD_eq_getElem?_getD, -getElem?_pos, -getElem?_neg, om, ir67, h, hi, hpl, h2, h3, plain_nmA, plain_intA]
  · have h3 : (e == 0) = false := by simpa using h1
    have h4 : (e != 0) = true := by simpa using h1
    have hd : ¬ (e = 0 ∧ x.kind = 1) := fun h => h1 h.1
    rw [if_neg hd] at her ⊢
    have her := her h1
    simp only at her ⊢
    subst her
    simp (config := { maxSteps := 1000000 }) (disch := omega) [-List.map_replicate, -List.map_set, -List.getD_eq_getElem?_getD, -getElem?_pos, -getElem?_neg, om, ir67, h, hpl, h3, h4, plain_nmA, plain_intA]
theorem dec_len10 (n : Nat) : (Lib.decDigits n).length ≤ n + 1 := by
  induction n using Nat.strongRecOn with
  | _ n ih =>
    by_cases h : n < 10
    · rw [Lib.decDigits_one h]; simp
    · have := ih (n / 10) (by omega)
      rw [dec_big h, List.length_append, List.length_singleton]
      omega
theorem ansDecimal : ∀ (k n : Nat), n < k → n < 10000000000 → ansF cfg 68 [.int .i64 n] [] = some (.str (Lib.decDigits n), [])
  | 0, n, h, _ => by omega
  | k + 1, n, h, hn => by
    refine ans_of_wp fn68 low68 ?_
    by_cases h1 : n < 10
    · have hd : Lib.decDigits n = [UInt8.ofNat (48 + n)] := by rw [Lib.decDigits]; simp [h1]
      rw [hd]
      have hb : ofByte (UInt8.ofNat (48 + n)) = .int .u8 ((48 : Int) + n) := by
        unfold ofByte
        rw [dig_nat h1]
        simp
      simp (config := { maxSteps := 1000000 }) (disch := omega) [-List.map_replicate, -List.map_set, -List.getD_eq_getElem?_getD, -getElem?_pos, -getElem?_neg, om, ir68, h1, wrap_u8, Cfg.descOf]
      rw [show ((48 : Int) + (n : Int)).toNat = 48 + n by omega]
      exact UInt8.ofNat_add 48 n
    · have ih1 : ansF cfg 68 [.int .i64 ((n : Int) / 10)] [] = some (.str (Lib.decDigits (n / 10)), []) := by
        have := ansDecimal k (n / 10) (by omega) (by omega)
        rwa [show ((n / 10 : Nat) : Int) = (n : Int) / 10 by omega] at this
      have ih2 : ansF cfg 68 [.int .i64 ((n : Int) % 10)] [] = some (.str (Lib.decDigits (n % 10)), []) := by
        have := ansDecimal k (n % 10) (by omega) (by omega)
        rwa [show ((n % 10 : Nat) : Int) = (n : Int) % 10 by omega] at this
      have hd2 : Lib.decDigits (n % 10) = [UInt8.ofNat (48 + n % 10)] := by rw [Lib.decDigits]; simp; omega
      have hl2 := dec_len10 (n / 10)
      rw [dec_big h1, ← hd2]
      have hl3 : (Lib.decDigits (n % 10)).length = 1 := by rw [hd2]; rfl
      generalize Lib.decDigits (n / 10) = D at *
      generalize Lib.decDigits (n % 10) = D2 at *
      simp (config := { maxSteps := 1000000 }) (disch := omega) [-List.map_replicate, -List.map_set, -List.getD_eq_getElem?_getD, -getElem?_pos, -getElem?_neg, om, ir68, h1, ih1, ih2]
theorem sufB_last (s : Str) (h : s ≠ []) : sufB s = (s.getD (s.length - 1) 0 == 41) := by
  have hp := List.length_pos_iff.2 h
  unfold sufB
  rw [drop_get s (i := s.length - 1) (by omega), List.drop_eq_nil_of_le (by omega)]
  have : decide (1 ≤ s.length) = true := by rw [decide_eq_true_eq]; omega
  rw [this, Bool.true_and]
  simp
def othB (l : List Au) (x : Au) (day : Int) (y : Au) : Bool := y.id != x.id && (plainR l y day).1 == (plainR l x day).1
def anyO (l : List Au) (x : Au) (day : Int) (i : Nat) : Bool := (l.take i).any (othB l x day)
theorem ansHeadingR (nl : Option Bool) (z : Nat) (l : List Au) (hz : l ≠ [] → z = 6) (hok : ∀ x ∈ l, x.ok) (id day : Int) :
    ansF cfg 26 [auL nl z l, .int .i64 id, .int .i64 day] [] = some (.tup [.str (headR l id day).1, .int .i64 (headR l id day).2], []) := by
  have h := ansNameRef nl z l hz hok id day
  have hpl := plain_auA l
  by_cases h0 : (nameR l id day).2 = 0
  case neg =>
    unfold headR
    rw [if_neg h0]
    generalize nameR l id day = e at *
    obtain ⟨s, e⟩ := e
    simp only at h h0 ⊢
    have h1 : (e != 0) = true := by simpa using h0
    refine ans_of_wp fn26 low26 ?_
    unfold auL at *
    simp (config := { maxSteps := 1000000 }) (disch := omega) [-List.map_replicate, -List.map_set, -List.getD_eq_getElem?_getD, -getElem?_pos, -getElem?_neg, om, ir26, h, h1, hpl]
  obtain ⟨x, hx, rfl, hget, hp, hhd⟩ := headR_eq h0
  have hids := asks_ids (nameR_ok h0) hx
  have hll := asks_len (nameR_ok h0)
  rw [hhd]
  rw [h0] at h
  have hF := ansFindR nl z l hz (by omega) x.id
  rw [hget] at hF
  have hPx := ansPlainRef nl z l hz hok x day
  have hP : ∀ i (h : i < l.length), ansF cfg 67 [auL nl z l, auA l[i], .int .i64 day] [] = some (.str (plainR l l[i] day).1, []) := fun i h => ansPlainRef nl z l hz hok _ day
  have hne := plainR_ne hp
  have hpl2 := plainR_len l x day
  have hpos := List.length_pos_iff.2 hne
  have hg1 := get_str (plainR l x day).1 (i := (plainR l x day).1.length - 1) (by omega)
  have e41 : ((((plainR l x day).1.getD ((plainR l x day).1.length - 1) 0).toNat : Int) == 41) = sufB (plainR l x day).1 := by
    rw [sufB_last _ hne]; exact byte_eq _ 41 (by omega)
  have hln : (((plainR l x day).1.length : Int) - 1).toNat = (plainR l x day).1.length - 1 := by omega
  have hmo : (sufB (plainR l x day).1 || l.any (othB l x day)) = moreB l x day := rfl
  obtain ⟨n, hn⟩ : ∃ n : Nat, x.id = (n : Int) := ⟨x.id.toNat, by omega⟩
  have hD := ansDecimal (n + 1) n (by omega) (by omega)
  have hil := dec_len10 n
  rw [← itoa_nat, ← hn] at hD
  rw [← itoa_nat, ← hn] at hil
  refine ans_of_wp fn26 low26 ?_
  unfold moreT
  generalize moreB l x day = mb at *
  have hoth : ∀ y : Au, othB l x day y = (y.id != x.id && (plainR l y day).1 == (plainR l x day).1) := fun _ => rfl
  generalize (plainR l x day).1 = s at *
  generalize Lib.itoa x.id = D at *
  generalize (nameR l x.id day).1 = nm at *
  clear hhd hok hget hp hne hx
  unfold auL optA at *
  simp only [Option.isSome_some] at hF
  simp only [auA, Au.cells] at hF hPx
  simp (config := { maxSteps := 1000000 }) (disch := omega) [-List.map_replicate, -List.map_set, -List.getD_eq_getElem?_getD, -getElem?_pos, -getElem?_neg, om, ir26, h, hpl, hF, hPx, hg1, splice, plain_nmA, plain_intA, hln, e41]
  clear hPx hg1 hF h
  refine Wp.loopM (fun (a : Nat × Option AV) => l.length - a.1) (fun a => [some (.lst nl z (l.map auA)), some (.int .i64 x.id), some (.int .i64 day), none, none, none, none, some (.str s), some (.bool (sufB s || anyO l x day a.1)), some (.int .i64 a.1), none, none, none, none, none, none, a.2, none, none]) (fun _ => [.var 51 x.cells])
    (fun a => a.1 ≤ l.length) ?_ (0, none) (Nat.zero_le _) (by simp [anyO]) rfl
  rintro ⟨i, o1⟩ hi
  simp only at hi ⊢
  by_cases h1 : i < l.length
  · have hz6 : z = 6 := hz (by intro h; rw [h] at h1; simp at h1)
    subst hz6
    have hg := get_aus l h1
    have hP := hP i h1
    have hst : anyO l x day (i + 1) = (anyO l x day i || (l[i].id != x.id && (plainR l l[i] day).1 == s)) := by
      unfold anyO
      rw [List.take_add_one, List.getElem?_eq_getElem h1, List.any_append]
      simp [hoth]
    generalize anyO l x day i = A at *
    generalize (plainR l l[i] day).1 = t at *
    generalize l[i] = y at *
    simp only [auA, Au.cells] at hP
    cases hA : sufB s || A with
    | true =>
      simp (config := { maxSteps := 1000000 }) (disch := omega) [-List.map_replicate, -List.map_set, -List.getD_eq_getElem?_getD, -getElem?_pos, -getElem?_neg, om, h1, hg, auA, Au.cells, splice]
      refine ⟨i + 1, by omega, by omega, ?_, by simp⟩
      rw [hst]
      rcases Bool.or_eq_true_iff.1 hA with h | h
      · exact .inl h
      · exact .inr (by rw [h, Bool.true_or])
    | false =>
      rw [Bool.or_eq_false_iff] at hA
      obtain ⟨a1, a2⟩ := hA
      by_cases h2 : y.id = x.id
      · have h3 : (y.id != x.id) = false := by simpa using h2
        rw [h3] at hst
        simp (config := { maxSteps := 1000000 }) (disch := omega) [-List.map_replicate, -List.map_set, -List.getD_eq_getElem?_getD, -getElem?_pos, -getElem?_neg, om, h1, hg, auA, Au.cells, splice, h3]
        refine ⟨i + 1, by omega, by omega, ?_, by simp⟩
        rw [hst, a1, a2]
        exact ⟨rfl, rfl⟩
      · have h3 : (y.id != x.id) = true := by simpa using h2
        rw [h3] at hst
        simp (config := { maxSteps := 1000000 }) (disch := omega) [-List.map_replicate, -List.map_set, -List.getD_eq_getElem?_getD, -getElem?_pos, -getElem?_neg, om, h1, hg, auA, Au.cells, splice, h3, hP, hpl, plain_nmA, plain_intA]
        refine ⟨i + 1, by omega, by omega, ?_, by simp⟩
        rw [hst, a1, a2]
        simp
  · have hlen : i = l.length := by omega
    subst hlen
    have hfin : (sufB s || anyO l x day l.length) = mb := by unfold anyO; rw [List.take_length]; exact hmo
    rw [hfin]
    cases mb with
    | true => simp (config := { maxSteps := 1000000 }) (disch := omega) [-List.map_replicate, -List.map_set, -List.getD_eq_getElem?_getD, -getElem?_pos, -getElem?_neg, om, h1, hD]
    | false => simp (config := { maxSteps := 1000000 }) (disch := omega) [-List.map_replicate, -List.map_set, -List.getD_eq_getElem?_getD, -getElem?_pos, -getElem?_neg, om, h1]
end Go.Proofs.YtlolhkjjbgpfbaaGreatDoor
