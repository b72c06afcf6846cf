/-
  The headings of a day, before they are sorted.
-/
import Derived.Test.YtlolhkjjbgpfbaaGreatDoorHdM
set_option linter.all false
namespace Go.Proofs.YtlolhkjjbgpfbaaGreatDoor
open Go.Am
set_option maxRecDepth 10000
set_option maxHeartbeats 8000000
theorem ansHd0 (nl : Option Bool) (z : Nat) (l : List Au) (hz : l ≠ [] → z = 6) (hok : ∀ x ∈ l, x.ok) (hll : l.length ≤ 64) (day : Int) :
    ansF cfg 62 [auL nl z l, .int .i64 day] [] =
      some (.osl 1 (hdGo l day l).length, [.mp ((mOf (hdGo l day l)).1.map ctA) (mOf (hdGo l day l)).2, .sl ⟨false, some 46⟩ 2 (((hdGo l day l).map (hdF (mOf (hdGo l day l)).1)).map hdA)]) := by
  have hpl := plain_auA l
  refine ans_of_wp fn62 low62 ?_
  unfold auL
  simp (config := { maxSteps := 1000000 }) (disch := omega) [-List.map_replicate, -List.map_set, -List.getD_eq_getElem?_getD, -getElem?_pos, -getElem?_neg, om, ir62, makeMapA]
  refine Wp.loopM (fun (i : Nat) => l.length - i) (fun i => [some (.lst nl z (l.map auA)), some (.int .i64 day), none, some (.osl 1 (hdGo l day (l.take i)).length), some (.mapv 0), none, none, none, none, none, none, some (.lst nl z (l.map auA)), some (.int .i64 l.length), some (.int .i64 i), none, none, none, none, none, none, none, none, none, none, none, none, none, none, none, none, none, none])
    (fun i => [.mp ((mOf (hdGo l day (l.take i))).1.map ctA) (mOf (hdGo l day (l.take i))).2, .sl ⟨false, some 46⟩ 2 ((hdGo l day (l.take i)).map hdA)]) (fun i => i ≤ l.length) ?_ 0 (Nat.zero_le _) (by simp [hdGo]) (by simp [hdGo, mOf])
  intro i hi
  by_cases h1 : i < l.length
  · have hz6 : z = 6 := hz (by intro h; rw [h] at h1; simp at h1)
    subst hz6
    have hg : l[i]? = some l[i] := List.getElem?_eq_getElem h1
    have hP := ansPlain nl 6 l hz hok l[i] day
    have htk : hdGo l day (l.take (i + 1)) = hdGo l day (l.take i) ++ hdGo l day [l[i]] := by
      rw [← hdGo_app, List.take_add_one, hg]; rfl
    have hln : (hdGo l day (l.take i)).length ≤ i := by have := hdGo_len l day (l.take i); rw [List.length_take] at this; omega
    generalize hdGo l day (l.take i) = H at *
    generalize l[i] = x at *
    have hHl : (H.map hdA).length = H.length := by simp
    have hone : hdGo l day [x] = if (plainR l x day).2 = 0 then [((plainR l x day).1, x.id)] else [] := by simp only [hdGo]
    rw [hone] at htk
    clear hone
    generalize plainR l x day = q at *
    obtain ⟨s, e⟩ := q
    simp only at htk hP
    unfold auA Au.cells auL at hP
    by_cases h2 : e = 0
    · subst h2
      rw [if_pos rfl] at htk
      have hm := mOf_app H (s, x.id)
      have hfa := findA_ct s (mOf H).1 0
      have hsp := findM_spec s (mOf H).1 0
      simp only [mStep, addM, addC] at hm
      have hcb := fun j e (hf : findM s (mOf H).1 0 = some (j, e)) => cnt_bound H hf
      generalize mOf H = M at *
      obtain ⟨m, ck⟩ := M
      simp only at hm hfa hsp hcb ⊢
      cases hf : findM s m 0 with
      | none =>
        rw [hf] at hm hfa
        simp only [Option.map_none] at hm hfa
        simp (config := { maxSteps := 1000000 }) (disch := omega) [-List.map_replicate, -List.map_set, -List.getD_eq_getElem?_getD, -getElem?_pos, -getElem?_neg, om, h1, hg, auA, Au.cells, hP, hpl, splice, plain_nmA, plain_intA, lookupA, mapUpdateA, entriesA, foundA, zeroA, keyFine, keyAV, cellAV, hfa, hHl, -eqRec]
        exact ⟨i + 1, by omega, by omega, by rw [htk, hm]; exact ⟨⟨by simp, by simp⟩, ⟨by simp [ctA], rfl⟩, by simp [hdA]⟩⟩
      | some p =>
        obtain ⟨j, w, n, bn⟩ := p
        rw [hf] at hm hfa
        obtain ⟨hj1, hj2, hj3⟩ := hsp _ _ hf
        simp only [Option.map_some, ctA] at hm hfa hj3
        subst hj3
        have hcb := hcb _ _ hf
        simp only at hcb
        simp (config := { maxSteps := 1000000 }) (disch := omega) [-List.map_replicate, -List.map_set, -List.getD_eq_getElem?_getD, -getElem?_pos, -getElem?_neg, om, h1, hg, auA, Au.cells, hP, hpl, splice, plain_nmA, plain_intA, lookupA, mapUpdateA, entriesA, foundA, zeroA, keyFine, keyAV, cellAV, hfa, hHl, sameKey, sameCell, -eqRec]
        exact ⟨i + 1, by omega, by omega, by rw [htk, hm]; exact ⟨⟨by simp, by simp⟩, ⟨by simp [ctA], rfl⟩, by simp [hdA]⟩⟩
    · have h3 : (e == 0) = false := by simpa using h2
      rw [if_neg h2, List.append_nil] at htk
      simp (config := { maxSteps := 1000000 }) (disch := omega) [-List.map_replicate, -List.map_set, -List.getD_eq_getElem?_getD, -getElem?_pos, -getElem?_neg, om, h1, hg, auA, Au.cells, hP, hpl, splice, plain_nmA, plain_intA, h3]
      exact ⟨i + 1, by omega, by omega, by rw [htk]; exact ⟨⟨rfl, by simp⟩, ⟨rfl, rfl⟩, rfl⟩⟩
  · obtain rfl : i = l.length := by omega
    rw [List.take_length] at *
    have hmem := hd_mem (l := l) (day := day) (a := l) (fun x h => h)
    have hHl := hdGo_len l day l
    have hcb := fun s j e (hf : findM s (mOf (hdGo l day l)).1 0 = some (j, e)) => cnt_bound (hdGo l day l) hf
    generalize hdGo l day l = H at *
    generalize mOf H = M at *
    obtain ⟨m, ck⟩ := M
    simp only at hcb ⊢
    have hE0 : H.map hdA = hdE m H 0 := by simp [hdE]
    have hEe : (H.map (hdF m)).map hdA = hdE m H H.length := by simp [hdE]
    have hl0 : (H.map hdA).length = H.length := by simp
    have hEc : List.map (hdA ∘ hdF m) H = hdE m H H.length := by rw [← hEe, List.map_map]
    simp (config := { maxSteps := 1000000 }) (disch := omega) [-List.map_replicate, -List.map_set, -List.getD_eq_getElem?_getD, -getElem?_pos, -getElem?_neg, om, h1, hl0]
    rw [hE0]
    refine Wp.loopM (fun (k : Nat × Option AV) => H.length - k.1) (fun k => [none, none, none, some (.osl 1 H.length), some (.mapv 0), none, none, none, none, none, none, none, none, none, none, none, none, none, none, none, none, none, some (.osl 1 H.length), some (.int .i64 H.length), some (.int .i64 k.1), none, none, none, k.2, none, none, none])
      (fun k => [.mp (m.map ctA) ck, .sl ⟨false, some 46⟩ 2 (hdE m H k.1)]) (fun k => k.1 ≤ H.length) ?_ (0, none) (Nat.zero_le _) (by simp) rfl
    rintro ⟨k, o⟩ hk
    simp only at hk ⊢
    have hEl := hdE_len m H k
    by_cases h2 : k < H.length
    · have hgk := hdE_get m H h2
      have hst := hdE_set m H h2
      have hsm := hdE_same m H h2
      obtain ⟨b1, b2, b3⟩ := hmem _ (List.getElem_mem h2)
      have hfa := findA_ct H[k].1 m 0
      have hsf := ansSuffix H[k].1 (by omega)
      generalize H[k] = h at *
      obtain ⟨s, id⟩ := h
      have hcs := hcb s
      simp only at b1 b2 b3 hfa hsf
      have hT1 : 1 < cntM m s ∨ sufB s = true → hdT m (s, id) = s ++ [32, 40] ++ Lib.itoa id ++ [41] := fun h => if_pos h
      have hT0 : ¬ (1 < cntM m s ∨ sufB s = true) → hdT m (s, id) = s := fun h => if_neg h
      simp only [hdF] at hst hsm
      simp only [hdA] at hgk hst
      generalize hdE m H k = E at *
      generalize hE2 : hdE m H (k + 1) = E2 at *
      clear hpl hEe hEc hE0 hl0
      have hst : hdT m (s, id) = s ++ [32, 40] ++ Lib.itoa id ++ [41] → E.set k (.agg [.str (s ++ 32 :: 40 :: (Lib.itoa id ++ [41])), .int .i64 id]) = E2 := fun h => by
        rw [h] at hst
        rw [← hst]
        simp
      have hsm : hdT m (s, id) = s → E = E2 := fun h => hsm (by rw [h])
      have hid1 : -9223372036854775808 ≤ id := by omega
      have hid2 : id ≤ 9223372036854775807 := by omega
      have hil := Lib.itoa_length_le id hid1 hid2
      cases hf : findM s m 0 with
      | none =>
        rw [hf] at hfa
        simp only [Option.map_none] at hfa
        have hc0 : cntM m s = 0 := by unfold cntM; rw [hf]
        cases h3 : sufB s with
        | true =>
          rw [h3] at hsf
          have hst := hst (hT1 (.inr h3))
          simp (config := { maxSteps := 1000000 }) (disch := omega) [-List.map_replicate, -List.map_set, -List.getD_eq_getElem?_getD, -getElem?_pos, -getElem?_neg, om, h2, hEl, hgk, splice, lookupA, entriesA, foundA, zeroA, keyFine, hfa, hsf, hst, itoaG, hid1, hid2, -eqRec]
          exact ⟨k + 1, by omega, by omega, by simp, hE2.symm⟩
        | false =>
          rw [h3] at hsf
          have hsm := hsm (hT0 (by rw [hc0, h3]; simp))
          simp (config := { maxSteps := 1000000 }) (disch := omega) [-List.map_replicate, -List.map_set, -List.getD_eq_getElem?_getD, -getElem?_pos, -getElem?_neg, om, h2, hEl, hgk, splice, lookupA, entriesA, foundA, zeroA, keyFine, hfa, hsf, itoaG, -eqRec]
          exact ⟨k + 1, by omega, by omega, by simp, by rw [hsm, hE2]⟩
      | some p =>
        obtain ⟨j, w, n, bn⟩ := p
        have hn := hcs _ _ hf
        simp only at hn
        have hc0 : cntM m s = n := by unfold cntM; rw [hf]
        rw [hf] at hfa
        simp only [Option.map_some, ctA] at hfa
        by_cases h4 : 1 < n
        · have hst := hst (hT1 (.inl (by rw [hc0]; exact h4)))
          simp (config := { maxSteps := 1000000 }) (disch := omega) [-List.map_replicate, -List.map_set, -List.getD_eq_getElem?_getD, -getElem?_pos, -getElem?_neg, om, h2, hEl, hgk, splice, lookupA, entriesA, foundA, zeroA, keyFine, hfa, hst, itoaG, h4, hid1, hid2, -eqRec]
          exact ⟨k + 1, by omega, by omega, by simp, hE2.symm⟩
        cases h3 : sufB s with
        | true =>
          rw [h3] at hsf
          have hst := hst (hT1 (.inr h3))
          simp (config := { maxSteps := 1000000 }) (disch := omega) [-List.map_replicate, -List.map_set, -List.getD_eq_getElem?_getD, -getElem?_pos, -getElem?_neg, om, h2, hEl, hgk, splice, lookupA, entriesA, foundA, zeroA, keyFine, hfa, hsf, hst, itoaG, h4, hid1, hid2, -eqRec]
          exact ⟨k + 1, by omega, by omega, by simp, hE2.symm⟩
        | false =>
          rw [h3] at hsf
          have hsm := hsm (hT0 (by rw [hc0, h3]; simpa using h4))
          simp (config := { maxSteps := 1000000 }) (disch := omega) [-List.map_replicate, -List.map_set, -List.getD_eq_getElem?_getD, -getElem?_pos, -getElem?_neg, om, h2, hEl, hgk, splice, lookupA, entriesA, foundA, zeroA, keyFine, hfa, hsf, itoaG, h4, -eqRec]
          exact ⟨k + 1, by omega, by omega, by simp, by rw [hsm, hE2]⟩
    · obtain rfl : k = H.length := by omega
      simp (config := { maxSteps := 1000000 }) (disch := omega) [-List.map_replicate, -List.map_set, -List.getD_eq_getElem?_getD, -getElem?_pos, -getElem?_neg, om, h2, hEl, hEc]
theorem ansHd1 (nl : Option Bool) (z : Nat) (l : List Au) (hz : l ≠ [] → z = 6) (hok : ∀ x ∈ l, x.ok) (hll : l.length ≤ 64) (day : Int) (kv : Int) :
    ansF cfg 62 [auL nl z l, .int .i64 day] [.var 3 [.int .i64 kv]] =
      some (.osl 2 (hdGo l day l).length, [.var 3 [.int .i64 kv], .mp ((mOf (hdGo l day l)).1.map ctA) (mOf (hdGo l day l)).2, .sl ⟨false, some 46⟩ 2 (((hdGo l day l).map (hdF (mOf (hdGo l day l)).1)).map hdA)]) := by
  have hpl := plain_auA l
  refine ans_of_wp fn62 low62 ?_
  unfold auL
  simp (config := { maxSteps := 1000000 }) (disch := omega) [-List.map_replicate, -List.map_set, -List.getD_eq_getElem?_getD, -getElem?_pos, -getElem?_neg, om, ir62, makeMapA]
  refine Wp.loopM (fun (i : Nat) => l.length - i) (fun i => [some (.lst nl z (l.map auA)), some (.int .i64 day), none, some (.osl 2 (hdGo l day (l.take i)).length), some (.mapv 1), none, none, none, none, none, none, some (.lst nl z (l.map auA)), some (.int .i64 l.length), some (.int .i64 i), none, none, none, none, none, none, none, none, none, none, none, none, none, none, none, none, none, none])
    (fun i => [.var 3 [.int .i64 kv], .mp ((mOf (hdGo l day (l.take i))).1.map ctA) (mOf (hdGo l day (l.take i))).2, .sl ⟨false, some 46⟩ 2 ((hdGo l day (l.take i)).map hdA)]) (fun i => i ≤ l.length) ?_ 0 (Nat.zero_le _) (by simp [hdGo]) (by simp [hdGo, mOf])
  intro i hi
  by_cases h1 : i < l.length
  · have hz6 : z = 6 := hz (by intro h; rw [h] at h1; simp at h1)
    subst hz6
    have hg : l[i]? = some l[i] := List.getElem?_eq_getElem h1
    have hP := ansPlain nl 6 l hz hok l[i] day
    have htk : hdGo l day (l.take (i + 1)) = hdGo l day (l.take i) ++ hdGo l day [l[i]] := by
      rw [← hdGo_app, List.take_add_one, hg]; rfl
    have hln : (hdGo l day (l.take i)).length ≤ i := by have := hdGo_len l day (l.take i); rw [List.length_take] at this; omega
    generalize hdGo l day (l.take i) = H at *
    generalize l[i] = x at *
    have hHl : (H.map hdA).length = H.length := by simp
    have hone : hdGo l day [x] = if (plainR l x day).2 = 0 then [((plainR l x day).1, x.id)] else [] := by simp only [hdGo]
    rw [hone] at htk
    clear hone
    generalize plainR l x day = q at *
    obtain ⟨s, e⟩ := q
    simp only at htk hP
    unfold auA Au.cells auL at hP
    by_cases h2 : e = 0
    · subst h2
      rw [if_pos rfl] at htk
      have hm := mOf_app H (s, x.id)
      have hfa := findA_ct s (mOf H).1 0
      have hsp := findM_spec s (mOf H).1 0
      simp only [mStep, addM, addC] at hm
      have hcb := fun j e (hf : findM s (mOf H).1 0 = some (j, e)) => cnt_bound H hf
      generalize mOf H = M at *
      obtain ⟨m, ck⟩ := M
      simp only at hm hfa hsp hcb ⊢
      cases hf : findM s m 0 with
      | none =>
        rw [hf] at hm hfa
        simp only [Option.map_none] at hm hfa
        simp (config := { maxSteps := 1000000 }) (disch := omega) [-List.map_replicate, -List.map_set, -List.getD_eq_getElem?_getD, -getElem?_pos, -getElem?_neg, om, h1, hg, auA, Au.cells, hP, hpl, splice, plain_nmA, plain_intA, lookupA, mapUpdateA, entriesA, foundA, zeroA, keyFine, keyAV, cellAV, hfa, hHl, -eqRec]
        exact ⟨i + 1, by omega, by omega, by rw [htk, hm]; exact ⟨⟨by simp, by simp⟩, ⟨by simp [ctA], rfl⟩, by simp [hdA]⟩⟩
      | some p =>
        obtain ⟨j, w, n, bn⟩ := p
        rw [hf] at hm hfa
        obtain ⟨hj1, hj2, hj3⟩ := hsp _ _ hf
        simp only [Option.map_some, ctA] at hm hfa hj3
        subst hj3
        have hcb := hcb _ _ hf
        simp only at hcb
        simp (config := { maxSteps := 1000000 }) (disch := omega) [-List.map_replicate, -List.map_set, -List.getD_eq_getElem?_getD, -getElem?_pos, -getElem?_neg, om, h1, hg, auA, Au.cells, hP, hpl, splice, plain_nmA, plain_intA, lookupA, mapUpdateA, entriesA, foundA, zeroA, keyFine, keyAV, cellAV, hfa, hHl, sameKey, sameCell, -eqRec]
        exact ⟨i + 1, by omega, by omega, by rw [htk, hm]; exact ⟨⟨by simp, by simp⟩, ⟨by simp [ctA], rfl⟩, by simp [hdA]⟩⟩
    · have h3 : (e == 0) = false := by simpa using h2
      rw [if_neg h2, List.append_nil] at htk
      simp (config := { maxSteps := 1000000 }) (disch := omega) [-List.map_replicate, -List.map_set, -List.getD_eq_getElem?_getD, -getElem?_pos, -getElem?_neg, om, h1, hg, auA, Au.cells, hP, hpl, splice, plain_nmA, plain_intA, h3]
      exact ⟨i + 1, by omega, by omega, by rw [htk]; exact ⟨⟨rfl, by simp⟩, ⟨rfl, rfl⟩, rfl⟩⟩
  · obtain rfl : i = l.length := by omega
    rw [List.take_length] at *
    have hmem := hd_mem (l := l) (day := day) (a := l) (fun x h => h)
    have hHl := hdGo_len l day l
    have hcb := fun s j e (hf : findM s (mOf (hdGo l day l)).1 0 = some (j, e)) => cnt_bound (hdGo l day l) hf
    generalize hdGo l day l = H at *
    generalize mOf H = M at *
    obtain ⟨m, ck⟩ := M
    simp only at hcb ⊢
    have hE0 : H.map hdA = hdE m H 0 := by simp [hdE]
    have hEe : (H.map (hdF m)).map hdA = hdE m H H.length := by simp [hdE]
    have hl0 : (H.map hdA).length = H.length := by simp
    have hEc : List.map (hdA ∘ hdF m) H = hdE m H H.length := by rw [← hEe, List.map_map]
    simp (config := { maxSteps := 1000000 }) (disch := omega) [-List.map_replicate, -List.map_set, -List.getD_eq_getElem?_getD, -getElem?_pos, -getElem?_neg, om, h1, hl0]
    rw [hE0]
    refine Wp.loopM (fun (k : Nat × Option AV) => H.length - k.1) (fun k => [none, none, none, some (.osl 2 H.length), some (.mapv 1), none, none, none, none, none, none, none, none, none, none, none, none, none, none, none, none, none, some (.osl 2 H.length), some (.int .i64 H.length), some (.int .i64 k.1), none, none, none, k.2, none, none, none])
      (fun k => [.var 3 [.int .i64 kv], .mp (m.map ctA) ck, .sl ⟨false, some 46⟩ 2 (hdE m H k.1)]) (fun k => k.1 ≤ H.length) ?_ (0, none) (Nat.zero_le _) (by simp) rfl
    rintro ⟨k, o⟩ hk
    simp only at hk ⊢
    have hEl := hdE_len m H k
    by_cases h2 : k < H.length
    · have hgk := hdE_get m H h2
      have hst := hdE_set m H h2
      have hsm := hdE_same m H h2
      obtain ⟨b1, b2, b3⟩ := hmem _ (List.getElem_mem h2)
      have hfa := findA_ct H[k].1 m 0
      have hsf := ansSuffix H[k].1 (by omega)
      generalize H[k] = h at *
      obtain ⟨s, id⟩ := h
      have hcs := hcb s
      simp only at b1 b2 b3 hfa hsf
      have hT1 : 1 < cntM m s ∨ sufB s = true → hdT m (s, id) = s ++ [32, 40] ++ Lib.itoa id ++ [41] := fun h => if_pos h
      have hT0 : ¬ (1 < cntM m s ∨ sufB s = true) → hdT m (s, id) = s := fun h => if_neg h
      simp only [hdF] at hst hsm
      simp only [hdA] at hgk hst
      generalize hdE m H k = E at *
      generalize hE2 : hdE m H (k + 1) = E2 at *
      clear hpl hEe hEc hE0 hl0
      have hst : hdT m (s, id) = s ++ [32, 40] ++ Lib.itoa id ++ [41] → E.set k (.agg [.str (s ++ 32 :: 40 :: (Lib.itoa id ++ [41])), .int .i64 id]) = E2 := fun h => by
        rw [h] at hst
        rw [← hst]
        simp
      have hsm : hdT m (s, id) = s → E = E2 := fun h => hsm (by rw [h])
      have hid1 : -9223372036854775808 ≤ id := by omega
      have hid2 : id ≤ 9223372036854775807 := by omega
      have hil := Lib.itoa_length_le id hid1 hid2
      cases hf : findM s m 0 with
      | none =>
        rw [hf] at hfa
        simp only [Option.map_none] at hfa
        have hc0 : cntM m s = 0 := by unfold cntM; rw [hf]
        cases h3 : sufB s with
        | true =>
          rw [h3] at hsf
          have hst := hst (hT1 (.inr h3))
          simp (config := { maxSteps := 1000000 }) (disch := omega) [-List.map_replicate, -List.map_set, -List.getD_eq_getElem?_getD, -getElem?_pos, -getElem?_neg, om, h2, hEl, hgk, splice, lookupA, entriesA, foundA, zeroA, keyFine, hfa, hsf, hst, itoaG, hid1, hid2, -eqRec]
          exact ⟨k + 1, by omega, by omega, by simp, hE2.symm⟩
        | false =>
          rw [h3] at hsf
          have hsm := hsm (hT0 (by rw [hc0, h3]; simp))
          simp (config := { maxSteps := 1000000 }) (disch := omega) [-List.map_replicate, -List.map_set, -List.getD_eq_getElem?_getD, -getElem?_pos, -getElem?_neg, om, h2, hEl, hgk, splice, lookupA, entriesA, foundA, zeroA, keyFine, hfa, hsf, itoaG, -eqRec]
          exact ⟨k + 1, by omega, by omega, by simp, by rw [hsm, hE2]⟩
      | some p =>
        obtain ⟨j, w, n, bn⟩ := p
        have hn := hcs _ _ hf
        simp only at hn
        have hc0 : cntM m s = n := by unfold cntM; rw [hf]
        rw [hf] at hfa
        simp only [Option.map_some, ctA] at hfa
        by_cases h4 : 1 < n
        · have hst := hst (hT1 (.inl (by rw [hc0]; exact h4)))
          simp (config := { maxSteps := 1000000 }) (disch := omega) [-List.map_replicate, -List.map_set, -List.getD_eq_getElem?_getD, -getElem?_pos, -getElem?_neg, om, h2, hEl, hgk, splice, lookupA, entriesA, foundA, zeroA, keyFine, hfa, hst, itoaG, h4, hid1, hid2, -eqRec]
          exact ⟨k + 1, by omega, by omega, by simp, hE2.symm⟩
        cases h3 : sufB s with
        | true =>
          rw [h3] at hsf
          have hst := hst (hT1 (.inr h3))
          simp (config := { maxSteps := 1000000 }) (disch := omega) [-List.map_replicate, -List.map_set, -List.getD_eq_getElem?_getD, -getElem?_pos, -getElem?_neg, om, h2, hEl, hgk, splice, lookupA, entriesA, foundA, zeroA, keyFine, hfa, hsf, hst, itoaG, h4, hid1, hid2, -eqRec]
          exact ⟨k + 1, by omega, by omega, by simp, hE2.symm⟩
        | false =>
          rw [h3] at hsf
          have hsm := hsm (hT0 (by rw [hc0, h3]; simpa using h4))
          simp (config := { maxSteps := 1000000 }) (disch := omega) [-List.map_replicate, -List.map_set, -List.getD_eq_getElem?_getD, -getElem?_pos, -getElem?_neg, om, h2, hEl, hgk, splice, lookupA, entriesA, foundA, zeroA, keyFine, hfa, hsf, itoaG, h4, -eqRec]
          exact ⟨k + 1, by omega, by omega, by simp, by rw [hsm, hE2]⟩
    · obtain rfl : k = H.length := by omega
      simp (config := { maxSteps := 1000000 }) (disch := omega) [-List.map_replicate, -List.map_set, -List.getD_eq_getElem?_getD, -getElem?_pos, -getElem?_neg, om, h2, hEl, hEc]
end Go.Proofs.YtlolhkjjbgpfbaaGreatDoor
