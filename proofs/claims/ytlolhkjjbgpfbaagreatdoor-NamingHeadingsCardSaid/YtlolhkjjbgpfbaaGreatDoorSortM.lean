/-
  Sorting of headings: the insertion sort of short lists.
-/
import Derived.Test.YtlolhkjjbgpfbaaGreatDoorHdM
set_option linter.all false
namespace Go.Proofs.YtlolhkjjbgpfbaaGreatDoor
open Go.Am
set_option maxRecDepth 10000
set_option maxHeartbeats 4000000
abbrev Hd1 := Str × Int
def cmpI (a b : Int) : Int := if a < b then -1 else if a = b then 0 else 1
def cmpH (a b : Hd1) : Int := orI (cmpS a.1 b.1) (cmpI a.2 b.2)
theorem ansCmpH (a b : Hd1) (ha : a.1.length < 900000) (hb : b.1.length < 900000) : ansF cfg 71 [hdA a, hdA b] [] = some (.int .i64 (cmpH a b), []) := by
  have h1 := ansCompare a.1 b.1 ha hb
  have h2 := ansCmpI a.2 b.2
  have h3 := ansOr none (cmpS a.1 b.1) (cmpI a.2 b.2)
  refine ans_of_wp fn71 low71 ?_
  unfold cmpH
  rw [show (if a.2 < b.2 then -1 else if a.2 = b.2 then 0 else 1 : Int) = cmpI a.2 b.2 from rfl] at h2
  generalize cmpI a.2 b.2 = y at *
  generalize cmpS a.1 b.1 = x at *
  unfold hdA
  simp (config := { maxSteps := 1000000 }) (disch := omega) [-List.map_replicate, -List.map_set, -List.getD_eq_getElem?_getD, -getElem?_pos, -getElem?_neg, om, ir71, h1, h2, h3]
def stopJ (x : Hd1) (P : List Hd1) : Nat → Nat
  | 0 => 0
  | j + 1 => match P[j]? with | some y => if cmpH x y < 0 then stopJ x P j else j + 1 | none => j + 1
def putJ (x : Hd1) (P : List Hd1) (j : Nat) : List Hd1 := P.take j ++ x :: P.drop j
def insS (P : List Hd1) (x : Hd1) : List Hd1 := putJ x P (stopJ x P P.length)
def sortS (L : List Hd1) : List Hd1 := L.foldl insS []
theorem putJ_len (x : Hd1) (P : List Hd1) (j : Nat) : (putJ x P j).length = P.length + 1 := by simp [putJ]; omega
theorem putJ_get (x : Hd1) (P : List Hd1) {j : Nat} (h : j ≤ P.length) : (putJ x P j)[j]? = some x := by
  have hl : (P.take j).length = j := by simp; omega
  unfold putJ
  rw [List.getElem?_append_right (by omega), hl, Nat.sub_self]
  rfl
theorem putJ_prev (x : Hd1) (P : List Hd1) {j : Nat} (h : j < P.length) : (putJ x P (j + 1))[j]? = some P[j] := by
  unfold putJ
  rw [List.getElem?_append_left (by simp; omega), List.getElem?_take, if_pos (by omega), List.getElem?_eq_getElem h]
theorem putJ_swap (x : Hd1) (P : List Hd1) {j : Nat} (h : j < P.length) : ((putJ x P (j + 1)).set (j + 1) P[j]).set j x = putJ x P j := by
  have hl : (P.take j).length = j := by simp; omega
  have ht : P.take (j + 1) = P.take j ++ [P[j]] := by rw [List.take_add_one, List.getElem?_eq_getElem h]; rfl
  unfold putJ
  rw [ht, List.append_assoc, List.set_append_right _ _ (by omega), hl, List.set_append_right _ _ (by omega), hl, Nat.sub_self]
  rw [show j + 1 - j = 1 by omega]
  rw [List.drop_eq_getElem_cons h]
  simp
theorem insS_len (P : List Hd1) (x : Hd1) : (insS P x).length = P.length + 1 := putJ_len _ _ _
theorem insS_mem {P : List Hd1} {x y : Hd1} (h : y ∈ insS P x) : y = x ∨ y ∈ P := by
  unfold insS putJ at h
  rcases List.mem_append.1 h with h | h
  · exact .inr (List.mem_of_mem_take h)
  · rcases List.mem_cons.1 h with h | h
    · exact .inl h
    · exact .inr (List.mem_of_mem_drop h)
theorem sortS_app (L : List Hd1) (x : Hd1) : sortS (L ++ [x]) = insS (sortS L) x := by simp [sortS, List.foldl_append]
theorem sortS_len : ∀ L : List Hd1, (sortS L).length = L.length := by
  have : ∀ (L P : List Hd1), (L.foldl insS P).length = P.length + L.length := fun L => by
    induction L with
    | nil => intro P; rfl
    | cons x r ih => intro P; rw [List.foldl_cons, ih, insS_len]; simp; omega
  intro L
  have := this L []
  simpa [sortS] using this
theorem sortS_mem {L : List Hd1} {y : Hd1} (h : y ∈ sortS L) : y ∈ L := by
  have : ∀ (L P : List Hd1), y ∈ L.foldl insS P → y ∈ L ∨ y ∈ P := fun L => by
    induction L with
    | nil => intro P h; exact .inr h
    | cons x r ih =>
      intro P h
      rcases ih _ h with h | h
      · exact .inl (.tail _ h)
      · rcases insS_mem h with rfl | h
        · exact .inl (.head _)
        · exact .inr h
  rcases this L [] h with h | h
  · exact h
  · simp at h
def srtB (M : Box) (L : List Hd1) : List Box := [M, .sl ⟨false, some 46⟩ 2 (L.map hdA), .dead]
theorem ansInsert (es : List (AV × AV × Nat)) (ck : Nat) (L : List Hd1) (hL : L.length ≤ 12) (hb : ∀ h ∈ L, h.1.length < 900000) :
    ansF cfg 143 [.osl 1 L.length, .int .i64 0, .int .i64 L.length, .fn 71 [] []] (srtB (.mp es ck) L) = some (.tup [], srtB (.mp es ck) (sortS L)) := by
  refine ans_of_wp fn143 low143 ?_
  simp (config := { maxSteps := 1000000 }) (disch := omega) [-List.map_replicate, -List.map_set, -List.getD_eq_getElem?_getD, -getElem?_pos, -getElem?_neg, om, ir143]
  refine Wp.loopM (fun (i : Nat × Option AV × Option AV) => L.length + 1 - i.1) (fun i => [some (.osl 1 L.length), some (.int .i64 0), some (.int .i64 L.length), some (.fn 71 [] []), some (.int .i64 i.1), none, none, i.2.1, none, none])
    (fun i => srtB (.mp es ck) (sortS (L.take i.1) ++ L.drop i.1)) (fun i => 1 ≤ i.1 ∧ (i.1 ≤ L.length ∨ i.1 = 1)) ?_ (1, none, none) ⟨Nat.le_refl _, .inr rfl⟩ (by simp) ?_
  case refine_2 =>
    congr 1
    match L with
    | [] => rfl
    | x :: r => simp [sortS, insS, putJ, stopJ]
  rintro ⟨i, o, o2⟩ ⟨hi1, hi2⟩
  simp only at hi1 hi2 ⊢
  by_cases h1 : i < L.length
  · have hx : L[i]? = some L[i] := List.getElem?_eq_getElem h1
    have hdr : L.drop i = L[i] :: L.drop (i + 1) := List.drop_eq_getElem_cons h1
    have hS : sortS (L.take (i + 1)) = insS (sortS (L.take i)) L[i] := by rw [List.take_add_one, hx]; exact sortS_app _ _
    have hPl : (sortS (L.take i)).length = i := by rw [sortS_len, List.length_take]; omega
    have hPb : ∀ h ∈ sortS (L.take i), h.1.length < 900000 := fun h hh => hb h (List.mem_of_mem_take (sortS_mem hh))
    have hxb := hb _ (List.getElem_mem h1)
    rw [hdr]
    generalize L[i] = x at *
    generalize sortS (L.take i) = P at *
    have hstart : P ++ x :: L.drop (i + 1) = putJ x P P.length ++ L.drop (i + 1) := by simp [putJ]
    rw [hstart]
    have hdl : (L.drop (i + 1)).length = L.length - (i + 1) := by simp
    generalize hR : L.drop (i + 1) = R at *
    unfold srtB
    simp (config := { maxSteps := 1000000 }) (disch := omega) [-List.map_replicate, -List.map_set, -List.getD_eq_getElem?_getD, -getElem?_pos, -getElem?_neg, om, h1]
    refine Wp.loopM (fun (j : Nat × Option AV) => j.1) (fun j => [some (.osl 1 L.length), some (.int .i64 0), some (.int .i64 L.length), some (.fn 71 [] []), some (.int .i64 i), some (.int .i64 j.1), none, j.2, none, none])
      (fun j => [.mp es ck, .sl ⟨false, some 46⟩ 2 ((putJ x P j.1 ++ R).map hdA), .dead]) (fun j => j.1 ≤ P.length ∧ stopJ x P P.length = stopJ x P j.1) ?_ (P.length, o) ⟨Nat.le_refl _, rfl⟩ ?_ (by simp)
    · rintro ⟨j, o3⟩ ⟨hj, hst⟩
      simp only at hj hst ⊢
      have hEl : ((putJ x P j ++ R).map hdA).length = L.length := by rw [List.length_map, List.length_append, putJ_len, hdl]; omega
      have hg0 : ((putJ x P j ++ R).map hdA)[j]? = some (hdA x) := by
        rw [List.getElem?_map, List.getElem?_append_left (by rw [putJ_len]; omega), putJ_get x P hj]; rfl
      rw [hst]
      have hins : insS P x = putJ x P (stopJ x P j) := by unfold insS; rw [hst]
      cases j with
      | zero =>
        have hz : stopJ x P 0 = 0 := rfl
        rw [hz] at hins
        simp (config := { maxSteps := 1000000 }) (disch := omega) [-List.map_replicate, -List.map_set, -List.getD_eq_getElem?_getD, -getElem?_pos, -getElem?_neg, om]
        exact ⟨i + 1, ⟨by omega, .inl (by omega)⟩, by omega, by simp, by rw [hS, hins, ← List.map_drop, hR]⟩
      | succ j =>
        have hjl : j < P.length := by omega
        have hP1 : P[j]? = some P[j] := List.getElem?_eq_getElem hjl
        have hg1 : ((putJ x P (j + 1) ++ R).map hdA)[j]? = some (hdA P[j]) := by
          rw [List.getElem?_map, List.getElem?_append_left (by rw [putJ_len]; omega), putJ_prev x P hjl]; rfl
        have hsw : ((((putJ x P (j + 1) ++ R).map hdA).set (j + 1) (hdA P[j])).set j (hdA x)) = (putJ x P j ++ R).map hdA := by
          rw [← putJ_swap x P hjl, List.map_append, List.map_append, List.set_append_left _ _ (by rw [List.length_map, putJ_len]; omega), List.set_append_left _ _ (by rw [List.length_set, List.length_map, putJ_len]; omega), List.map_set, List.map_set]
        have hC := ansCmpH x P[j] hxb (hPb _ (List.getElem_mem hjl))
        have hstep : stopJ x P (j + 1) = if cmpH x P[j] < 0 then stopJ x P j else j + 1 := by simp only [stopJ, hP1]
        have ej : (((j + 1 : Nat) : Int) - 1).toNat = j := by omega
        generalize P[j] = y at *
        generalize hE : (putJ x P (j + 1) ++ R).map hdA = E at *
        have hEl2 : (E.set (j + 1) (hdA y)).length = L.length := by simpa using hEl
        have hg2 : (E.set (j + 1) (hdA y))[j]? = some (hdA y) := by rw [List.getElem?_set_ne (by omega)]; exact hg1
        obtain ⟨t1, n1⟩ := x
        obtain ⟨t2, n2⟩ := y
        simp only [hdA] at *
        by_cases hc : cmpH (t1, n1) (t2, n2) < 0
        · rw [if_pos hc] at hstep
          generalize cmpH (t1, n1) (t2, n2) = c at *
          simp (config := { maxSteps := 1000000 }) (disch := omega) [-List.map_replicate, -List.map_set, -List.getD_eq_getElem?_getD, -getElem?_pos, -getElem?_neg, om, hEl, hg0, hg1, hC, hc, ej, hEl2, hg2, hsw, splice]
          exact ⟨j, ⟨by omega, hstep⟩, by omega, rfl, rfl⟩
        · rw [if_neg hc] at hstep
          rw [hstep] at hins
          generalize cmpH (t1, n1) (t2, n2) = c at *
          simp (config := { maxSteps := 1000000 }) (disch := omega) [-List.map_replicate, -List.map_set, -List.getD_eq_getElem?_getD, -getElem?_pos, -getElem?_neg, om, hEl, hg0, hg1, hC, hc, ej]
          exact ⟨i + 1, ⟨by omega, .inl (by omega)⟩, by omega, by simp, by rw [hS, hins, ← List.map_drop, hR, ← hE, List.map_append]⟩
    · simp (config := { maxSteps := 1000000 }) (disch := omega) [-List.map_replicate, -List.map_set, -List.getD_eq_getElem?_getD, -getElem?_pos, -getElem?_neg, om]
  · have hex : sortS (L.take i) ++ L.drop i = sortS L := by
      by_cases hi : i ≤ L.length
      · have : i = L.length := by omega
        subst this
        simp
      · have h0 : L = [] := List.eq_nil_of_length_eq_zero (by omega)
        subst h0
        simp
    rw [hex]
    unfold srtB
    simp (config := { maxSteps := 1000000 }) (disch := omega) [-List.map_replicate, -List.map_set, -List.getD_eq_getElem?_getD, -getElem?_pos, -getElem?_neg, om, h1]
theorem ansBits : ∀ n : Nat, n ≤ 12 → ∃ k : Int, ansF cfg 116 [.int .u64 n] [] = some (.int .i64 k, []) := by
  have one : ∀ (n : Nat) (k : Int), ansF cfg 152 [.int .u64 n] [] = some (.int .i64 k, []) → ∃ k : Int, ansF cfg 116 [.int .u64 n] [] = some (.int .i64 k, []) := fun n k h => by
    refine ⟨k, ans_of_wp fn116 low116 ?_⟩
    simp (config := { maxSteps := 1000000 }) (disch := omega) [-List.map_replicate, -List.map_set, -List.getD_eq_getElem?_getD, -getElem?_pos, -getElem?_neg, om, ir116, h]
  have main : ∀ n : Nat, n ≤ 12 → ∃ k : Int, ansF cfg 152 [.int .u64 n] [] = some (.int .i64 k, []) := fun n hn => by
    match n, hn with
    | 0, _ => exact ⟨0, by refine ans_of_wp fn152 low152 ?_; simp (config := { maxSteps := 1000000 }) (disch := omega) [-List.map_replicate, -List.map_set, -List.getD_eq_getElem?_getD, -getElem?_pos, -getElem?_neg, om, ir152, wrap_u8]⟩
    | 1, _ => exact ⟨1, by refine ans_of_wp fn152 low152 ?_; simp (config := { maxSteps := 1000000 }) (disch := omega) [-List.map_replicate, -List.map_set, -List.getD_eq_getElem?_getD, -getElem?_pos, -getElem?_neg, om, ir152, wrap_u8]⟩
    | 2, _ => exact ⟨2, by refine ans_of_wp fn152 low152 ?_; simp (config := { maxSteps := 1000000 }) (disch := omega) [-List.map_replicate, -List.map_set, -List.getD_eq_getElem?_getD, -getElem?_pos, -getElem?_neg, om, ir152, wrap_u8]⟩
    | 3, _ => exact ⟨2, by refine ans_of_wp fn152 low152 ?_; simp (config := { maxSteps := 1000000 }) (disch := omega) [-List.map_replicate, -List.map_set, -List.getD_eq_getElem?_getD, -getElem?_pos, -getElem?_neg, om, ir152, wrap_u8]⟩
    | 4, _ => exact ⟨3, by refine ans_of_wp fn152 low152 ?_; simp (config := { maxSteps := 1000000 }) (disch := omega) [-List.map_replicate, -List.map_set, -List.getD_eq_getElem?_getD, -getElem?_pos, -getElem?_neg, om, ir152, wrap_u8]⟩
    | 5, _ => exact ⟨3, by refine ans_of_wp fn152 low152 ?_; simp (config := { maxSteps := 1000000 }) (disch := omega) [-List.map_replicate, -List.map_set, -List.getD_eq_getElem?_getD, -getElem?_pos, -getElem?_neg, om, ir152, wrap_u8]⟩
    | 6, _ => exact ⟨3, by refine ans_of_wp fn152 low152 ?_; simp (config := { maxSteps := 1000000 }) (disch := omega) [-List.map_replicate, -List.map_set, -List.getD_eq_getElem?_getD, -getElem?_pos, -getElem?_neg, om, ir152, wrap_u8]⟩
    | 7, _ => exact ⟨3, by refine ans_of_wp fn152 low152 ?_; simp (config := { maxSteps := 1000000 }) (disch := omega) [-List.map_replicate, -List.map_set, -List.getD_eq_getElem?_getD, -getElem?_pos, -getElem?_neg, om, ir152, wrap_u8]⟩
    | 8, _ => exact ⟨4, by refine ans_of_wp fn152 low152 ?_; simp (config := { maxSteps := 1000000 }) (disch := omega) [-List.map_replicate, -List.map_set, -List.getD_eq_getElem?_getD, -getElem?_pos, -getElem?_neg, om, ir152, wrap_u8]⟩
    | 9, _ => exact ⟨4, by refine ans_of_wp fn152 low152 ?_; simp (config := { maxSteps := 1000000 }) (disch := omega) [-List.map_replicate, -List.map_set, -List.getD_eq_getElem?_getD, -getElem?_pos, -getElem?_neg, om, ir152, wrap_u8]⟩
    | 10, _ => exact ⟨4, by refine ans_of_wp fn152 low152 ?_; simp (config := { maxSteps := 1000000 }) (disch := omega) [-List.map_replicate, -List.map_set, -List.getD_eq_getElem?_getD, -getElem?_pos, -getElem?_neg, om, ir152, wrap_u8]⟩
    | 11, _ => exact ⟨4, by refine ans_of_wp fn152 low152 ?_; simp (config := { maxSteps := 1000000 }) (disch := omega) [-List.map_replicate, -List.map_set, -List.getD_eq_getElem?_getD, -getElem?_pos, -getElem?_neg, om, ir152, wrap_u8]⟩
    | 12, _ => exact ⟨4, by refine ans_of_wp fn152 low152 ?_; simp (config := { maxSteps := 1000000 }) (disch := omega) [-List.map_replicate, -List.map_set, -List.getD_eq_getElem?_getD, -getElem?_pos, -getElem?_neg, om, ir152, wrap_u8]⟩
    | n + 13, h => omega
  intro n hn
  obtain ⟨k, h⟩ := main n hn
  exact one n k h
theorem ansPdq (es : List (AV × AV × Nat)) (ck : Nat) (L : List Hd1) (hL : L.length ≤ 12) (hb : ∀ h ∈ L, h.1.length < 900000) (k : Int) :
    ansF cfg 115 [.osl 1 L.length, .int .i64 0, .int .i64 L.length, .int .i64 k, .fn 71 [] []] (srtB (.mp es ck) L) = some (.tup [], srtB (.mp es ck) (sortS L)) := by
  have h := ansInsert es ck L hL hb
  refine ans_of_wp fn115 low115 ?_
  unfold srtB at *
  simp (config := { maxSteps := 1000000 }) (disch := omega) [-List.map_replicate, -List.map_set, -List.getD_eq_getElem?_getD, -getElem?_pos, -getElem?_neg, om, ir115]
  refine Wp.loopM (fun (_ : Unit) => 0) (fun _ => [some (.osl 1 L.length), some (.int .i64 0), some (.int .i64 L.length), some (.int .i64 k), some (.fn 71 [] []), some (.bool true), some (.bool true), none, none, none, none, none, none, none, none, none, none, none, none, none, none, none, none, none, none, none, none, none])
    (fun _ => [.mp es ck, .sl ⟨false, some 46⟩ 2 (L.map hdA), .dead]) (fun _ => True) ?_ () trivial (by simp) rfl
  rintro _ _
  simp (config := { maxSteps := 1000000 }) (disch := omega) [-List.map_replicate, -List.map_set, -List.getD_eq_getElem?_getD, -getElem?_pos, -getElem?_neg, om, h]
theorem ansSort (es : List (AV × AV × Nat)) (ck : Nat) (L : List Hd1) (hL : L.length ≤ 12) (hb : ∀ h ∈ L, h.1.length < 900000) :
    ansF cfg 70 [.osl 1 L.length, .fn 71 [] []] [.mp es ck, .sl ⟨false, some 46⟩ 2 (L.map hdA)] = some (.tup [], [.mp es ck, .sl ⟨false, some 46⟩ 2 ((sortS L).map hdA)]) := by
  obtain ⟨k, hk⟩ := ansBits L.length hL
  have h := ansPdq es ck L hL hb k
  have hl : (L.map hdA).length = L.length := by simp
  refine ans_of_wp fn70 low70 ?_
  unfold srtB at h
  simp (config := { maxSteps := 1000000 }) (disch := omega) [-List.map_replicate, -List.map_set, -List.getD_eq_getElem?_getD, -getElem?_pos, -getElem?_neg, om, ir70, hk, h, hl, wrap_u64]
end Go.Proofs.YtlolhkjjbgpfbaaGreatDoor
