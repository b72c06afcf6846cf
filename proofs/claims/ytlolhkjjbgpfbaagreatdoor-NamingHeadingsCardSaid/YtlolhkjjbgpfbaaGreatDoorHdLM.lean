/-
  The law NamingHeadings.
-/
import Derived.Test.YtlolhkjjbgpfbaaGreatDoorFewM
import Derived.Test.YtlolhkjjbgpfbaaGreatDoorRefbM
import Derived.Test.YtlolhkjjbgpfbaaGreatDoorFndM
set_option linter.all false
namespace Go.Proofs.YtlolhkjjbgpfbaaGreatDoor
open Go.Am
set_option maxRecDepth 10000
set_option maxHeartbeats 4000000
theorem ansEqI0 : ansF cfg 32 [.lst (some true) 0 [], .lst (some true) 0 []] [] = some (.bool true, []) := by
  refine ans_of_wp fn32 low32 ?_
  simp (config := { maxSteps := 1000000 }) (disch := omega) [-List.map_replicate, -List.map_set, -List.getD_eq_getElem?_getD, -getElem?_pos, -getElem?_neg, om, ir32]
  refine Wp.loopM (fun (i : Nat) => 0) (fun i => [some (.lst (some true) 0 []), some (.lst (some true) 0 []), none, none, none, some (.int .i64 0), some (.int .i64 0), none, none]) (fun _ => []) (fun i => True) ?_ 0 trivial (by simp) rfl
  intro i hi
  simp (config := { maxSteps := 1000000 }) (disch := omega) [-List.map_replicate, -List.map_set, -List.getD_eq_getElem?_getD, -getElem?_pos, -getElem?_neg, om]
theorem ansSameE : ansF cfg 31 [.lst none 2 [], .lst (some true) 0 []] [] = some (.bool true, []) := by
  refine ans_of_wp fn31 low31 ?_
  simp (config := { maxSteps := 1000000 }) (disch := omega) [-List.map_replicate, -List.map_set, -List.getD_eq_getElem?_getD, -getElem?_pos, -getElem?_neg, om, ir31]
  refine Wp.loopM (fun (i : Nat) => 0) (fun i => [some (.lst none 2 []), some (.lst (some true) 0 []), none, some (.int .i64 0), none, none, none]) (fun _ => []) (fun i => True) ?_ 0 trivial (by simp) rfl
  intro i hi
  simp (config := { maxSteps := 1000000 }) (disch := omega) [-List.map_replicate, -List.map_set, -List.getD_eq_getElem?_getD, -getElem?_pos, -getElem?_neg, om]
theorem ansSameVW (l : List Au) (day : Int) : ansF cfg 31 [hdsV l day, hdsW l day] [] = some (.bool true, []) := by
  unfold hdsV hdsW
  split
  · rename_i h
    have h1 := hdsL_len h
    have h2 := asks_len h
    have h3 : ∀ a : List Au, (hdGo2 l day a).length ≤ a.length := fun a => by
      induction a with
      | nil => simp [hdGo2]
      | cons x r ih =>
        simp only [hdGo2, List.length_cons]
        split
        · simp only [List.length_cons]; omega
        · omega
    have h4 := h3 l
    cases hL : hdsL l day with
    | nil => exact ansSameE
    | cons a r =>
      rw [hL] at h1
      exact ansSameH none none (a :: r) (by omega)
  · exact ansSameN
theorem ansEqV (l : List Au) (query : Str) (day : Int) : ansF cfg 32 [srchV l query day, srchV l query day] [] = some (.bool true, []) := by
  unfold srchV
  split
  · rename_i h
    have h0 : asksE l day = 0 := by
      unfold srchE at h
      split at h
      · rename_i h1; exact absurd h h1
      · rename_i h1; simpa using h1
    have h2 := asks_len h0
    have h3 : ∀ a : List Au, (srchGo l query day a).length ≤ a.length := fun a => by
      induction a with
      | nil => simp [srchGo]
      | cons x r ih =>
        simp only [srchGo, List.length_cons]
        split
        · simp only [List.length_cons]; omega
        · omega
    have h4 := h3 l
    have := ansEqI none none 1 (srchGo l query day l) (srchGo l query day l) (fun _ => rfl) (by omega)
    simpa using this
  · exact ansEqI0
theorem lst_hdsV (l : List Au) (day : Int) : ∃ n z es, hdsV l day = .lst n z es := by
  unfold hdsV
  split <;> exact ⟨_, _, _, rfl⟩
theorem lst_hdsW (l : List Au) (day : Int) : ∃ n z es, hdsW l day = .lst n z es := by
  unfold hdsW outV
  split <;> exact ⟨_, _, _, rfl⟩
theorem lst_srchV (l : List Au) (query : Str) (day : Int) : ∃ n z es, srchV l query day = .lst n z es := by
  unfold srchV
  split <;> exact ⟨_, _, _, rfl⟩
theorem ansHeadingsS (nl : Option Bool) (z : Nat) (l : List Au) (hz : l ≠ [] → z = 6) (hinn : ∀ x ∈ l, x.inn) (hl : l.length ≤ maxLen) (id day : Int) (query : Str) :
    ansF cfg 5 [auL nl z l, .int .i64 id, .int .i64 day, .str query] [] = some (.bool true, []) := by
  have hpl := plain_auA l
  have hL := ansLong none [query] (by simp)
  have hFw := ansFew nl z l hz hinn hl
  refine ans_of_wp fn5 low5 ?_
  cases hlg : longB [query] with
  | true =>
    rw [hlg] at hL
    simp only [strA, List.map_cons, List.map_nil] at hL
    unfold auL at *
    simp (config := { maxSteps := 1000000 }) (disch := omega) [-List.map_replicate, -List.map_set, -List.getD_eq_getElem?_getD, -getElem?_pos, -getElem?_neg, om, ir5, awake, hL, hpl]
  | false =>
    have hs := long_not hlg query (by simp)
    rw [hlg] at hL
    simp only [strA, List.map_cons, List.map_nil] at hL
    cases hf : fewL l with
    | false =>
      rw [hf] at hFw
      unfold auL at *
      simp (config := { maxSteps := 1000000 }) (disch := omega) [-List.map_replicate, -List.map_set, -List.getD_eq_getElem?_getD, -getElem?_pos, -getElem?_neg, om, ir5, awake, hL, hFw, hpl]
    | true =>
      rw [hf] at hFw
      obtain ⟨hok, hln⟩ := few_ok hinn hf
      have hC := ansCopy nl z l hz hok (by omega)
      have hpl2 := plain_auA (cpL l)
      have ck := cpL_ok hok
      have c1 := ansHeading none 6 (cpL l) (fun _ => rfl) ck id day
      rw [cp_headR] at c1
      have r1 := ansHeadingR nl z l hz hok id day
      have c2 := ansHeadings none 6 (cpL l) (fun _ => rfl) ck day (fun h => by rw [cp_asks] at h; rw [cpL_len]; exact few_asks hln h)
      rw [cp_hdsV, cp_asks] at c2
      have r2 := ansHeadingsR nl z l hz hok day
      have c3 := ansSearchN none 6 (cpL l) (fun _ => rfl) ck query (by omega) day
      rw [cp_srchV, cp_srchE] at c3
      have r3 := ansSearchR nl z l hz hok query (by omega) day
      have e1 := ansSameVW l day
      have e2 := ansEqV l query day
      obtain ⟨n2, z2, es2, v2⟩ := lst_hdsV l day
      obtain ⟨n3, z3, es3, v3⟩ := lst_hdsW l day
      obtain ⟨n4, z4, es4, v4⟩ := lst_srchV l query day
      rw [v2] at c2 e1
      rw [v3] at r2 e1
      rw [v4] at c3 r3 e2
      generalize headR l id day = q1 at *
      generalize asksE l day = q4 at *
      generalize srchE l query day = q5 at *
      obtain ⟨s1, s2⟩ := q1
      unfold auL at *
      simp (config := { maxSteps := 1000000 }) (disch := omega) [-List.map_replicate, -List.map_set, -List.getD_eq_getElem?_getD, -getElem?_pos, -getElem?_neg, om, ir5, awake, hL, hFw, hpl, hpl2, hC, c1, c2, c3, r1, r2, r3, e1, e2]
theorem ansHeadingsLaw {xs : List AV} (h : ShpArgs Tryz.prog [28, 3, 3, 9] xs) : ansF cfg 5 xs [] = some (.bool true, []) := by
  obtain ⟨nl, z, l, r, rfl, hz, hl, hinn, h⟩ := args_aus h
  obtain ⟨id, r, rfl, _, _, h⟩ := args_int h
  obtain ⟨day, r, rfl, _, _, h⟩ := args_int h
  obtain ⟨q, r, rfl, _, h⟩ := args_strC h
  subst h
  exact ansHeadingsS (some nl) z l hz hinn hl id day q
end Go.Proofs.YtlolhkjjbgpfbaaGreatDoor
