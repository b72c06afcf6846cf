/-
  What the law Unlike asks of headings (plain). Few, and copies, of the reference.
-/
import Derived.Test.YtlolhkjjbgpfbaaGreatDoorPlM
set_option linter.all false
namespace Go.Proofs.YtlolhkjjbgpfbaaGreatDoor
open Go.Am
set_option maxRecDepth 10000
set_option maxHeartbeats 4000000
theorem preB_app (u v : Str) : preB (u ++ v) u = true := by
  unfold preB
  simp
theorem hdsL_len {l : List Au} {day : Int} (h : asksE l day = 0) : (hdsL l day).length = (hdGo2 l day l).length := by
  unfold hdsL
  rw [sortS_len, hdU_eq l day (asks_inc h) (fun y => plainR_err) (fun y _ => plainR_ne)]
def cntU (l : List Au) (day : Int) : List Au → Int
  | [] => 0
  | x :: r => if (nameR l x.id day).2 = 0 then cntU l day r + 1 else cntU l day r
theorem cntU_len (l : List Au) (day : Int) : ∀ a : List Au, cntU l day a = ((hdGo2 l day a).length : Int)
  | [] => rfl
  | x :: r => by
    have ih := cntU_len l day r
    simp only [cntU, hdGo2, plainR_two]
    split
    · simp [ih]
    · exact ih
theorem cntU_app (l : List Au) (day : Int) (a b : List Au) : cntU l day (a ++ b) = cntU l day a + cntU l day b := by
  induction a with
  | nil => simp [cntU]
  | cons x r ih => simp only [List.cons_append, cntU]; split <;> omega
theorem cntU_le (l : List Au) (day : Int) : ∀ a : List Au, 0 ≤ cntU l day a ∧ cntU l day a ≤ a.length
  | [] => by simp [cntU]
  | x :: r => by
    have ih := cntU_le l day r
    simp only [cntU, List.length_cons]
    split <;> omega
def restT (l : List Au) (x : Au) (day : Int) : Str := if moreB l x day = true then [32, 40] ++ Lib.itoa x.id ++ [41] else []
theorem moreT_rest (l : List Au) (x : Au) (day : Int) : moreT l x day = (plainR l x day).1 ++ restT l x day := by
  unfold moreT restT
  split
  · simp
  · simp
theorem restT_pre (l : List Au) (x : Au) (day : Int) (h : restT l x day ≠ []) : preB (restT l x day) [32, 40] = true := by
  unfold restT at *
  by_cases hb : moreB l x day = true
  · rw [if_pos hb, List.append_assoc]; exact preB_app _ _
  · rw [if_neg hb] at h; exact absurd rfl h
theorem hds_one {l : List Au} {day : Int} (h : asksE l day = 0) {g : Hd1} (hg : g ∈ hdsL l day) : ∃ x ∈ l, getA l g.2 = some x ∧ x.id = g.2 ∧ nameR l g.2 day = ((nameR l g.2 day).1, 0) ∧ headR l g.2 day = (g.1, 0) ∧ g.1 = (plainR l x day).1 ++ restT l x day ∧
    (plainR l x day).1 = (if x.kind = 1 then invS (nameR l g.2 day).1 else (nameR l g.2 day).1) := by
  obtain ⟨x, hx, h0, rfl⟩ := hdsL_mem h hg
  simp only
  have hn : (nameR l x.id day).2 = 0 := by rw [← plainR_two]; exact h0
  obtain ⟨y, hy, hyid, hget, hpy, hh⟩ := headR_eq hn
  have := id_inj (asks_inc h) hy hx hyid
  subst this
  refine ⟨y, hy, hget, rfl, ?_, hh, moreT_rest l y day, ?_⟩
  · rw [← hn]
  · unfold plainR
    by_cases hk : y.kind = 1
    · rw [if_pos ⟨hn, hk⟩, if_pos hk]
    · rw [if_neg (fun h => hk h.2), if_neg hk]
end Go.Proofs.YtlolhkjjbgpfbaaGreatDoor
namespace Go.Proofs.YtlolhkjjbgpfbaaGreatDoor
open Go.Am
set_option maxRecDepth 10000
set_option maxHeartbeats 4000000
def tooB (n : Nm) : Bool := decide (100 < n.t.length)
def fewB (x : Au) : Bool := !x.names.any tooB && decide (x.names.length ≤ 17 ∧ x.next.length ≤ 17)
def fewL (l : List Au) : Bool := l.all fewB && decide (l.length ≤ 12 ∨ l.length = 65)
theorem ansFewOf (x : Au) (hx : x.inn) : ansF cfg 61 [auA x] [] = some (.bool (fewB x), []) := by
  have hm : x.names.length ≤ maxLen := hx.nl
  have hm2 : x.next.length ≤ maxLen := hx.xl
  unfold maxLen at hm hm2
  refine ans_of_wp fn61 low61 ?_
  unfold fewB auA Au.cells
  simp (config := { maxSteps := 1000000 }) (disch := omega) [-List.map_replicate, -List.map_set, -List.getD_eq_getElem?_getD, -getElem?_pos, -getElem?_neg, om, ir61]
  refine Wp.loopM (fun (i : Nat) => x.names.length - i) (fun i => [none, some (.ptr 0 0), none, some (.int .i64 i), none, none]) (fun _ => [.var 51 x.cells]) (fun i => i ≤ x.names.length ∧ x.names.any tooB = (x.names.drop i).any tooB) ?_ 0 ⟨Nat.zero_le _, rfl⟩ (by simp) rfl
  rintro i ⟨hi, hr⟩
  rw [hr]
  unfold Au.cells
  by_cases h1 : i < x.names.length
  · have hz : x.nz = 3 := hx.nz (by intro h; rw [h] at h1; simp at h1)
    have hg := get_nms x.names h1
    rw [List.drop_eq_getElem_cons h1, List.any_cons] at hr ⊢
    generalize x.names[i] = n at *
    obtain ⟨t, a, b⟩ := n
    unfold tooB at hr ⊢
    simp only [nmA] at hg hr ⊢
    by_cases h2 : 100 < t.length
    · simp (config := { maxSteps := 1000000 }) (disch := omega) [-List.map_replicate, -List.map_set, -List.getD_eq_getElem?_getD, -getElem?_pos, -getElem?_neg, om, h1, hg, h2]
    · rw [decide_eq_false h2, Bool.false_or] at hr ⊢
      simp (config := { maxSteps := 1000000 }) (disch := omega) [-List.map_replicate, -List.map_set, -List.getD_eq_getElem?_getD, -getElem?_pos, -getElem?_neg, om, h1, hg, h2]
      exact ⟨i + 1, ⟨by omega, rfl⟩, by omega, by simp⟩
  · rw [List.drop_eq_nil_of_le (by omega)]
    by_cases h3 : x.names.length ≤ 17
    · by_cases h4 : x.next.length ≤ 17
      · simp (config := { maxSteps := 1000000 }) (disch := omega) [-List.map_replicate, -List.map_set, -List.getD_eq_getElem?_getD, -getElem?_pos, -getElem?_neg, om, h1, h3, h4]
      · simp (config := { maxSteps := 1000000 }) (disch := omega) [-List.map_replicate, -List.map_set, -List.getD_eq_getElem?_getD, -getElem?_pos, -getElem?_neg, om, h1, h3, h4]
    · simp (config := { maxSteps := 1000000 }) (disch := omega) [-List.map_replicate, -List.map_set, -List.getD_eq_getElem?_getD, -getElem?_pos, -getElem?_neg, om, h1, h3]
theorem ansFew (nl : Option Bool) (z : Nat) (l : List Au) (hz : l ≠ [] → z = 6) (hok : ∀ x ∈ l, x.inn) (hl : l.length ≤ maxLen) : ansF cfg 23 [auL nl z l] [] = some (.bool (fewL l), []) := by
  unfold maxLen at hl
  refine ans_of_wp fn23 low23 ?_
  unfold fewL auL
  simp (config := { maxSteps := 1000000 }) (disch := omega) [-List.map_replicate, -List.map_set, -List.getD_eq_getElem?_getD, -getElem?_pos, -getElem?_neg, om, ir23]
  refine Wp.loopM (fun (i : Nat) => l.length - i) (fun i => [some (.lst nl z (l.map auA)), none, some (.int .i64 i), none, none, none]) (fun _ => []) (fun i => i ≤ l.length ∧ l.all fewB = (l.drop i).all fewB) ?_ 0 ⟨Nat.zero_le _, rfl⟩ (by simp) rfl
  rintro i ⟨hi, hr⟩
  rw [hr]
  by_cases h1 : i < l.length
  · have hz : z = 6 := hz (by intro h; rw [h] at h1; simp at h1)
    subst hz
    have hg := get_aus l h1
    have hF := ansFewOf l[i] (hok _ (List.getElem_mem h1))
    rw [List.drop_eq_getElem_cons h1, List.all_cons] at hr ⊢
    generalize l[i] = x at *
    unfold auA Au.cells at *
    cases h2 : fewB x with
    | false =>
      rw [h2] at hF
      simp (config := { maxSteps := 1000000 }) (disch := omega) [-List.map_replicate, -List.map_set, -List.getD_eq_getElem?_getD, -getElem?_pos, -getElem?_neg, om, h1, hg, hF]
    | true =>
      rw [h2] at hF hr
      rw [Bool.true_and] at hr ⊢
      simp (config := { maxSteps := 1000000 }) (disch := omega) [-List.map_replicate, -List.map_set, -List.getD_eq_getElem?_getD, -getElem?_pos, -getElem?_neg, om, h1, hg, hF]
      exact ⟨i + 1, ⟨by omega, rfl⟩, by omega, by simp⟩
  · rw [List.drop_eq_nil_of_le (by omega)]
    by_cases h3 : l.length ≤ 12
    · simp (config := { maxSteps := 1000000 }) (disch := omega) [-List.map_replicate, -List.map_set, -List.getD_eq_getElem?_getD, -getElem?_pos, -getElem?_neg, om, h1, h3]
    · by_cases h4 : l.length = 65
      · simp (config := { maxSteps := 1000000 }) (disch := omega) [-List.map_replicate, -List.map_set, -List.getD_eq_getElem?_getD, -getElem?_pos, -getElem?_neg, om, h1, h3, h4]
      · simp (config := { maxSteps := 1000000 }) (disch := omega) [-List.map_replicate, -List.map_set, -List.getD_eq_getElem?_getD, -getElem?_pos, -getElem?_neg, om, h1, h3, h4]
theorem few_ok {l : List Au} (hok : ∀ x ∈ l, x.inn) (h : fewL l = true) : (∀ x ∈ l, x.ok) ∧ (l.length ≤ 12 ∨ l.length = 65) := by
  unfold fewL at h
  rw [Bool.and_eq_true] at h
  refine ⟨fun x hx => ?_, by simpa using h.2⟩
  have := List.all_eq_true.1 h.1 x hx
  unfold fewB at this
  rw [Bool.and_eq_true, decide_eq_true_eq] at this
  exact ⟨(hok x hx).nz, (hok x hx).xz, by omega, by omega⟩
theorem few_asks {l : List Au} {day : Int} (h : l.length ≤ 12 ∨ l.length = 65) (h0 : asksE l day = 0) : l.length ≤ 12 := by
  have := asks_len h0
  omega
theorem cp_step (l : List Au) {i : Nat} (h : i < l.length) : (cpL (l.take (i + 1))).map auA = (cpL (l.take i)).map auA ++ [auA (cpAu l[i])] := by
  unfold cpL
  rw [List.take_add_one, List.getElem?_eq_getElem h]
  simp only [Option.toList_some, List.map_append, List.map_cons, List.map_nil]
theorem ansCopy (nl : Option Bool) (z : Nat) (l : List Au) (hz : l ≠ [] → z = 6) (hok : ∀ x ∈ l, x.ok) (hl : l.length < 1000000) : ansF cfg 25 [auL nl z l] [] = some (auL none 6 (cpL l), []) := by
  refine ans_of_wp fn25 low25 ?_
  unfold auL
  simp (config := { maxSteps := 1000000 }) (disch := omega) [-List.map_replicate, -List.map_set, -List.getD_eq_getElem?_getD, -getElem?_pos, -getElem?_neg, om, ir25]
  refine Wp.loopM (fun (i : Nat) => l.length - i) (fun i => [some (.lst nl z (l.map auA)), none, some (.osl 0 i), some (.int .i64 i), none, none, none, none, none, none, none, none, none]) (fun i => [.sl ⟨false, some 51⟩ 6 ((cpL (l.take i)).map auA)])
    (fun i => i ≤ l.length) ?_ 0 (Nat.zero_le _) (by simp) (by simp [cpL])
  rintro i hi
  by_cases h1 : i < l.length
  · have hz : z = 6 := hz (by intro h; rw [h] at h1; simp at h1)
    subst hz
    have hg := get_aus l h1
    have hx := hok _ (List.getElem_mem h1)
    have hcl : ((cpL (l.take i)).map auA).length = i := by simp [cpL]; omega
    have hst := cp_step l h1
    generalize (cpL (l.take i)).map auA = A at *
    generalize l[i] = x at *
    obtain ⟨id, kind, a, b, names, next, nn, nz, xn, xz⟩ := x
    obtain ⟨q1, q2, q3, q4⟩ := hx
    simp only at q1 q2 q3 q4
    clear hok
    cases names with
    | nil =>
      cases next with
      | nil =>
        simp (config := { maxSteps := 1000000 }) (disch := omega) [-List.map_replicate, -List.map_set, -List.getD_eq_getElem?_getD, -getElem?_pos, -getElem?_neg, om, h1, hg, auA, Au.cells, splice, hcl]
        exact ⟨i + 1, by omega, by omega, ⟨rfl, by simp⟩, by rw [hst]; rfl⟩
      | cons m ms =>
        obtain rfl : xz = 1 := q2 (by simp)
        simp only [List.length_cons] at q3 q4
        simp (config := { maxSteps := 1000000 }) (disch := omega) [-List.map_replicate, -List.map_set, -List.getD_eq_getElem?_getD, -getElem?_pos, -getElem?_neg, om, h1, hg, auA, Au.cells, splice, hcl]
        exact ⟨i + 1, by omega, by omega, ⟨rfl, by simp⟩, by rw [hst]; rfl⟩
    | cons n ns =>
      obtain rfl : nz = 3 := q1 (by simp)
      cases next with
      | nil =>
        simp only [List.length_cons] at q3 q4
        simp (config := { maxSteps := 1000000 }) (disch := omega) [-List.map_replicate, -List.map_set, -List.getD_eq_getElem?_getD, -getElem?_pos, -getElem?_neg, om, h1, hg, auA, Au.cells, splice, hcl]
        exact ⟨i + 1, by omega, by omega, ⟨rfl, by simp⟩, by rw [hst]; rfl⟩
      | cons m ms =>
        obtain rfl : xz = 1 := q2 (by simp)
        simp only [List.length_cons] at q3 q4
        simp (config := { maxSteps := 1000000 }) (disch := omega) [-List.map_replicate, -List.map_set, -List.getD_eq_getElem?_getD, -getElem?_pos, -getElem?_neg, om, h1, hg, auA, Au.cells, splice, hcl]
        exact ⟨i + 1, by omega, by omega, ⟨rfl, by simp⟩, by rw [hst]; rfl⟩
  · have hlen : i = l.length := by omega
    subst hlen
    rw [List.take_length]
    have hcl : ((cpL l).map auA).length = l.length := by simp [cpL]
    generalize (cpL l).map auA = A at *
    simp (config := { maxSteps := 1000000 }) (disch := omega) [-List.map_replicate, -List.map_set, -List.getD_eq_getElem?_getD, -getElem?_pos, -getElem?_neg, om, h1, hcl]
end Go.Proofs.YtlolhkjjbgpfbaaGreatDoor
