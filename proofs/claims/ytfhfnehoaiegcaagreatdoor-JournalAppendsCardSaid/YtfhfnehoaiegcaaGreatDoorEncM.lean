/-
  Events as values; Encode of the program and of the reference.
-/
import Derived.Test.YtfhfnehoaiegcaaGreatDoorPlainM
import Derived.Test.YtfhfnehoaiegcaaGreatDoorDigM
import Derived.Lib.ItoaLen
set_option linter.all false
namespace Go.Proofs.YtfhfnehoaiegcaaGreatDoor
open Go.Am
set_option maxRecDepth 10000
set_option maxHeartbeats 4000000

/-- an event as a value: what it holds, and how its slices came in -/
structure Ev where
  c : EvC
  nl : Option Bool
  z : Nat
  nl2 : Option Bool
  z2 : Nat
def intsA (l : List Int) : List AV := l.map (AV.int .i64)
def strsA (l : List Str) : List AV := l.map AV.str
def Ev.cells (e : Ev) : List AV := [.int .i64 e.c.id, .int .i64 e.c.day, .int .i64 e.c.kind, .lst e.nl e.z (intsA e.c.nums), .lst e.nl2 e.z2 (strsA e.c.texts)]
def evA (e : Ev) : AV := .agg e.cells
structure Ev.ok (e : Ev) : Prop where
  hz : e.c.nums ≠ [] → e.z = 1
  hz2 : e.c.texts ≠ [] → e.z2 = 1
  hn : e.c.nums.length < 1000000
  ht : e.c.texts.length < 1000000
section
variable (l : List Int) (m : List Str)
@[simp] theorem intsA_length : (intsA l).length = l.length := by simp [intsA]
@[simp] theorem strsA_length : (strsA m).length = m.length := by simp [strsA]
@[simp] theorem intsA_plain : plainAll (intsA l) = true := plainAll_map (fun _ => rfl) l
@[simp] theorem strsA_plain : plainAll (strsA m) = true := plainAll_map (fun _ => rfl) m
@[simp] theorem intsA_cells : cellsOk (intsA l) = true := cellsOk_map (fun _ => rfl) l
@[simp] theorem strsA_cells : cellsOk (strsA m) = true := cellsOk_map (fun _ => rfl) m
@[simp] theorem intsA_nil : intsA l = [] ↔ l = [] := by simp [intsA]
@[simp] theorem strsA_nil : strsA m = [] ↔ m = [] := by simp [strsA]
@[simp] theorem intsA_get (i : Nat) : (intsA l)[i]? = (l[i]?).map (AV.int .i64) := by simp [intsA]
@[simp] theorem strsA_get (i : Nat) : (strsA m)[i]? = (m[i]?).map AV.str := by simp [strsA]
end

/-- the place of the first member of this kind -/
def idxP {α : Type} (p : α → Bool) : List α → Nat → Int
  | [], _ => -1
  | a :: l, i => if p a = true then (i : Int) else idxP p l (i + 1)
theorem idxP_drop {α : Type} (p : α → Bool) {l : List α} {i : Nat} (h : i < l.length) : idxP p (l.drop i) i = if p l[i] = true then (i : Int) else idxP p (l.drop (i + 1)) (i + 1) := by
  rw [List.drop_eq_getElem_cons h]; rfl
theorem idxP_any {α : Type} (p : α → Bool) : ∀ (l : List α) (i : Nat), (0 ≤ idxP p l i ↔ l.any p = true) ∧ -1 ≤ idxP p l i ∧ idxP p l i < (i + l.length : Nat)
  | [], i => by simp [idxP]; omega
  | a :: l, i => by
    have := idxP_any p l (i + 1)
    simp only [idxP, List.any_cons, List.length_cons, Bool.or_eq_true]
    by_cases h : p a = true
    · simp [h]; omega
    · have hf : p a = false := by simpa using h
      simp only [hf, Bool.false_eq_true, if_false, false_or]
      refine ⟨this.1, this.2.1, by omega⟩

theorem ansFar (n : Int) : ansF cfg 37 [.int .i64 n] [] = some (.bool (far n), []) := by
  refine ans_of_wp fn37 low37 ?_
  simp (config := { maxSteps := 1000000 }) (disch := omega) [-List.map_replicate, -List.map_set, -List.getD_eq_getElem?_getD, -getElem?_pos, -getElem?_neg, wrap_i64, le_strLim, le_sliceLim, le_buildLim, le_sliceLimI, Int.tmod_eq_emod_of_nonneg, Int.tdiv_eq_ediv_of_nonneg, ir37, far]
theorem ansLong (s : Str) : ansF cfg 39 [.str s] [] = some (.bool (long s), []) := by
  refine ans_of_wp fn39 low39 ?_
  by_cases h : 4096 < s.length
  · simp (config := { maxSteps := 1000000 }) (disch := omega) [-List.map_replicate, -List.map_set, -List.getD_eq_getElem?_getD, -getElem?_pos, -getElem?_neg, wrap_i64, le_strLim, le_sliceLim, le_buildLim, le_sliceLimI, Int.tmod_eq_emod_of_nonneg, Int.tdiv_eq_ediv_of_nonneg, omLe, omLeN, omLt, omLtN, omEq, omEqN, onLe, onLeN, onLt, onLtN, onEq, onEqN, ir39, long, h]
  · simp (config := { maxSteps := 1000000 }) (disch := omega) [-List.map_replicate, -List.map_set, -List.getD_eq_getElem?_getD, -getElem?_pos, -getElem?_neg, wrap_i64, le_strLim, le_sliceLim, le_buildLim, le_sliceLimI, Int.tmod_eq_emod_of_nonneg, Int.tdiv_eq_ediv_of_nonneg, omLe, omLeN, omLt, omLtN, omEq, omEqN, onLe, onLeN, onLt, onLtN, onEq, onEqN, ir39, long, h]

theorem ansIndexFar (nl : Option Bool) (z : Nat) (l : List Int) (hz : l ≠ [] → z = 1) (hlen : l.length < 1000000000) : ansF cfg 69 [.lst nl z (intsA l), .fn 37 [] []] [] = some (.int .i64 (idxP far l 0), []) := by
  refine ans_of_wp fn69 low69 ?_
  simp (config := { maxSteps := 1000000 }) (disch := omega) [-List.map_replicate, -List.map_set, -List.getD_eq_getElem?_getD, -getElem?_pos, -getElem?_neg, wrap_i64, le_strLim, le_sliceLim, le_buildLim, le_sliceLimI, Int.tmod_eq_emod_of_nonneg, Int.tdiv_eq_ediv_of_nonneg, omLe, omLeN, omLt, omLtN, omEq, omEqN, onLe, onLeN, onLt, onLtN, onEq, onEqN, ir69]
  refine Wp.loopM (fun (i : Nat) => l.length - i) (fun i => [some (.lst nl z (intsA l)), some (.fn 37 [] []), none, none, some (.int .i64 l.length), some (.int .i64 i), none, none]) (fun _ => []) (fun i => i ≤ l.length ∧ idxP far l 0 = idxP far (l.drop i) i) ?_ 0 ⟨by omega, by simp⟩ (by simp) rfl
  rintro i ⟨hi, hx⟩
  by_cases h1 : i < l.length
  · have hg : l[i]? = some l[i] := List.getElem?_eq_getElem h1
    obtain rfl : z = 1 := hz (by intro h; rw [h] at h1; simp at h1)
    rw [idxP_drop far h1] at hx
    rw [hx]
    have hf := ansFar l[i]
    generalize l[i] = n at *
    cases h2 : far n with
    | true =>
      rw [h2] at hf
      simp (config := { maxSteps := 1000000 }) (disch := omega) [-List.map_replicate, -List.map_set, -List.getD_eq_getElem?_getD, -getElem?_pos, -getElem?_neg, wrap_i64, le_strLim, le_sliceLim, le_buildLim, le_sliceLimI, Int.tmod_eq_emod_of_nonneg, Int.tdiv_eq_ediv_of_nonneg, omLe, omLeN, omLt, omLtN, omEq, omEqN, onLe, onLeN, onLt, onLtN, onEq, onEqN, hg, hf]
    | false =>
      rw [h2] at hf hx
      simp (config := { maxSteps := 1000000 }) (disch := omega) [-List.map_replicate, -List.map_set, -List.getD_eq_getElem?_getD, -getElem?_pos, -getElem?_neg, wrap_i64, le_strLim, le_sliceLim, le_buildLim, le_sliceLimI, Int.tmod_eq_emod_of_nonneg, Int.tdiv_eq_ediv_of_nonneg, omLe, omLeN, omLt, omLtN, omEq, omEqN, onLe, onLeN, onLt, onLtN, onEq, onEqN, hg, hf]
      exact ⟨i + 1, ⟨by omega, rfl⟩, by omega, by omega⟩
  · obtain rfl : i = l.length := by omega
    rw [hx, List.drop_length]
    simp (config := { maxSteps := 1000000 }) (disch := omega) [-List.map_replicate, -List.map_set, -List.getD_eq_getElem?_getD, -getElem?_pos, -getElem?_neg, wrap_i64, le_strLim, le_sliceLim, le_buildLim, le_sliceLimI, Int.tmod_eq_emod_of_nonneg, Int.tdiv_eq_ediv_of_nonneg, omLe, omLeN, omLt, omLtN, omEq, omEqN, onLe, onLeN, onLt, onLtN, onEq, onEqN, idxP]
theorem ansContainsFar (nl : Option Bool) (z : Nat) (l : List Int) (hz : l ≠ [] → z = 1) (hlen : l.length < 1000000000) : ansF cfg 38 [.lst nl z (intsA l), .fn 37 [] []] [] = some (.bool (l.any far), []) := by
  refine ans_of_wp fn38 low38 ?_
  have h := ansIndexFar nl z l hz hlen
  obtain ⟨h1, h2, h3⟩ := idxP_any far l 0
  generalize idxP far l 0 = k at *
  cases ha : l.any far with
  | true =>
    have := h1.2 ha
    simp (config := { maxSteps := 1000000 }) (disch := omega) [-List.map_replicate, -List.map_set, -List.getD_eq_getElem?_getD, -getElem?_pos, -getElem?_neg, wrap_i64, le_strLim, le_sliceLim, le_buildLim, le_sliceLimI, Int.tmod_eq_emod_of_nonneg, Int.tdiv_eq_ediv_of_nonneg, omLe, omLeN, omLt, omLtN, omEq, omEqN, onLe, onLeN, onLt, onLtN, onEq, onEqN, ir38, h]
  | false =>
    have : ¬ 0 ≤ k := fun hk => by have := h1.1 hk; rw [ha] at this; cases this
    simp (config := { maxSteps := 1000000 }) (disch := omega) [-List.map_replicate, -List.map_set, -List.getD_eq_getElem?_getD, -getElem?_pos, -getElem?_neg, wrap_i64, le_strLim, le_sliceLim, le_buildLim, le_sliceLimI, Int.tmod_eq_emod_of_nonneg, Int.tdiv_eq_ediv_of_nonneg, omLe, omLeN, omLt, omLtN, omEq, omEqN, onLe, onLeN, onLt, onLtN, onEq, onEqN, ir38, h]
theorem ansIndexLong (nl : Option Bool) (z : Nat) (l : List Str) (hz : l ≠ [] → z = 1) (hlen : l.length < 1000000000) : ansF cfg 70 [.lst nl z (strsA l), .fn 39 [] []] [] = some (.int .i64 (idxP long l 0), []) := by
  refine ans_of_wp fn70 low70 ?_
  simp (config := { maxSteps := 1000000 }) (disch := omega) [-List.map_replicate, -List.map_set, -List.getD_eq_getElem?_getD, -getElem?_pos, -getElem?_neg, wrap_i64, le_strLim, le_sliceLim, le_buildLim, le_sliceLimI, Int.tmod_eq_emod_of_nonneg, Int.tdiv_eq_ediv_of_nonneg, omLe, omLeN, omLt, omLtN, omEq, omEqN, onLe, onLeN, onLt, onLtN, onEq, onEqN, ir70]
  refine Wp.loopM (fun (i : Nat) => l.length - i) (fun i => [some (.lst nl z (strsA l)), some (.fn 39 [] []), none, none, some (.int .i64 l.length), some (.int .i64 i), none, none]) (fun _ => []) (fun i => i ≤ l.length ∧ idxP long l 0 = idxP long (l.drop i) i) ?_ 0 ⟨by omega, by simp⟩ (by simp) rfl
  rintro i ⟨hi, hx⟩
  by_cases h1 : i < l.length
  · have hg : l[i]? = some l[i] := List.getElem?_eq_getElem h1
    obtain rfl : z = 1 := hz (by intro h; rw [h] at h1; simp at h1)
    rw [idxP_drop long h1] at hx
    rw [hx]
    have hf := ansLong l[i]
    generalize l[i] = n at *
    cases h2 : long n with
    | true =>
      rw [h2] at hf
      simp (config := { maxSteps := 1000000 }) (disch := omega) [-List.map_replicate, -List.map_set, -List.getD_eq_getElem?_getD, -getElem?_pos, -getElem?_neg, wrap_i64, le_strLim, le_sliceLim, le_buildLim, le_sliceLimI, Int.tmod_eq_emod_of_nonneg, Int.tdiv_eq_ediv_of_nonneg, omLe, omLeN, omLt, omLtN, omEq, omEqN, onLe, onLeN, onLt, onLtN, onEq, onEqN, hg, hf]
    | false =>
      rw [h2] at hf hx
      simp (config := { maxSteps := 1000000 }) (disch := omega) [-List.map_replicate, -List.map_set, -List.getD_eq_getElem?_getD, -getElem?_pos, -getElem?_neg, wrap_i64, le_strLim, le_sliceLim, le_buildLim, le_sliceLimI, Int.tmod_eq_emod_of_nonneg, Int.tdiv_eq_ediv_of_nonneg, omLe, omLeN, omLt, omLtN, omEq, omEqN, onLe, onLeN, onLt, onLtN, onEq, onEqN, hg, hf]
      exact ⟨i + 1, ⟨by omega, rfl⟩, by omega, by omega⟩
  · obtain rfl : i = l.length := by omega
    rw [hx, List.drop_length]
    simp (config := { maxSteps := 1000000 }) (disch := omega) [-List.map_replicate, -List.map_set, -List.getD_eq_getElem?_getD, -getElem?_pos, -getElem?_neg, wrap_i64, le_strLim, le_sliceLim, le_buildLim, le_sliceLimI, Int.tmod_eq_emod_of_nonneg, Int.tdiv_eq_ediv_of_nonneg, omLe, omLeN, omLt, omLtN, omEq, omEqN, onLe, onLeN, onLt, onLtN, onEq, onEqN, idxP]
theorem ansContainsLong (nl : Option Bool) (z : Nat) (l : List Str) (hz : l ≠ [] → z = 1) (hlen : l.length < 1000000000) : ansF cfg 40 [.lst nl z (strsA l), .fn 39 [] []] [] = some (.bool (l.any long), []) := by
  refine ans_of_wp fn40 low40 ?_
  have h := ansIndexLong nl z l hz hlen
  obtain ⟨h1, h2, h3⟩ := idxP_any long l 0
  generalize idxP long l 0 = k at *
  cases ha : l.any long with
  | true =>
    have := h1.2 ha
    simp (config := { maxSteps := 1000000 }) (disch := omega) [-List.map_replicate, -List.map_set, -List.getD_eq_getElem?_getD, -getElem?_pos, -getElem?_neg, wrap_i64, le_strLim, le_sliceLim, le_buildLim, le_sliceLimI, Int.tmod_eq_emod_of_nonneg, Int.tdiv_eq_ediv_of_nonneg, omLe, omLeN, omLt, omLtN, omEq, omEqN, onLe, onLeN, onLt, onLtN, onEq, onEqN, ir40, h]
  | false =>
    have : ¬ 0 ≤ k := fun hk => by have := h1.1 hk; rw [ha] at this; cases this
    simp (config := { maxSteps := 1000000 }) (disch := omega) [-List.map_replicate, -List.map_set, -List.getD_eq_getElem?_getD, -getElem?_pos, -getElem?_neg, wrap_i64, le_strLim, le_sliceLim, le_buildLim, le_sliceLimI, Int.tmod_eq_emod_of_nonneg, Int.tdiv_eq_ediv_of_nonneg, omLe, omLeN, omLt, omLtN, omEq, omEqN, onLe, onLeN, onLt, onLtN, onEq, onEqN, ir40, h]

/-! ### The line of numbers -/

theorem strsOf_map {α : Type} (f : α → Str) : ∀ l : List α, strsOf (l.map fun a => AV.str (f a)) = some (l.map f)
  | [] => rfl
  | a :: l => by simp only [List.map_cons, strsOf, strsOf_map f l]

theorem ansLineN (nl : Option Bool) (z : Nat) (l : List Int) (hz : l ≠ [] → z = 1) (h1 : 1 ≤ l.length) (hlen : l.length < 100000) (hr : ∀ n ∈ l, -9223372036854775808 ≤ n ∧ n ≤ 9223372036854775807) (hj : (Lib.join (l.map Lib.itoa) [32]).length < 100000000) : ansF cfg 42 [.lst nl z (intsA l)] [] = some (.str (lineS l), []) := by
  refine ans_of_wp fn42 low42 ?_
  simp (config := { maxSteps := 1000000 }) (disch := omega) [-List.map_replicate, -List.map_set, -List.getD_eq_getElem?_getD, -getElem?_pos, -getElem?_neg, wrap_i64, le_strLim, le_sliceLim, le_buildLim, le_sliceLimI, Int.tmod_eq_emod_of_nonneg, Int.tdiv_eq_ediv_of_nonneg, omLe, omLeN, omLt, omLtN, omEq, omEqN, onLe, onLeN, onLt, onLtN, onEq, onEqN, ir42]
  refine Wp.loopM (fun (i : Nat) => l.length - i) (fun i => [none, none, some (.osl 0 l.length), none, none, none, some (.lst nl z (intsA l)), some (.int .i64 l.length), some (.int .i64 i), none, none, none])
    (fun i => [.sl ⟨false, some 9⟩ 1 ((l.take i).map (fun n => AV.str (Lib.itoa n)) ++ List.replicate (l.length - i) (AV.str []))]) (fun i => i ≤ l.length) ?_ 0 (by omega) (by simp) (by simp)
  intro i hi
  have hll : ((l.take i).map (fun n => AV.str (Lib.itoa n)) ++ List.replicate (l.length - i) (AV.str [])).length = l.length := by simp; omega
  by_cases k : i < l.length
  · have hg : l[i]? = some l[i] := List.getElem?_eq_getElem k
    obtain rfl : z = 1 := hz (by intro h; rw [h] at k; simp at k)
    have hn := hr l[i] (List.getElem_mem k)
    have hgl : ((l.take i).map (fun n => AV.str (Lib.itoa n)) ++ List.replicate (l.length - i) (AV.str []))[i]? = some (.str []) := by
      rw [List.getElem?_append_right (by simp; omega), List.getElem?_replicate, if_pos (by simp; omega)]
    have hset : ((l.take i).map (fun n => AV.str (Lib.itoa n)) ++ List.replicate (l.length - i) (AV.str [])).set i (.str (Lib.itoa l[i])) = (l.take (i + 1)).map (fun n => AV.str (Lib.itoa n)) ++ List.replicate (l.length - (i + 1)) (AV.str []) := by
      have e : l.length - i = (l.length - (i + 1)) + 1 := by omega
      rw [e, List.replicate_succ, List.set_append_right _ _ (by simp; omega), List.take_add_one, List.getElem?_eq_getElem k]
      have e2 : i - ((l.take i).map (fun n => AV.str (Lib.itoa n))).length = 0 := by simp; omega
      rw [e2]
      simp only [List.set_cons_zero, Option.toList_some, List.map_append, List.map_cons, List.map_nil, List.append_assoc, List.cons_append, List.nil_append]
    generalize (l.take i).map (fun n => AV.str (Lib.itoa n)) ++ List.replicate (l.length - i) (AV.str []) = L at *
    generalize l[i] = n at *
    simp (config := { maxSteps := 1000000 }) (disch := omega) [-List.map_replicate, -List.map_set, -List.getD_eq_getElem?_getD, -getElem?_pos, -getElem?_neg, wrap_i64, le_strLim, le_sliceLim, le_buildLim, le_sliceLimI, Int.tmod_eq_emod_of_nonneg, Int.tdiv_eq_ediv_of_nonneg, omLe, omLeN, omLt, omLtN, omEq, omEqN, onLe, onLeN, onLt, onLtN, onEq, onEqN, hg, hll, hgl, hset, itoaG]
    exact ⟨i + 1, by omega, by omega, by omega, rfl⟩
  · obtain rfl : i = l.length := by omega
    have hm := strsOf_map Lib.itoa l
    have hl2 : (l.map Lib.itoa).length = l.length := by simp
    rw [List.take_length, Nat.sub_self, List.replicate_zero, List.append_nil] at hll ⊢
    simp (config := { maxSteps := 1000000 }) (disch := omega) [-List.map_replicate, -List.map_set, -List.getD_eq_getElem?_getD, -getElem?_pos, -getElem?_neg, wrap_i64, le_strLim, le_sliceLim, le_buildLim, le_sliceLimI, Int.tmod_eq_emod_of_nonneg, Int.tdiv_eq_ediv_of_nonneg, omLe, omLeN, omLt, omLtN, omEq, omEqN, onLe, onLeN, onLt, onLtN, onEq, onEqN, hll, hm, hl2, joinG, lineS]

/-! ### Lengths -/

theorem join_len (sep : Str) : ∀ (l : List Str) (n : Nat), (∀ p ∈ l, p.length ≤ n) → (Lib.join l sep).length ≤ l.length * (n + sep.length)
  | [], n, _ => by simp [Lib.join_nil]
  | [p], n, h => by
    have := h p List.mem_cons_self
    rw [Lib.join_one]; simp; omega
  | p :: q :: r, n, h => by
    have h1 := h p List.mem_cons_self
    have ih := join_len sep (q :: r) n (fun x hx => h x (List.mem_cons_of_mem _ hx))
    have e : Lib.join (p :: q :: r) sep = p ++ (sep ++ Lib.join (q :: r) sep) := by
      rw [Lib.join_cons, Lib.join_cons]; simp [Lib.joinTail]
    rw [e]
    simp only [List.length_append, List.length_cons] at ih ⊢
    have e2 : (r.length + 1 + 1) * (n + sep.length) = (r.length + 1) * (n + sep.length) + (n + sep.length) := Nat.succ_mul _ _
    omega
theorem joinN_len (l : List Int) (h : ∀ n ∈ l, -1099511627776 ≤ n ∧ n ≤ 1099511627776) : (Lib.join (l.map Lib.itoa) [32]).length ≤ l.length * 22 := by
  have := join_len [32] (l.map Lib.itoa) 21 (fun p hp => by
    obtain ⟨n, hn, rfl⟩ := List.mem_map.1 hp
    have := h n hn
    exact Lib.itoa_length_le n (by omega) (by omega))
  simpa using this
theorem linesS_snoc (l : List Str) (t : Str) : linesS (l ++ [t]) = linesS l ++ (esc t ++ [10]) := by simp [linesS]
theorem linesS_len : ∀ (l : List Str) (n b : Nat), 4 * n + 1 ≤ b → (∀ t ∈ l, t.length ≤ n) → (linesS l).length ≤ l.length * b
  | [], n, b, _, _ => by simp [linesS]
  | t :: l, n, b, hb, h => by
    have h1 := h t List.mem_cons_self
    have h2 := esc_length t
    have ih := linesS_len l n b hb (fun x hx => h x (List.mem_cons_of_mem _ hx))
    have e : linesS (t :: l) = esc t ++ ([10] ++ linesS l) := by simp [linesS]
    rw [e]
    simp only [List.length_append, List.length_cons, List.length_nil]
    have e2 : (l.length + 1) * b = l.length * b + b := Nat.succ_mul _ _
    omega
theorem take_succ {α : Type} {l : List α} {i : Nat} (h : i < l.length) : l.take (i + 1) = l.take i ++ [l[i]] := by
  rw [List.take_add_one, List.getElem?_eq_getElem h]; rfl
theorem lineS_len (l : List Int) (h : ∀ n ∈ l, -1099511627776 ≤ n ∧ n ≤ 1099511627776) : 1 ≤ (lineS l).length ∧ (lineS l).length ≤ l.length * 22 + 1 := by
  have := joinN_len l h
  unfold lineS
  simp only [List.length_append, List.length_cons, List.length_nil]
  omega

/-! ### Encode of the program -/

def encA (c : EvC) : AV := .tup [.str (if encE c = 0 then encT c else []), .int .i64 (encE c)]

theorem encE_out {c : EvC} (h : c.out = true) : encE c = 2 := by simp [encE, h]
theorem encE_big {c : EvC} (h : c.out = false) (h2 : c.big = true) : encE c = 8 := by simp [encE, h, h2]

theorem ansEncP (e : Ev) (ok : e.ok) : ansF cfg 12 [evA e] [] = some (encA e.c, []) := by
  refine ans_of_wp fn12 low12 ?_
  obtain ⟨⟨id, day, kind, nums, texts⟩, nl, z, nl2, z2⟩ := e
  obtain ⟨hz, hz2, hn, ht⟩ := ok
  simp only at hz hz2 hn ht
  have hcf := ansContainsFar nl z nums hz (by omega)
  have hcl := ansContainsLong nl2 z2 texts hz2 (by omega)
  unfold encA evA Ev.cells
  simp only
  by_cases k1 : id < 1
  · rw [encE_out (by simp [EvC.out, k1])]; simp (config := { maxSteps := 1000000 }) (disch := omega) [-List.map_replicate, -List.map_set, -List.getD_eq_getElem?_getD, -getElem?_pos, -getElem?_neg, wrap_i64, le_strLim, le_sliceLim, le_buildLim, le_sliceLimI, Int.tmod_eq_emod_of_nonneg, Int.tdiv_eq_ediv_of_nonneg, omLe, omLeN, omLt, omLtN, omEq, omEqN, onLe, onLeN, onLt, onLtN, onEq, onEqN, ir12, k1]
  by_cases k2 : 1073741824 < id
  · rw [encE_out (by simp [EvC.out, k2])]; simp (config := { maxSteps := 1000000 }) (disch := omega) [-List.map_replicate, -List.map_set, -List.getD_eq_getElem?_getD, -getElem?_pos, -getElem?_neg, wrap_i64, le_strLim, le_sliceLim, le_buildLim, le_sliceLimI, Int.tmod_eq_emod_of_nonneg, Int.tdiv_eq_ediv_of_nonneg, omLe, omLeN, omLt, omLtN, omEq, omEqN, onLe, onLeN, onLt, onLtN, onEq, onEqN, ir12, k1, k2]
  by_cases k3 : day < 0
  · rw [encE_out (by simp [EvC.out, k3])]; simp (config := { maxSteps := 1000000 }) (disch := omega) [-List.map_replicate, -List.map_set, -List.getD_eq_getElem?_getD, -getElem?_pos, -getElem?_neg, wrap_i64, le_strLim, le_sliceLim, le_buildLim, le_sliceLimI, Int.tmod_eq_emod_of_nonneg, Int.tdiv_eq_ediv_of_nonneg, omLe, omLeN, omLt, omLtN, omEq, omEqN, onLe, onLeN, onLt, onLtN, onEq, onEqN, ir12, k1, k2, k3]
  by_cases k4 : 1048575 < day
  · rw [encE_out (by simp [EvC.out, k4])]; simp (config := { maxSteps := 1000000 }) (disch := omega) [-List.map_replicate, -List.map_set, -List.getD_eq_getElem?_getD, -getElem?_pos, -getElem?_neg, wrap_i64, le_strLim, le_sliceLim, le_buildLim, le_sliceLimI, Int.tmod_eq_emod_of_nonneg, Int.tdiv_eq_ediv_of_nonneg, omLe, omLeN, omLt, omLtN, omEq, omEqN, onLe, onLeN, onLt, onLtN, onEq, onEqN, ir12, k1, k2, k3, k4]
  by_cases k5 : kind < 1
  · rw [encE_out (by simp [EvC.out, k5])]; simp (config := { maxSteps := 1000000 }) (disch := omega) [-List.map_replicate, -List.map_set, -List.getD_eq_getElem?_getD, -getElem?_pos, -getElem?_neg, wrap_i64, le_strLim, le_sliceLim, le_buildLim, le_sliceLimI, Int.tmod_eq_emod_of_nonneg, Int.tdiv_eq_ediv_of_nonneg, omLe, omLeN, omLt, omLtN, omEq, omEqN, onLe, onLeN, onLt, onLtN, onEq, onEqN, ir12, k1, k2, k3, k4, k5]
  by_cases k6 : 59 < kind
  · rw [encE_out (by simp [EvC.out, k6])]; simp (config := { maxSteps := 1000000 }) (disch := omega) [-List.map_replicate, -List.map_set, -List.getD_eq_getElem?_getD, -getElem?_pos, -getElem?_neg, wrap_i64, le_strLim, le_sliceLim, le_buildLim, le_sliceLimI, Int.tmod_eq_emod_of_nonneg, Int.tdiv_eq_ediv_of_nonneg, omLe, omLeN, omLt, omLtN, omEq, omEqN, onLe, onLeN, onLt, onLtN, onEq, onEqN, ir12, k1, k2, k3, k4, k5, k6]
  cases k7 : nums.any far with
  | true => rw [encE_out (by simp only [EvC.out, k7, Bool.or_true])]; simp (config := { maxSteps := 1000000 }) (disch := omega) [-List.map_replicate, -List.map_set, -List.getD_eq_getElem?_getD, -getElem?_pos, -getElem?_neg, wrap_i64, le_strLim, le_sliceLim, le_buildLim, le_sliceLimI, Int.tmod_eq_emod_of_nonneg, Int.tdiv_eq_ediv_of_nonneg, omLe, omLeN, omLt, omLtN, omEq, omEqN, onLe, onLeN, onLt, onLtN, onEq, onEqN, ir12, k1, k2, k3, k4, k5, k6, k7, hcf]
  | false =>
    have hout : EvC.out ⟨id, day, kind, nums, texts⟩ = false := by simp [EvC.out, k1, k2, k3, k4, k5, k6]; simpa using k7
    by_cases k8 : 1024 < nums.length
    · rw [encE_big hout (by simp [EvC.big, k8])]; simp (config := { maxSteps := 1000000 }) (disch := omega) [-List.map_replicate, -List.map_set, -List.getD_eq_getElem?_getD, -getElem?_pos, -getElem?_neg, wrap_i64, le_strLim, le_sliceLim, le_buildLim, le_sliceLimI, Int.tmod_eq_emod_of_nonneg, Int.tdiv_eq_ediv_of_nonneg, omLe, omLeN, omLt, omLtN, omEq, omEqN, onLe, onLeN, onLt, onLtN, onEq, onEqN, ir12, k1, k2, k3, k4, k5, k6, k7, hcf, k8]
    by_cases k9 : 256 < texts.length
    · rw [encE_big hout (by simp [EvC.big, k9])]; simp (config := { maxSteps := 1000000 }) (disch := omega) [-List.map_replicate, -List.map_set, -List.getD_eq_getElem?_getD, -getElem?_pos, -getElem?_neg, wrap_i64, le_strLim, le_sliceLim, le_buildLim, le_sliceLimI, Int.tmod_eq_emod_of_nonneg, Int.tdiv_eq_ediv_of_nonneg, omLe, omLeN, omLt, omLtN, omEq, omEqN, onLe, onLeN, onLt, onLtN, onEq, onEqN, ir12, k1, k2, k3, k4, k5, k6, k7, hcf, k8, k9]
    cases k10 : texts.any long with
    | true => rw [encE_big hout (by simp only [EvC.big, k10, Bool.or_true])]; simp (config := { maxSteps := 1000000 }) (disch := omega) [-List.map_replicate, -List.map_set, -List.getD_eq_getElem?_getD, -getElem?_pos, -getElem?_neg, wrap_i64, le_strLim, le_sliceLim, le_buildLim, le_sliceLimI, Int.tmod_eq_emod_of_nonneg, Int.tdiv_eq_ediv_of_nonneg, omLe, omLeN, omLt, omLtN, omEq, omEqN, onLe, onLeN, onLt, onLtN, onEq, onEqN, ir12, k1, k2, k3, k4, k5, k6, k7, hcf, k8, k9, k10, hcl]
    | false =>
      have hbig : EvC.big ⟨id, day, kind, nums, texts⟩ = false := by simp [EvC.big, k8, k9]; simpa using k10
      have hnums : ∀ n ∈ nums, -1099511627776 ≤ n ∧ n ≤ 1099511627776 := fun n hn => by
        have := List.any_eq_false.1 k7 n hn
        simp only [far, Bool.or_eq_true, decide_eq_true_eq, not_or] at this
        omega
      have htx : ∀ t ∈ texts, t.length ≤ 4096 := fun t ht => by
        have := List.any_eq_false.1 k10 t ht
        simp only [long, decide_eq_true_eq] at this
        omega
      have hall : ∀ n ∈ id :: day :: kind :: nums, -1099511627776 ≤ n ∧ n ≤ 1099511627776 := fun n hn => by
        simp only [List.mem_cons] at hn
        rcases hn with rfl | rfl | rfl | hn
        · omega
        · omega
        · omega
        · exact hnums n hn
      have hln := lineS_len _ hall
      have hj := joinN_len _ hall
      simp only [List.length_cons] at hln hj
      have hzn : z = 1 ∨ nums = [] := by
        by_cases h0 : nums = []
        · exact .inr h0
        · exact .inl (hz h0)
      have hline := fun nl => ansLineN nl 1 (id :: day :: kind :: nums) (fun _ => rfl) (by simp) (by simp; omega) (fun n hn => by have := hall n hn; omega) (by omega)
      have hT : encT ⟨id, day, kind, nums, texts⟩ = lineS (id :: day :: kind :: nums) ++ linesS texts := rfl
      have hE : encE ⟨id, day, kind, nums, texts⟩ = if 65536 < (lineS (id :: day :: kind :: nums) ++ linesS texts).length then 8 else 0 := by
        unfold encE
        simp only [hout, hbig, hT, Bool.false_eq_true, if_false]
      rw [hE, hT]
      have hcons : intsA (id :: day :: kind :: nums) = [.int .i64 id, .int .i64 day, .int .i64 kind] ++ intsA nums := rfl
      rw [hcons] at hline
      simp only [List.cons_append, List.nil_append] at hline
      generalize lineS (id :: day :: kind :: nums) = H at *
      have hB : Bld [.var 25 [.int .i64 id, .int .i64 day, .int .i64 kind, .lst nl z (intsA nums), .lst nl2 z2 (strsA texts)], .var 69 [.nilp, .osl 2 0], .sl ⟨false, some 5⟩ 1 [], .sl ⟨false, some 3⟩ 1 (.int .i64 id :: .int .i64 day :: .int .i64 kind :: intsA nums), .dead] 1 2 .nilp [] :=
        ⟨rfl, rfl, by decide, .inl rfl, by simp, by simp, by simp [shut, underAll, AV.under]⟩
      have hw := ansWriteStr hB H (by simp) (by omega)
      simp only [bldSet, List.nil_append, List.set_cons_zero, List.set_cons_succ] at hw
      simp (config := { maxSteps := 1000000 }) (disch := omega) [-List.map_replicate, -List.map_set, -List.getD_eq_getElem?_getD, -getElem?_pos, -getElem?_neg, wrap_i64, le_strLim, le_sliceLim, le_buildLim, le_sliceLimI, Int.tmod_eq_emod_of_nonneg, Int.tdiv_eq_ediv_of_nonneg, omLe, omLeN, omLt, omLtN, omEq, omEqN, onLe, onLeN, onLt, onLtN, onEq, onEqN, ir12, k1, k2, k3, k4, k5, k6, k7, hcf, k8, k9, k10, hcl, hzn, hline, hw]
      have hTx : ∀ i, (linesS (texts.take i)).length ≤ 256 * 16385 := fun i => by
        have h1 := linesS_len (texts.take i) 4096 16385 (by omega) (fun t ht => htx t (List.mem_of_mem_take ht))
        have h2 : (texts.take i).length ≤ 256 := by simp; omega
        exact Nat.le_trans h1 (Nat.mul_le_mul_right 16385 h2)
      refine Wp.loopM (fun (i : Nat) => texts.length - i) (fun i => [none, none, none, none, none, none, some (.ptr 1 0), none, none, none, none, none, none, none, none, none, none, some (.lst nl2 z2 (strsA texts)), some (.int .i64 texts.length), some (.int .i64 i), none, none, none, none, none])
        (fun i => [.var 25 [.int .i64 id, .int .i64 day, .int .i64 kind, .lst nl z (intsA nums), .lst nl2 z2 (strsA texts)], .var 69 [.ptr 1 0, .osl 2 (H ++ linesS (texts.take i)).length], .sl ⟨false, some 5⟩ 1 ((H ++ linesS (texts.take i)).map ofByte), .sl ⟨false, some 3⟩ 1 (.int .i64 id :: .int .i64 day :: .int .i64 kind :: intsA nums), .dead])
        (fun i => i ≤ texts.length) ?_ 0 (by omega) (by simp) (by simp [linesS])
      intro i hi
      have hTi := hTx i
      by_cases k : i < texts.length
      · have hg : texts[i]? = some texts[i] := List.getElem?_eq_getElem k
        have h0 : texts ≠ [] := by intro h; rw [h] at k; simp at k
        obtain rfl : z2 = 1 := hz2 h0
        have ht4 := htx texts[i] (List.getElem_mem k)
        have hsn : linesS (texts.take (i + 1)) = linesS (texts.take i) ++ (esc texts[i] ++ [10]) := by rw [take_succ k, linesS_snoc]
        have he := ansEscP texts[i] (by omega)
        have hel := esc_length texts[i]
        generalize texts[i] = t at *
        generalize linesS (texts.take i) = L at *
        have hB : Bld [.var 25 [.int .i64 id, .int .i64 day, .int .i64 kind, .lst nl z (intsA nums), .lst nl2 1 (strsA texts)], .var 69 [.ptr 1 0, .osl 2 (H ++ L).length], .sl ⟨false, some 5⟩ 1 ((H ++ L).map ofByte), .sl ⟨false, some 3⟩ 1 (.int .i64 id :: .int .i64 day :: .int .i64 kind :: intsA nums), .dead] 1 2 (.ptr 1 0) (H ++ L) :=
          ⟨rfl, rfl, by decide, .inr rfl, by simp, by simp, by simp [shut, underAll, AV.under]⟩
        have hw := ansWriteStr hB (esc t ++ [10]) (by simp only [List.length_append]; omega) (by simp only [List.length_append, List.length_cons, List.length_nil]; omega)
        simp only [bldSet, List.set_cons_zero, List.set_cons_succ] at hw
        have e3 : H ++ linesS (texts.take (i + 1)) = H ++ L ++ (esc t ++ [10]) := by rw [hsn, List.append_assoc]
        have hi2 : i + 1 ≤ texts.length := k
        generalize hHL : H ++ L = M at *
        simp (config := { maxSteps := 1000000 }) (disch := omega) [-List.map_replicate, -List.map_set, -List.getD_eq_getElem?_getD, -getElem?_pos, -getElem?_neg, wrap_i64, le_strLim, le_sliceLim, le_buildLim, le_sliceLimI, Int.tmod_eq_emod_of_nonneg, Int.tdiv_eq_ediv_of_nonneg, omLe, omLeN, omLt, omLtN, omEq, omEqN, onLe, onLeN, onLt, onLtN, onEq, onEqN, hg, he, hw]
        have e4 := congrArg List.length e3
        have e5 := congrArg (List.map ofByte) e3
        simp only [List.length_append, List.map_append, List.length_cons, List.length_nil, List.map_cons, List.map_nil] at e4 e5
        exact ⟨i + 1, hi2, by omega, by omega, by omega, e5.symm⟩
      · obtain rfl : i = texts.length := by omega
        rw [List.take_length] at hTi ⊢
        have hB : Bld [.var 25 [.int .i64 id, .int .i64 day, .int .i64 kind, .lst nl z (intsA nums), .lst nl2 z2 (strsA texts)], .var 69 [.ptr 1 0, .osl 2 (H ++ linesS texts).length], .sl ⟨false, some 5⟩ 1 ((H ++ linesS texts).map ofByte), .sl ⟨false, some 3⟩ 1 (.int .i64 id :: .int .i64 day :: .int .i64 kind :: intsA nums), .dead] 1 2 (.ptr 1 0) (H ++ linesS texts) :=
          ⟨rfl, rfl, by decide, .inr rfl, by simp, by simp, by simp [shut, underAll, AV.under]⟩
        have hlen := ansLenB hB
        have hpos : H ++ linesS texts ≠ [] := by
          intro h
          have := congrArg List.length h
          simp only [List.length_append, List.length_nil] at this
          omega
        have hstr := ansStringB hB (by simp only [List.length_append]; omega) hpos
        have hMl : (H ++ linesS texts).length = H.length + (linesS texts).length := List.length_append
        have hlb : (H ++ linesS texts).length < 100000000 := by simp only [List.length_append]; omega
        generalize H ++ linesS texts = M at *
        by_cases hM : 65536 < M.length
        · simp (config := { maxSteps := 1000000 }) (disch := omega) [-List.map_replicate, -List.map_set, -List.getD_eq_getElem?_getD, -getElem?_pos, -getElem?_neg, wrap_i64, le_strLim, le_sliceLim, le_buildLim, le_sliceLimI, Int.tmod_eq_emod_of_nonneg, Int.tdiv_eq_ediv_of_nonneg, omLe, omLeN, omLt, omLtN, omEq, omEqN, onLe, onLeN, onLt, onLtN, onEq, onEqN, hlen, hM]
        · simp (config := { maxSteps := 1000000 }) (disch := omega) [-List.map_replicate, -List.map_set, -List.getD_eq_getElem?_getD, -getElem?_pos, -getElem?_neg, wrap_i64, le_strLim, le_sliceLim, le_buildLim, le_sliceLimI, Int.tmod_eq_emod_of_nonneg, Int.tdiv_eq_ediv_of_nonneg, omLe, omLeN, omLt, omLtN, omEq, omEqN, onLe, onLeN, onLt, onLtN, onEq, onEqN, hlen, hM, hstr]
end Go.Proofs.YtfhfnehoaiegcaaGreatDoor
