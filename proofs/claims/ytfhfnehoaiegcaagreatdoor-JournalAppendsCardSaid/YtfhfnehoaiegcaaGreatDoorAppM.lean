/-
  Encode of the reference; copies of events. zeros, before, fits, entry and Check of the reference. Journals that come in; FewEntries of the reference. Events of the program and of the reference; equal events, one by one. Append of the reference. (Over a seat in which Copy hands over its slice: journal/o.)
-/
import Derived.Test.YtfhfnehoaiegcaaGreatDoorEncM
import Derived.Test.YtfhfnehoaiegcaaGreatDoorChkM
import Derived.Test.YtfhfnehoaiegcaaGreatDoorAwkM
set_option linter.all false
namespace Go.Proofs.YtfhfnehoaiegcaaGreatDoor
open Go.Am
set_option maxRecDepth 10000
set_option maxHeartbeats 40000000

theorem join_snoc (l : List Str) (p : Str) (h : l ≠ []) : Lib.join (l ++ [p]) [32] = Lib.join l [32] ++ (32 :: p) := by
  cases l with
  | nil => exact absurd rfl h
  | cons a r => rw [List.cons_append, Lib.join_cons, Lib.join_cons]; simp [Lib.joinTail]

theorem ansEncR (e : Ev) (ok : e.ok) : ansF cfg 14 [evA e] [] = some (encA e.c, []) := by
  refine ans_of_wp fn14 low14 ?_
  obtain ⟨⟨id, day, kind, nums, texts⟩, nl, z, nl2, z2⟩ := e
  obtain ⟨hz, hz2, hn, ht⟩ := ok
  simp only at hz hz2 hn ht
  unfold encA evA Ev.cells
  simp only
  by_cases kk : (((((id < 1 ∨ 1073741824 < id) ∨ day < 0) ∨ 1048575 < day) ∨ kind < 1) ∨ 59 < kind)
  · rw [encE_out (by
      simp only [EvC.out, Bool.or_eq_true, decide_eq_true_eq]
      exact .inl kk)]
    simp (config := { maxSteps := 1000000 }) (disch := omega) [-List.map_replicate, -List.map_set, -List.getD_eq_getElem?_getD, -getElem?_pos, -getElem?_neg, wrap_i64, le_strLim, le_sliceLim, le_buildLim, le_sliceLimI, Int.tmod_eq_emod_of_nonneg, Int.tdiv_eq_ediv_of_nonneg, omLe, omLeN, omLt, omLtN, omEq, omEqN, onLe, onLeN, onLt, onLtN, onEq, onEqN, ir14, kk]
  have k1 : ¬ id < 1 := fun h => kk (.inl (.inl (.inl (.inl (.inl h)))))
  have k2 : ¬ 1073741824 < id := fun h => kk (.inl (.inl (.inl (.inl (.inr h)))))
  have k3 : ¬ day < 0 := fun h => kk (.inl (.inl (.inl (.inr h))))
  have k4 : ¬ 1048575 < day := fun h => kk (.inl (.inl (.inr h)))
  have k5 : ¬ kind < 1 := fun h => kk (.inl (.inr h))
  have k6 : ¬ 59 < kind := fun h => kk (.inr h)
  clear kk
  simp (config := { maxSteps := 1000000 }) (disch := omega) [-List.map_replicate, -List.map_set, -List.getD_eq_getElem?_getD, -getElem?_pos, -getElem?_neg, wrap_i64, le_strLim, le_sliceLim, le_buildLim, le_sliceLimI, Int.tmod_eq_emod_of_nonneg, Int.tdiv_eq_ediv_of_nonneg, omLe, omLeN, omLt, omLtN, omEq, omEqN, onLe, onLeN, onLt, onLtN, onEq, onEqN, ir14, k1, k2, k3, k4, k5, k6]
  refine Wp.loopM (fun (i : Nat) => nums.length - i) (fun i => [none, some (.ptr 0 0), none, none, some (.int .i64 i), none, none, none, none, none, none, none, none, none, none, none, none, none, none, none, none])
    (fun i => [.var 25 [.int .i64 id, .int .i64 day, .int .i64 kind, .lst nl z (intsA nums), .lst nl2 z2 (strsA texts)]])
    (fun i => i ≤ nums.length ∧ (nums.take i).any far = false) ?_ 0 ⟨by omega, rfl⟩ (by simp) (by simp)
  rintro i ⟨hi, hfar⟩
  by_cases k : i < nums.length
  · have hg : nums[i]? = some nums[i] := List.getElem?_eq_getElem k
    obtain rfl : z = 1 := hz (by intro h; rw [h] at k; simp at k)
    have hmem := List.getElem_mem k
    have hsn := take_succ k
    generalize nums[i] = n at *
    have bad : far n = true → encE ⟨id, day, kind, nums, texts⟩ = 2 := fun h => encE_out (by simp only [EvC.out, List.any_eq_true.2 ⟨n, hmem, h⟩, Bool.or_true])
    by_cases f1 : n < -1099511627776
    · rw [bad (by simp [far, f1])]
      simp (config := { maxSteps := 1000000 }) (disch := omega) [-List.map_replicate, -List.map_set, -List.getD_eq_getElem?_getD, -getElem?_pos, -getElem?_neg, wrap_i64, le_strLim, le_sliceLim, le_buildLim, le_sliceLimI, Int.tmod_eq_emod_of_nonneg, Int.tdiv_eq_ediv_of_nonneg, omLe, omLeN, omLt, omLtN, omEq, omEqN, onLe, onLeN, onLt, onLtN, onEq, onEqN, hg, f1]
    by_cases f2 : 1099511627776 < n
    · rw [bad (by simp [far, f2])]
      simp (config := { maxSteps := 1000000 }) (disch := omega) [-List.map_replicate, -List.map_set, -List.getD_eq_getElem?_getD, -getElem?_pos, -getElem?_neg, wrap_i64, le_strLim, le_sliceLim, le_buildLim, le_sliceLimI, Int.tmod_eq_emod_of_nonneg, Int.tdiv_eq_ediv_of_nonneg, omLe, omLeN, omLt, omLtN, omEq, omEqN, onLe, onLeN, onLt, onLtN, onEq, onEqN, hg, f1, f2]
    have hi2 : i + 1 ≤ nums.length := k
    simp (config := { maxSteps := 1000000 }) (disch := omega) [-List.map_replicate, -List.map_set, -List.getD_eq_getElem?_getD, -getElem?_pos, -getElem?_neg, wrap_i64, le_strLim, le_sliceLim, le_buildLim, le_sliceLimI, Int.tmod_eq_emod_of_nonneg, Int.tdiv_eq_ediv_of_nonneg, omLe, omLeN, omLt, omLtN, omEq, omEqN, onLe, onLeN, onLt, onLtN, onEq, onEqN, hg, f1, f2]
    refine ⟨i + 1, ⟨hi2, ?_⟩, by omega, by omega⟩
    rw [hsn]
    have hf : far n = false := by simp [far, f1, f2]
    intro x hx
    rcases List.mem_append.1 hx with hx | hx
    · have := List.any_eq_false.1 hfar x hx
      simpa using this
    · obtain rfl : x = n := by simpa using hx
      exact hf
  obtain rfl : i = nums.length := by omega
  rw [List.take_length] at hfar
  have hout : EvC.out ⟨id, day, kind, nums, texts⟩ = false := by simp [EvC.out, k1, k2, k3, k4, k5, k6]; simpa using hfar
  by_cases k8 : 1024 < nums.length
  · rw [encE_big hout (by simp [EvC.big, k8])]; simp (config := { maxSteps := 1000000 }) (disch := omega) [-List.map_replicate, -List.map_set, -List.getD_eq_getElem?_getD, -getElem?_pos, -getElem?_neg, wrap_i64, le_strLim, le_sliceLim, le_buildLim, le_sliceLimI, Int.tmod_eq_emod_of_nonneg, Int.tdiv_eq_ediv_of_nonneg, omLe, omLeN, omLt, omLtN, omEq, omEqN, onLe, onLeN, onLt, onLtN, onEq, onEqN, k8]
  by_cases k9 : 256 < texts.length
  · rw [encE_big hout (by simp [EvC.big, k9])]; simp (config := { maxSteps := 1000000 }) (disch := omega) [-List.map_replicate, -List.map_set, -List.getD_eq_getElem?_getD, -getElem?_pos, -getElem?_neg, wrap_i64, le_strLim, le_sliceLim, le_buildLim, le_sliceLimI, Int.tmod_eq_emod_of_nonneg, Int.tdiv_eq_ediv_of_nonneg, omLe, omLeN, omLt, omLtN, omEq, omEqN, onLe, onLeN, onLt, onLtN, onEq, onEqN, k8, k9]
  have hnums : ∀ n ∈ nums, -1099511627776 ≤ n ∧ n ≤ 1099511627776 := fun n hn => by
    have := List.any_eq_false.1 hfar n hn
    simp only [far, Bool.or_eq_true, decide_eq_true_eq, not_or] at this
    omega
  have hall : ∀ n ∈ id :: day :: kind :: nums, -1099511627776 ≤ n ∧ n ≤ 1099511627776 := fun n hn => by
    simp only [List.mem_cons] at hn
    rcases hn with rfl | rfl | rfl | hn
    · omega
    · omega
    · omega
    · exact hnums n hn
  have hJ : ∀ i, (Lib.join ((id :: day :: kind :: nums.take i).map Lib.itoa) [32]).length ≤ 22594 := fun i => by
    have h1 := joinN_len (id :: day :: kind :: nums.take i) (fun n hn => hall n (by
      simp only [List.mem_cons] at hn ⊢
      rcases hn with h | h | h | h
      · exact .inl h
      · exact .inr (.inl h)
      · exact .inr (.inr (.inl h))
      · exact .inr (.inr (.inr (List.mem_of_mem_take h)))))
    have h2 : (id :: day :: kind :: nums.take i).length ≤ 1027 := by simp only [List.length_cons, List.length_take]; omega
    generalize Lib.join ((id :: day :: kind :: nums.take i).map Lib.itoa) [32] = J at *
    generalize (id :: day :: kind :: nums.take i).length = q at *
    omega
  have hil : ∀ n ∈ id :: day :: kind :: nums, (Lib.itoa n).length ≤ 21 := fun n hn => by
    have := hall n hn
    exact Lib.itoa_length_le n (by omega) (by omega)
  have l1 := hil id (by simp)
  have l2 := hil day (by simp)
  have l3 := hil kind (by simp)
  have j0 : Lib.join ((id :: day :: kind :: nums.take 0).map Lib.itoa) [32] = Lib.itoa id ++ [32] ++ Lib.itoa day ++ [32] ++ Lib.itoa kind := by
    simp [Lib.join, List.intercalate]
  have g1 : itoaG [.int .i64 id] = some (.str (Lib.itoa id)) := by simp only [itoaG]; rw [if_pos (by omega)]
  have g2 : itoaG [.int .i64 day] = some (.str (Lib.itoa day)) := by simp only [itoaG]; rw [if_pos (by omega)]
  have g3 : itoaG [.int .i64 kind] = some (.str (Lib.itoa kind)) := by simp only [itoaG]; rw [if_pos (by omega)]
  simp (config := { maxSteps := 1000000 }) (disch := omega) [-List.map_replicate, -List.map_set, -List.getD_eq_getElem?_getD, -getElem?_pos, -getElem?_neg, wrap_i64, le_strLim, le_sliceLim, le_buildLim, le_sliceLimI, Int.tmod_eq_emod_of_nonneg, Int.tdiv_eq_ediv_of_nonneg, omLe, omLeN, omLt, omLtN, omEq, omEqN, onLe, onLeN, onLt, onLtN, onEq, onEqN, k8, k9, g1, g2, g3]
  refine Wp.loopM (fun (i : Nat) => nums.length - i) (fun i => [none, some (.ptr 0 0), none, none, none, some (.str (Lib.join ((id :: day :: kind :: nums.take i).map Lib.itoa) [32])), some (.int .i64 i), none, none, none, none, none, none, none, none, none, none, none, none, none, none])
    (fun i => [.var 25 [.int .i64 id, .int .i64 day, .int .i64 kind, .lst nl z (intsA nums), .lst nl2 z2 (strsA texts)]])
    (fun i => i ≤ nums.length) ?_ 0 (by omega) (by rw [j0]; simp) (by simp)
  intro i hi
  have hJi := hJ i
  by_cases k : i < nums.length
  · have hg : nums[i]? = some nums[i] := List.getElem?_eq_getElem k
    obtain rfl : z = 1 := hz (by intro h; rw [h] at k; simp at k)
    have hmem := List.getElem_mem k
    have hni := hnums _ hmem
    have hsn : Lib.join ((id :: day :: kind :: nums.take (i + 1)).map Lib.itoa) [32] = Lib.join ((id :: day :: kind :: nums.take i).map Lib.itoa) [32] ++ (32 :: Lib.itoa nums[i]) := by
      have hm : (id :: day :: kind :: nums.take (i + 1)).map Lib.itoa = (id :: day :: kind :: nums.take i).map Lib.itoa ++ [Lib.itoa nums[i]] := by
        rw [take_succ k]
        simp only [List.map_cons, List.map_append, List.map_nil, List.cons_append]
      rw [hm, join_snoc _ _ (by simp)]
    have hlx := hil nums[i] (by simp [hmem])
    generalize nums[i] = n at *
    generalize Lib.join ((id :: day :: kind :: nums.take i).map Lib.itoa) [32] = J at *
    have hi2 : i + 1 ≤ nums.length := k
    simp (config := { maxSteps := 1000000 }) (disch := omega) [-List.map_replicate, -List.map_set, -List.getD_eq_getElem?_getD, -getElem?_pos, -getElem?_neg, wrap_i64, le_strLim, le_sliceLim, le_buildLim, le_sliceLimI, Int.tmod_eq_emod_of_nonneg, Int.tdiv_eq_ediv_of_nonneg, omLe, omLeN, omLt, omLtN, omEq, omEqN, onLe, onLeN, onLt, onLtN, onEq, onEqN, hg, itoaG]
    refine ⟨i + 1, hi2, by omega, ?_, by omega⟩
    rw [← hsn]
    simp
  obtain rfl : i = nums.length := by omega
  rw [List.take_length] at hJi ⊢
  have hH : Lib.join ((id :: day :: kind :: nums).map Lib.itoa) [32] ++ [10] = lineS (id :: day :: kind :: nums) := rfl
  have hln := lineS_len _ hall
  simp only [List.length_cons] at hln
  have hT : encT ⟨id, day, kind, nums, texts⟩ = lineS (id :: day :: kind :: nums) ++ linesS texts := rfl
  simp only [List.map_cons] at hH hJi ⊢
  generalize Lib.join (Lib.itoa id :: Lib.itoa day :: Lib.itoa kind :: nums.map Lib.itoa) [32] = J at *
  generalize lineS (id :: day :: kind :: nums) = H at *
  simp (config := { maxSteps := 1000000 }) (disch := omega) [-List.map_replicate, -List.map_set, -List.getD_eq_getElem?_getD, -getElem?_pos, -getElem?_neg, wrap_i64, le_strLim, le_sliceLim, le_buildLim, le_sliceLimI, Int.tmod_eq_emod_of_nonneg, Int.tdiv_eq_ediv_of_nonneg, omLe, omLeN, omLt, omLtN, omEq, omEqN, onLe, onLeN, onLt, onLtN, onEq, onEqN, hH]
  refine Wp.loopM (fun (i : Nat) => texts.length - i) (fun i => [none, some (.ptr 0 0), none, none, none, some (.str (H ++ linesS (texts.take i))), none, some (.int .i64 i), none, none, none, none, none, none, none, none, none, none, none, none, none])
    (fun i => [.var 25 [.int .i64 id, .int .i64 day, .int .i64 kind, .lst nl z (intsA nums), .lst nl2 z2 (strsA texts)]])
    (fun i => i ≤ texts.length ∧ (texts.take i).any long = false) ?_ 0 ⟨by omega, rfl⟩ (by simp [linesS]) (by simp)
  rintro i ⟨hi, hlong⟩
  have htx : ∀ t ∈ texts.take i, t.length ≤ 4096 := fun t ht => by
    have := List.any_eq_false.1 hlong t ht
    simp only [long, decide_eq_true_eq] at this
    omega
  have hTi : (linesS (texts.take i)).length ≤ 256 * 16385 := by
    have h1 := linesS_len (texts.take i) 4096 16385 (by omega) htx
    have h2 : (texts.take i).length ≤ 256 := by simp; omega
    exact Nat.le_trans h1 (Nat.mul_le_mul_right 16385 h2)
  by_cases k : i < texts.length
  · have hg : texts[i]? = some texts[i] := List.getElem?_eq_getElem k
    obtain rfl : z2 = 1 := hz2 (by intro h; rw [h] at k; simp at k)
    have hmem := List.getElem_mem k
    have hsn : linesS (texts.take (i + 1)) = linesS (texts.take i) ++ (esc texts[i] ++ [10]) := by rw [take_succ k, linesS_snoc]
    have hst := take_succ k
    generalize texts[i] = t at *
    by_cases f1 : 4096 < t.length
    · have hla : texts.any long = true := List.any_eq_true.2 ⟨t, hmem, by simp [long, f1]⟩
      rw [encE_big hout (by simp only [EvC.big, hla, Bool.or_true])]
      simp (config := { maxSteps := 1000000 }) (disch := omega) [-List.map_replicate, -List.map_set, -List.getD_eq_getElem?_getD, -getElem?_pos, -getElem?_neg, wrap_i64, le_strLim, le_sliceLim, le_buildLim, le_sliceLimI, Int.tmod_eq_emod_of_nonneg, Int.tdiv_eq_ediv_of_nonneg, omLe, omLeN, omLt, omLtN, omEq, omEqN, onLe, onLeN, onLt, onLtN, onEq, onEqN, hg, f1]
    have he := ansEscR t (by omega)
    have hel := esc_length t
    have hi2 : i + 1 ≤ texts.length := k
    generalize linesS (texts.take i) = L at *
    simp (config := { maxSteps := 1000000 }) (disch := omega) [-List.map_replicate, -List.map_set, -List.getD_eq_getElem?_getD, -getElem?_pos, -getElem?_neg, wrap_i64, le_strLim, le_sliceLim, le_buildLim, le_sliceLimI, Int.tmod_eq_emod_of_nonneg, Int.tdiv_eq_ediv_of_nonneg, omLe, omLeN, omLt, omLtN, omEq, omEqN, onLe, onLeN, onLt, onLtN, onEq, onEqN, hg, f1, he]
    refine ⟨i + 1, ⟨hi2, ?_⟩, by omega, ?_, by omega⟩
    · rw [hst]
      have hf : long t = false := by simp [long, f1]
      intro x hx
      rcases List.mem_append.1 hx with hx | hx
      · have := List.any_eq_false.1 hlong x hx
        simpa using this
      · obtain rfl : x = t := by simpa using hx
        exact hf
    · rw [hsn]
      first | done | simp
  obtain rfl : i = texts.length := by omega
  rw [List.take_length] at hTi hlong ⊢
  have hbig : EvC.big ⟨id, day, kind, nums, texts⟩ = false := by simp [EvC.big, k8, k9]; simpa using hlong
  have hE : encE ⟨id, day, kind, nums, texts⟩ = if 65536 < (H ++ linesS texts).length then 8 else 0 := by
    unfold encE
    simp only [hout, hbig, hT, Bool.false_eq_true, if_false]
  rw [hE, hT]
  have hMl : (H ++ linesS texts).length = H.length + (linesS texts).length := List.length_append
  generalize H ++ linesS texts = M at *
  by_cases hM : 65536 < M.length
  · simp (config := { maxSteps := 1000000 }) (disch := omega) [-List.map_replicate, -List.map_set, -List.getD_eq_getElem?_getD, -getElem?_pos, -getElem?_neg, wrap_i64, le_strLim, le_sliceLim, le_buildLim, le_sliceLimI, Int.tmod_eq_emod_of_nonneg, Int.tdiv_eq_ediv_of_nonneg, omLe, omLeN, omLt, omLtN, omEq, omEqN, onLe, onLeN, onLt, onLtN, onEq, onEqN, hM]
  · simp (config := { maxSteps := 1000000 }) (disch := omega) [-List.map_replicate, -List.map_set, -List.getD_eq_getElem?_getD, -getElem?_pos, -getElem?_neg, wrap_i64, le_strLim, le_sliceLim, le_buildLim, le_sliceLimI, Int.tmod_eq_emod_of_nonneg, Int.tdiv_eq_ediv_of_nonneg, omLe, omLeN, omLt, omLtN, omEq, omEqN, onLe, onLeN, onLt, onLtN, onEq, onEqN, hM]
end Go.Proofs.YtfhfnehoaiegcaaGreatDoor

namespace Go.Proofs.YtfhfnehoaiegcaaGreatDoor
open Go.Am
set_option maxRecDepth 10000
set_option maxHeartbeats 8000000

/-- an entry of any kind: its slices may be nil -/
structure En.fair (x : En) : Prop where
  e : x.e.ok
  d : x.d.length < 100000
theorem En.ok.fair {x : En} (h : x.ok) : x.fair := ⟨h.e, h.d⟩

theorem ansZerosR : ansF cfg 88 [] [] = some (.str zeros, []) := by
  refine ans_of_wp fn88 low88 ?_
  simp (config := { maxSteps := 1000000 }) (disch := omega) [-List.map_replicate, -List.map_set, -List.getD_eq_getElem?_getD, -getElem?_pos, -getElem?_neg, wrap_i64, le_strLim, le_sliceLim, le_buildLim, le_sliceLimI, Int.tmod_eq_emod_of_nonneg, Int.tdiv_eq_ediv_of_nonneg, omLe, omLeN, omLt, omLtN, omEq, omEqN, onLe, onLeN, onLt, onLtN, onEq, onEqN, ir88, zeros_bytes, Cfg.descOf, zeros]

theorem ansBeforeR (nl : Option Bool) (z : Nat) (l : List En) (hz : l ≠ [] → z = 6) (hlen : l.length < 100000) (i : Nat) (hi : i ≤ l.length) : ansF cfg 68 [.lst nl z (ensA l), .int .i64 i] [] = some (.str (prevD (lastL (l.take i))), []) := by
  refine ans_of_wp fn68 low68 ?_
  cases i with
  | zero =>
    rw [List.take_zero, lastL_nil]
    unfold prevD
    simp (config := { maxSteps := 1000000 }) (disch := omega) [-List.map_replicate, -List.map_set, -List.getD_eq_getElem?_getD, -getElem?_pos, -getElem?_neg, wrap_i64, le_strLim, le_sliceLim, le_buildLim, le_sliceLimI, Int.tmod_eq_emod_of_nonneg, Int.tdiv_eq_ediv_of_nonneg, omLe, omLeN, omLt, omLtN, omEq, omEqN, onLe, onLeN, onLt, onLtN, onEq, onEqN, ir68, ansZerosR]
  | succ j =>
    have k : j < l.length := hi
    obtain rfl : z = 6 := hz (by intro h; rw [h] at k; simp at k)
    have hg : l[j]? = some l[j] := List.getElem?_eq_getElem k
    have hj : (((j + 1 : Nat) : Int) - 1).toNat = j := by omega
    rw [take_succ k, lastL_snoc]
    simp only [prevD, En.c]
    generalize l[j] = y at *
    simp (config := { maxSteps := 1000000 }) (disch := omega) [-List.map_replicate, -List.map_set, -List.getD_eq_getElem?_getD, -getElem?_pos, -getElem?_neg, wrap_i64, le_strLim, le_sliceLim, le_buildLim, le_sliceLimI, Int.tmod_eq_emod_of_nonneg, Int.tdiv_eq_ediv_of_nonneg, omLe, omLeN, omLt, omLtN, omEq, omEqN, onLe, onLeN, onLt, onLtN, onEq, onEqN, ir68, hg, hj, enA, Ev.cells]

theorem ansFitsR (nl : Option Bool) (z : Nat) (l : List En) (hz : l ≠ [] → z = 6) (hlen : l.length < 100000) (i : Nat) (hi : i ≤ l.length) (e : Ev) : ansF cfg 66 [.lst nl z (ensA l), .int .i64 i, evA e] [] = some (.bool (!late (lastL (l.take i)) e.c), []) := by
  refine ans_of_wp fn66 low66 ?_
  have hA : evA e = .agg [.int .i64 e.c.id, .int .i64 e.c.day, .int .i64 e.c.kind, .lst e.nl e.z (intsA e.c.nums), .lst e.nl2 e.z2 (strsA e.c.texts)] := rfl
  rw [hA]
  cases i with
  | zero =>
    rw [List.take_zero, lastL_nil]
    simp only [late]
    simp (config := { maxSteps := 1000000 }) (disch := omega) [-List.map_replicate, -List.map_set, -List.getD_eq_getElem?_getD, -getElem?_pos, -getElem?_neg, wrap_i64, le_strLim, le_sliceLim, le_buildLim, le_sliceLimI, Int.tmod_eq_emod_of_nonneg, Int.tdiv_eq_ediv_of_nonneg, omLe, omLeN, omLt, omLtN, omEq, omEqN, onLe, onLeN, onLt, onLtN, onEq, onEqN, ir66, splice]
  | succ j =>
    have k : j < l.length := hi
    obtain rfl : z = 6 := hz (by intro h; rw [h] at k; simp at k)
    have hg : l[j]? = some l[j] := List.getElem?_eq_getElem k
    have hj : (((j + 1 : Nat) : Int) - 1).toNat = j := by omega
    rw [take_succ k, lastL_snoc]
    simp only [late, En.c]
    generalize l[j] = y at *
    by_cases q1 : e.c.id ≤ y.e.c.id
    · simp (config := { maxSteps := 1000000 }) (disch := omega) [-List.map_replicate, -List.map_set, -List.getD_eq_getElem?_getD, -getElem?_pos, -getElem?_neg, wrap_i64, le_strLim, le_sliceLim, le_buildLim, le_sliceLimI, Int.tmod_eq_emod_of_nonneg, Int.tdiv_eq_ediv_of_nonneg, omLe, omLeN, omLt, omLtN, omEq, omEqN, onLe, onLeN, onLt, onLtN, onEq, onEqN, ir66, hg, hj, enA, Ev.cells, splice, q1]
    · by_cases q2 : e.c.day < y.e.c.day
      · simp (config := { maxSteps := 1000000 }) (disch := omega) [-List.map_replicate, -List.map_set, -List.getD_eq_getElem?_getD, -getElem?_pos, -getElem?_neg, wrap_i64, le_strLim, le_sliceLim, le_buildLim, le_sliceLimI, Int.tmod_eq_emod_of_nonneg, Int.tdiv_eq_ediv_of_nonneg, omLe, omLeN, omLt, omLtN, omEq, omEqN, onLe, onLeN, onLt, onLtN, onEq, onEqN, ir66, hg, hj, enA, Ev.cells, splice, q1, q2]
      · simp (config := { maxSteps := 1000000 }) (disch := omega) [-List.map_replicate, -List.map_set, -List.getD_eq_getElem?_getD, -getElem?_pos, -getElem?_neg, wrap_i64, le_strLim, le_sliceLim, le_buildLim, le_sliceLimI, Int.tmod_eq_emod_of_nonneg, Int.tdiv_eq_ediv_of_nonneg, omLe, omLeN, omLt, omLtN, omEq, omEqN, onLe, onLeN, onLt, onLtN, onEq, onEqN, ir66, hg, hj, enA, Ev.cells, splice, q1, q2]

theorem encT_ne (c : EvC) : encT c ≠ [] := by
  unfold encT lineS
  simp

theorem ansEntryR (nl : Option Bool) (z : Nat) (l : List En) (hz : l ≠ [] → z = 6) (hl : ∀ x ∈ l, x.fair) (hlen : l.length < 100000) (i : Nat) (k : i < l.length) : ansF cfg 57 [.lst nl z (ensA l), .int .i64 i] [] = some (.int .i64 (entE (lastL (l.take i)) l[i].c), []) := by
  refine ans_of_wp fn57 low57 ?_
  obtain rfl : z = 6 := hz (by intro h; rw [h] at k; simp at k)
  have hg : l[i]? = some l[i] := List.getElem?_eq_getElem k
  have hx := hl _ (List.getElem_mem k)
  have hE := ansEncR l[i].e hx.e
  have hF := ansFitsR nl 6 l hz hlen i (by omega) l[i].e
  have hB := ansBeforeR nl 6 l hz hlen i (by omega)
  have hpl : (prevD (lastL (l.take i))).length < 100000 := by
    rcases list_end (l.take i) with h | ⟨m, y, h⟩
    · rw [h, lastL_nil]; decide
    · rw [h, lastL_snoc]
      exact (hl y (List.mem_of_mem_take (by rw [h]; simp))).d
  have hS := fun (h : encE l[i].e.c = 0) => ansSumR (prevD (lastL (l.take i)) ++ encT l[i].e.c) (by simp [encT_ne]) (by have := (enc_fine h).2.2.2.2; simp only [List.length_append]; omega)
  have hA : evA l[i].e = .agg [.int .i64 l[i].e.c.id, .int .i64 l[i].e.c.day, .int .i64 l[i].e.c.kind, .lst l[i].e.nl l[i].e.z (intsA l[i].e.c.nums), .lst l[i].e.nl2 l[i].e.z2 (strsA l[i].e.c.texts)] := rfl
  rw [hA] at hE hF
  unfold entE fitE
  have hcc : l[i].c.c = l[i].e.c := rfl
  have hcd : l[i].c.d = l[i].d := rfl
  rw [hcc, hcd]
  unfold encA at hE
  generalize lastL (l.take i) = p at *
  have hss : ∀ t, sumR (prevD p ++ t) = sealT p t := fun t => (sum_same _).symm
  generalize l[i] = x at *
  by_cases h0 : encE x.e.c = 0
  · have hS := hS h0
    rw [hss] at hS
    have hT := (enc_fine h0).2.2.2.2
    generalize encT x.e.c = T at *
    generalize prevD p = B at *
    generalize sealT p T = D at *
    simp only [h0, if_true, ne_eq, not_true_eq_false, if_false] at hE ⊢
    by_cases h1 : late p x.e.c = true
    · simp only [h1, if_true, Bool.not_true] at hF ⊢
      simp (config := { maxSteps := 1000000 }) (disch := omega) [-List.map_replicate, -List.map_set, -List.getD_eq_getElem?_getD, -getElem?_pos, -getElem?_neg, wrap_i64, le_strLim, le_sliceLim, le_buildLim, le_sliceLimI, Int.tmod_eq_emod_of_nonneg, Int.tdiv_eq_ediv_of_nonneg, omLe, omLeN, omLt, omLtN, omEq, omEqN, onLe, onLeN, onLt, onLtN, onEq, onEqN, ir57, hg, hE, hF, enA, Ev.cells, splice]
    · have h1 : late p x.e.c = false := by simpa using h1
      simp only [h1, Bool.not_false, Bool.false_eq_true, if_false] at hF ⊢
      by_cases h2 : x.d = D
      · have h2' : (x.d != D) = false := by simp [h2]
        simp (config := { maxSteps := 1000000 }) (disch := omega) [-List.map_replicate, -List.map_set, -List.getD_eq_getElem?_getD, -getElem?_pos, -getElem?_neg, wrap_i64, le_strLim, le_sliceLim, le_buildLim, le_sliceLimI, Int.tmod_eq_emod_of_nonneg, Int.tdiv_eq_ediv_of_nonneg, omLe, omLeN, omLt, omLtN, omEq, omEqN, onLe, onLeN, onLt, onLtN, onEq, onEqN, ir57, hg, hE, hF, hB, hS, enA, Ev.cells, splice, h2, h2']
      · have h2' : (x.d != D) = true := by simp [h2]
        simp (config := { maxSteps := 1000000 }) (disch := omega) [-List.map_replicate, -List.map_set, -List.getD_eq_getElem?_getD, -getElem?_pos, -getElem?_neg, wrap_i64, le_strLim, le_sliceLim, le_buildLim, le_sliceLimI, Int.tmod_eq_emod_of_nonneg, Int.tdiv_eq_ediv_of_nonneg, omLe, omLeN, omLt, omLtN, omEq, omEqN, onLe, onLeN, onLt, onLtN, onEq, onEqN, ir57, hg, hE, hF, hB, hS, enA, Ev.cells, splice, h2, h2']
  · have h0' : (encE x.e.c == 0) = false := by rw [beq_eq_false_iff_ne]; exact h0
    simp only [h0, if_false, ne_eq, not_false_eq_true, if_true] at hE ⊢
    simp (config := { maxSteps := 1000000 }) (disch := omega) [-List.map_replicate, -List.map_set, -List.getD_eq_getElem?_getD, -getElem?_pos, -getElem?_neg, wrap_i64, le_strLim, le_sliceLim, le_buildLim, le_sliceLimI, Int.tmod_eq_emod_of_nonneg, Int.tdiv_eq_ediv_of_nonneg, omLe, omLeN, omLt, omLtN, omEq, omEqN, onLe, onLeN, onLt, onLtN, onEq, onEqN, ir57, hg, hE, enA, Ev.cells, splice, h0, h0']

theorem ansCheckR (nl : Option Bool) (z : Nat) (l : List En) (hz : l ≠ [] → z = 6) (hl : ∀ x ∈ l, x.fair) (hlen : l.length < 100000) : ansF cfg 33 [.lst nl z (ensA l)] [] = some (chkA (l.map En.c), []) := by
  refine ans_of_wp fn33 low33 ?_
  unfold chkA
  have hll : (l.map En.c).length = l.length := by simp
  rw [hll]
  by_cases hbig : 1024 < l.length
  · simp only [hbig, if_true]
    simp (config := { maxSteps := 1000000 }) (disch := omega) [-List.map_replicate, -List.map_set, -List.getD_eq_getElem?_getD, -getElem?_pos, -getElem?_neg, wrap_i64, le_strLim, le_sliceLim, le_buildLim, le_sliceLimI, Int.tmod_eq_emod_of_nonneg, Int.tdiv_eq_ediv_of_nonneg, omLe, omLeN, omLt, omLtN, omEq, omEqN, onLe, onLeN, onLt, onLtN, onEq, onEqN, ir33, hbig]
  simp only [hbig, if_false]
  simp (config := { maxSteps := 1000000 }) (disch := omega) [-List.map_replicate, -List.map_set, -List.getD_eq_getElem?_getD, -getElem?_pos, -getElem?_neg, wrap_i64, le_strLim, le_sliceLim, le_buildLim, le_sliceLimI, Int.tmod_eq_emod_of_nonneg, Int.tdiv_eq_ediv_of_nonneg, omLe, omLeN, omLt, omLtN, omEq, omEqN, onLe, onLeN, onLt, onLtN, onEq, onEqN, ir33, hbig]
  refine Wp.loopM (fun (i : Nat) => l.length - i) (fun i => [some (.lst nl z (ensA l)), none, none, some (.int .i64 i), none, none, none, none, none])
    (fun _ => []) (fun i => i ≤ l.length ∧ chk none 0 (l.map En.c) = chk (lastL (l.take i)) i ((l.drop i).map En.c)) ?_ 0 ⟨by simp, rfl⟩ (by simp) rfl
  rintro i ⟨hi, hc⟩
  by_cases k : i < l.length
  · have hd : l.drop i = l[i] :: l.drop (i + 1) := List.drop_eq_getElem_cons k
    have htk : lastL (l.take (i + 1)) = some l[i].c := by rw [take_succ k, lastL_snoc]
    have hen := ansEntryR nl z l hz hl hlen i k
    rw [hd] at hc
    simp only [List.map_cons, chk] at hc
    generalize l[i] = x at *
    generalize entE (lastL (l.take i)) x.c = E at *
    have hi2 : i + 1 ≤ l.length := k
    by_cases e0 : E = 0
    · subst e0
      simp only [if_true] at hc
      simp (config := { maxSteps := 1000000 }) (disch := omega) [-List.map_replicate, -List.map_set, -List.getD_eq_getElem?_getD, -getElem?_pos, -getElem?_neg, wrap_i64, le_strLim, le_sliceLim, le_buildLim, le_sliceLimI, Int.tmod_eq_emod_of_nonneg, Int.tdiv_eq_ediv_of_nonneg, omLe, omLeN, omLt, omLtN, omEq, omEqN, onLe, onLeN, onLt, onLtN, onEq, onEqN, hen, splice]
      exact ⟨i + 1, ⟨hi2, by rw [hc, htk, List.map_drop]⟩, by omega, by simp⟩
    · have e0' : (E == 0) = false := by rw [beq_eq_false_iff_ne]; exact e0
      simp only [e0, if_false] at hc
      rw [hc]
      simp (config := { maxSteps := 1000000 }) (disch := omega) [-List.map_replicate, -List.map_set, -List.getD_eq_getElem?_getD, -getElem?_pos, -getElem?_neg, wrap_i64, le_strLim, le_sliceLim, le_buildLim, le_sliceLimI, Int.tmod_eq_emod_of_nonneg, Int.tdiv_eq_ediv_of_nonneg, omLe, omLeN, omLt, omLtN, omEq, omEqN, onLe, onLeN, onLt, onLtN, onEq, onEqN, hen, e0, e0', splice]
  · obtain rfl : i = l.length := by omega
    rw [List.drop_length] at hc
    rw [hc]
    simp (config := { maxSteps := 1000000 }) (disch := omega) [-List.map_replicate, -List.map_set, -List.getD_eq_getElem?_getD, -getElem?_pos, -getElem?_neg, wrap_i64, le_strLim, le_sliceLim, le_buildLim, le_sliceLimI, Int.tmod_eq_emod_of_nonneg, Int.tdiv_eq_ediv_of_nonneg, omLe, omLeN, omLt, omLtN, omEq, omEqN, onLe, onLeN, onLt, onLtN, onEq, onEqN, chk]
end Go.Proofs.YtfhfnehoaiegcaaGreatDoor

namespace Go.Proofs.YtfhfnehoaiegcaaGreatDoor
open Go.Am Go.ChangeShapes Go.WideShapes Go.RowKit
set_option maxRecDepth 10000
set_option maxHeartbeats 8000000

/-- an entry that came in -/
structure En.inn (x : En) : Prop where
  e : x.e.inn
  d : x.d.length ≤ maxLen
theorem args_ens {ts : List TypeId} {xs : List AV} (h : ShpArgs Tryz.prog (36 :: ts) xs) : ∃ (nl : Bool) (z : Nat) (l : List En) (r : List AV), xs = .lst (some nl) z (ensA l) :: r ∧ (l ≠ [] → z = 6) ∧ (nl = true → z = 0 ∧ l = []) ∧ l.length ≤ maxLen ∧ (∀ n ∈ l, n.inn) ∧ ShpArgs Tryz.prog ts r := by
  obtain ⟨n, cs, r, rfl, h1, h2⟩ := h
  obtain ⟨nl, z, l, rfl, k1, k2, k3, k4⟩ := h1.sliceMap (e := 52) enA En.inn (by kernel_rfl) 6 (by kernel_rfl) (by decide) (fun m cs h => by
    have hfs : Tryz.prog.underlying 52 = some (.struct (fieldsAt Tryz.prog 52)) := by kernel_rfl
    have hft : (fieldsAt Tryz.prog 52).toList.map (·.type) = [25, 9] := by kernel_rfl
    obtain ⟨m, hs⟩ := h.struct hfs
    rw [hft] at hs
    obtain ⟨a, r, rfl, ha, b, r2, rfl, hb, rfl⟩ := hs
    obtain ⟨e, he, _, rfl⟩ := shp_ev ha
    obtain ⟨d, rfl, hd⟩ := hb.str (by kernel_rfl)
    exact ⟨⟨e, d⟩, ⟨he, hd⟩, by rw [hfs]; simp [enA, elemOfCells, aggU]⟩)
  refine ⟨nl, z, l, r, rfl, fun hl => k1 0 (List.length_pos_iff.2 hl), k2, k3, k4, h2⟩

def fewN (x : En) : Bool := fewC x.e.c && decide (x.d.length ≤ 40)
theorem ansFewEn (nl : Option Bool) (z : Nat) (l : List En) (hz : l ≠ [] → z = 6) (hl : ∀ x ∈ l, x.inn) (hlen : l.length ≤ 9223372036854775807) : ansF cfg 18 [.lst nl z (ensA l)] [] = some (.bool (l.all fewN && decide (l.length ≤ 20)), []) := by
  refine ans_of_wp fn18 low18 ?_
  simp (config := { maxSteps := 1000000 }) (disch := omega) [-List.map_replicate, -List.map_set, -List.getD_eq_getElem?_getD, -getElem?_pos, -getElem?_neg, wrap_i64, le_strLim, le_sliceLim, le_buildLim, le_sliceLimI, Int.tmod_eq_emod_of_nonneg, Int.tdiv_eq_ediv_of_nonneg, omLe, omLeN, omLt, omLtN, omEq, omEqN, onLe, onLeN, onLt, onLtN, onEq, onEqN, ir18]
  refine Wp.loopM (fun (i : Nat) => l.length - i) (fun i => [some (.lst nl z (ensA l)), none, some (.int .i64 i), none, none, none])
    (fun _ => []) (fun i => i ≤ l.length ∧ l.all fewN = (l.drop i).all fewN) ?_ 0 ⟨by simp, rfl⟩ (by simp) rfl
  rintro i ⟨hi, ha⟩
  by_cases k : i < l.length
  · have hg : l[i]? = some l[i] := List.getElem?_eq_getElem k
    obtain rfl : z = 6 := hz (by intro h; rw [h] at k; simp at k)
    have hx := hl _ (List.getElem_mem k)
    rw [List.drop_eq_getElem_cons k, List.all_cons] at ha
    have hF := ansFew l[i].e hx.e.w
    have hdl := hx.d
    generalize l[i] = x at *
    have hdl : x.d.length ≤ 9223372036854775807 := hdl
    unfold evA Ev.cells at hF
    have hi2 : i + 1 ≤ l.length := k
    rw [ha]
    unfold fewN
    cases hf : fewC x.e.c with
    | false =>
      rw [hf] at hF
      simp only [Bool.false_and]
      clear ha
      simp (config := { maxSteps := 1000000 }) (disch := omega) [-List.map_replicate, -List.map_set, -List.getD_eq_getElem?_getD, -getElem?_pos, -getElem?_neg, wrap_i64, le_strLim, le_sliceLim, le_buildLim, le_sliceLimI, Int.tmod_eq_emod_of_nonneg, Int.tdiv_eq_ediv_of_nonneg, omLe, omLeN, omLt, omLtN, omEq, omEqN, onLe, onLeN, onLt, onLtN, onEq, onEqN, hg, hF, enA, Ev.cells, splice]
    | true =>
      rw [hf] at hF
      by_cases hd : x.d.length ≤ 40
      · have ha2 : l.all fewN = (l.drop (i + 1)).all fewN := by rw [ha]; simp [fewN, hf, hd]
        simp only [hd, decide_true, Bool.true_and]
        clear ha
        simp (config := { maxSteps := 1000000 }) (disch := omega) [-List.map_replicate, -List.map_set, -List.getD_eq_getElem?_getD, -getElem?_pos, -getElem?_neg, wrap_i64, le_strLim, le_sliceLim, le_buildLim, le_sliceLimI, Int.tmod_eq_emod_of_nonneg, Int.tdiv_eq_ediv_of_nonneg, omLe, omLeN, omLt, omLtN, omEq, omEqN, onLe, onLeN, onLt, onLtN, onEq, onEqN, hg, hF, enA, Ev.cells, splice]
        exact ⟨i + 1, ⟨hi2, rfl⟩, by omega, by omega⟩
      · simp only [hd, decide_false, Bool.and_false, Bool.false_and]
        clear ha
        simp (config := { maxSteps := 1000000 }) (disch := omega) [-List.map_replicate, -List.map_set, -List.getD_eq_getElem?_getD, -getElem?_pos, -getElem?_neg, wrap_i64, le_strLim, le_sliceLim, le_buildLim, le_sliceLimI, Int.tmod_eq_emod_of_nonneg, Int.tdiv_eq_ediv_of_nonneg, omLe, omLeN, omLt, omLtN, omEq, omEqN, onLe, onLeN, onLt, onLtN, onEq, onEqN, hg, hF, enA, Ev.cells, splice]
  · obtain rfl : i = l.length := by omega
    rw [ha, List.drop_length]
    simp (config := { maxSteps := 1000000 }) (disch := omega) [-List.map_replicate, -List.map_set, -List.getD_eq_getElem?_getD, -getElem?_pos, -getElem?_neg, wrap_i64, le_strLim, le_sliceLim, le_buildLim, le_sliceLimI, Int.tmod_eq_emod_of_nonneg, Int.tdiv_eq_ediv_of_nonneg, omLe, omLeN, omLt, omLtN, omEq, omEqN, onLe, onLeN, onLt, onLtN, onEq, onEqN, splice]
    omega
end Go.Proofs.YtfhfnehoaiegcaaGreatDoor

namespace Go.Proofs.YtfhfnehoaiegcaaGreatDoor
open Go.Am
set_option maxRecDepth 10000
set_option maxHeartbeats 8000000

def evsOf (l : List En) : List Ev := l.map fun x => evCp x.e.c
theorem evsOf_len (l : List En) : (evsOf l).length = l.length := by simp [evsOf]
theorem evsA_len (l : List Ev) : (evsA l).length = l.length := by simp [evsA]
theorem evsOf_snoc {l : List En} {i : Nat} (h : i < l.length) : evsA (evsOf (l.take (i + 1))) = evsA (evsOf (l.take i)) ++ [evA (evCp l[i].e.c)] := by
  unfold evsOf evsA
  rw [take_succ h, List.map_append, List.map_append]
  rfl

theorem ansEventsP (nl : Option Bool) (z : Nat) (l : List En) (hz : l ≠ [] → z = 6) (hl : ∀ x ∈ l, x.good) (hlen : l.length < 100000) : ansF cfg 35 [.lst nl z (ensA l)] [] = some (.lst none 5 (evsA (evsOf l)), []) := by
  refine ans_of_wp fn35 low35 ?_
  simp (config := { maxSteps := 1000000 }) (disch := omega) [-List.map_replicate, -List.map_set, -List.getD_eq_getElem?_getD, -getElem?_pos, -getElem?_neg, wrap_i64, le_strLim, le_sliceLim, le_buildLim, le_sliceLimI, Int.tmod_eq_emod_of_nonneg, Int.tdiv_eq_ediv_of_nonneg, omLe, omLeN, omLt, omLtN, omEq, omEqN, onLe, onLeN, onLt, onLtN, onEq, onEqN, ir35]
  refine Wp.loopM (fun (i : Nat) => l.length - i) (fun i => [none, none, some (.osl 0 i), none, some (.lst nl z (ensA l)), some (.int .i64 l.length), some (.int .i64 i), none, none, none, none, none])
    (fun i => [.sl ⟨false, some 25⟩ 5 (evsA (evsOf (l.take i)))]) (fun i => i ≤ l.length) ?_ 0 (by omega) (by simp) (by simp [evsOf, evsA])
  intro i hi
  have hcl : (evsA (evsOf (l.take i))).length = i := by simp [evsA, evsOf]; omega
  by_cases k : i < l.length
  · have hg : l[i]? = some l[i] := List.getElem?_eq_getElem k
    obtain rfl : z = 6 := hz (by intro h; rw [h] at k; simp at k)
    have hx := hl _ (List.getElem_mem k)
    have hsn := evsOf_snoc k
    have hc := ansEvent l[i].e hx.ok.e hx.ok.n hx.fine
    generalize l[i] = x at *
    generalize evsA (evsOf (l.take i)) = A at *
    have hi2 : i + 1 ≤ l.length := k
    unfold evA Ev.cells at hc hsn
    unfold evCp at hc hsn
    simp only at hc hsn
    simp (config := { maxSteps := 1000000 }) (disch := omega) [-List.map_replicate, -List.map_set, -List.getD_eq_getElem?_getD, -getElem?_pos, -getElem?_neg, wrap_i64, le_strLim, le_sliceLim, le_buildLim, le_sliceLimI, Int.tmod_eq_emod_of_nonneg, Int.tdiv_eq_ediv_of_nonneg, omLe, omLeN, omLt, omLtN, omEq, omEqN, onLe, onLeN, onLt, onLtN, onEq, onEqN, hg, enA, Ev.cells, hc, hcl, splice]
    exact ⟨i + 1, hi2, by omega, by omega, hsn.symm⟩
  · obtain rfl : i = l.length := by omega
    rw [List.take_length] at hcl ⊢
    simp (config := { maxSteps := 1000000 }) (disch := omega) [-List.map_replicate, -List.map_set, -List.getD_eq_getElem?_getD, -getElem?_pos, -getElem?_neg, wrap_i64, le_strLim, le_sliceLim, le_buildLim, le_sliceLimI, Int.tmod_eq_emod_of_nonneg, Int.tdiv_eq_ediv_of_nonneg, omLe, omLeN, omLt, omLtN, omEq, omEqN, onLe, onLeN, onLt, onLtN, onEq, onEqN, hcl]

theorem ansEventsR (nl : Option Bool) (z : Nat) (l : List En) (hz : l ≠ [] → z = 6) (hl : ∀ x ∈ l, x.e.ok) (hlen : l.length < 100000) : ansF cfg 36 [.lst nl z (ensA l)] [] = some (.lst none 5 (evsA (evsOf l)), []) := by
  refine ans_of_wp fn36 low36 ?_
  simp (config := { maxSteps := 1000000 }) (disch := omega) [-List.map_replicate, -List.map_set, -List.getD_eq_getElem?_getD, -getElem?_pos, -getElem?_neg, wrap_i64, le_strLim, le_sliceLim, le_buildLim, le_sliceLimI, Int.tmod_eq_emod_of_nonneg, Int.tdiv_eq_ediv_of_nonneg, omLe, omLeN, omLt, omLtN, omEq, omEqN, onLe, onLeN, onLt, onLtN, onEq, onEqN, ir36]
  refine Wp.loopM (fun (i : Nat) => l.length - i) (fun i => [some (.lst nl z (ensA l)), none, some (.osl 0 i), some (.int .i64 i), none, none, none, none])
    (fun i => [.sl ⟨false, some 25⟩ 5 (evsA (evsOf (l.take i)))]) (fun i => i ≤ l.length) ?_ 0 (by omega) (by simp) (by simp [evsOf, evsA])
  intro i hi
  have hcl : (evsA (evsOf (l.take i))).length = i := by simp [evsA, evsOf]; omega
  by_cases k : i < l.length
  · have hg : l[i]? = some l[i] := List.getElem?_eq_getElem k
    obtain rfl : z = 6 := hz (by intro h; rw [h] at k; simp at k)
    have hx := hl _ (List.getElem_mem k)
    have hsn := evsOf_snoc k
    have hc := ansCopyEv l[i].e hx
    generalize l[i] = x at *
    generalize evsA (evsOf (l.take i)) = A at *
    have hi2 : i + 1 ≤ l.length := k
    unfold evA Ev.cells at hc hsn
    unfold evCp at hc hsn
    simp only at hc hsn
    simp (config := { maxSteps := 1000000 }) (disch := omega) [-List.map_replicate, -List.map_set, -List.getD_eq_getElem?_getD, -getElem?_pos, -getElem?_neg, wrap_i64, le_strLim, le_sliceLim, le_buildLim, le_sliceLimI, Int.tmod_eq_emod_of_nonneg, Int.tdiv_eq_ediv_of_nonneg, omLe, omLeN, omLt, omLtN, omEq, omEqN, onLe, onLeN, onLt, onLtN, onEq, onEqN, hg, enA, Ev.cells, hc, hcl, splice]
    exact ⟨i + 1, hi2, by omega, by omega, hsn.symm⟩
  · obtain rfl : i = l.length := by omega
    rw [List.take_length] at hcl ⊢
    simp (config := { maxSteps := 1000000 }) (disch := omega) [-List.map_replicate, -List.map_set, -List.getD_eq_getElem?_getD, -getElem?_pos, -getElem?_neg, wrap_i64, le_strLim, le_sliceLim, le_buildLim, le_sliceLimI, Int.tmod_eq_emod_of_nonneg, Int.tdiv_eq_ediv_of_nonneg, omLe, omLeN, omLt, omLtN, omEq, omEqN, onLe, onLeN, onLt, onLtN, onEq, onEqN, hcl]

/-- events are equal to themselves, one by one -/
theorem ansEqEvs (l : List Ev) (hl : ∀ x ∈ l, x.ok ∧ x.nn) (hlen : l.length < 100000) : ansF cfg 34 [.lst none 5 (evsA l), .lst none 5 (evsA l), .fn 17 [] []] [] = some (.bool true, []) := by
  refine ans_of_wp fn34 low34 ?_
  have hL := evsA_len l
  simp (config := { maxSteps := 1000000 }) (disch := omega) [-List.map_replicate, -List.map_set, -List.getD_eq_getElem?_getD, -getElem?_pos, -getElem?_neg, wrap_i64, le_strLim, le_sliceLim, le_buildLim, le_sliceLimI, Int.tmod_eq_emod_of_nonneg, Int.tdiv_eq_ediv_of_nonneg, omLe, omLeN, omLt, omLtN, omEq, omEqN, onLe, onLeN, onLt, onLtN, onEq, onEqN, ir34, hL]
  refine Wp.loopM (fun (i : Nat) => l.length - i) (fun i => [none, some (.lst none 5 (evsA l)), some (.fn 17 [] []), none, none, none, none, none, some (.lst none 5 (evsA l)), some (.int .i64 l.length), some (.int .i64 i), none, none, none, none, none])
    (fun _ => []) (fun i => i ≤ l.length) ?_ 0 (by omega) (by simp) rfl
  intro i hi
  by_cases k : i < l.length
  · have hg : l[i]? = some l[i] := List.getElem?_eq_getElem k
    have hgE : (evsA l)[i]? = some (evA l[i]) := by simp [evsA, hg]
    obtain ⟨h1, h2⟩ := hl _ (List.getElem_mem k)
    have hs := ansSameEv l[i] l[i] h1 h1
    have hi2 : i + 1 ≤ l.length := k
    generalize l[i] = x at *
    obtain ⟨n1, n2⟩ := h2
    unfold evA Ev.cells at hs hgE
    simp only [decide_true] at hs
    generalize evsA l = A at *
    simp (config := { maxSteps := 1000000 }) (disch := omega) [-List.map_replicate, -List.map_set, -List.getD_eq_getElem?_getD, -getElem?_pos, -getElem?_neg, wrap_i64, le_strLim, le_sliceLim, le_buildLim, le_sliceLimI, Int.tmod_eq_emod_of_nonneg, Int.tdiv_eq_ediv_of_nonneg, omLe, omLeN, omLt, omLtN, omEq, omEqN, onLe, onLeN, onLt, onLtN, onEq, onEqN, hL, hgE, hs, n1, n2, splice]
    exact ⟨i + 1, hi2, by omega, by omega⟩
  · obtain rfl : i = l.length := by omega
    simp (config := { maxSteps := 1000000 }) (disch := omega) [-List.map_replicate, -List.map_set, -List.getD_eq_getElem?_getD, -getElem?_pos, -getElem?_neg, wrap_i64, le_strLim, le_sliceLim, le_buildLim, le_sliceLimI, Int.tmod_eq_emod_of_nonneg, Int.tdiv_eq_ediv_of_nonneg, omLe, omLeN, omLt, omLtN, omEq, omEqN, onLe, onLeN, onLt, onLtN, onEq, onEqN, hL]
end Go.Proofs.YtfhfnehoaiegcaaGreatDoor

namespace Go.Proofs.YtfhfnehoaiegcaaGreatDoor
open Go.Am
set_option maxRecDepth 10000
set_option maxHeartbeats 8000000

theorem ansAppR (nl : Option Bool) (z : Nat) (l : List En) (hz : l ≠ [] → z = 6) (hl : ∀ x ∈ l, x.fair) (hlen : l.length < 100000) (e : Ev) (ok : e.ok) :
    ansF cfg 32 [.lst nl z (ensA l), evA e] [] = some (appA (l.map En.c) e.c, []) := by
  refine ans_of_wp fn32 low32 ?_
  have hC := ansCheckR nl z l hz hl hlen
  have hE := ansEncR e ok
  have hF := ansFitsR nl z l hz hlen l.length (Nat.le_refl _) e
  have hB := ansBeforeR nl z l hz hlen l.length (Nat.le_refl _)
  have hll : (l.map En.c).length = l.length := by simp
  have hlast : lastE none (l.map En.c) = lastL l := rfl
  rw [List.take_length] at hF hB
  unfold evA Ev.cells at hE hF
  unfold evA Ev.cells appA appE fitE
  rw [hlast, hll]
  unfold chkA at hC
  rw [hll] at hC
  unfold encA at hE
  by_cases b0 : 1024 < l.length
  · simp only [b0, if_true, true_or] at hC ⊢
    simp (config := { maxSteps := 1000000 }) (disch := omega) [-List.map_replicate, -List.map_set, -List.getD_eq_getElem?_getD, -getElem?_pos, -getElem?_neg, wrap_i64, le_strLim, le_sliceLim, le_buildLim, le_sliceLimI, Int.tmod_eq_emod_of_nonneg, Int.tdiv_eq_ediv_of_nonneg, omLe, omLeN, omLt, omLtN, omEq, omEqN, onLe, onLeN, onLt, onLtN, onEq, onEqN, ir32, hC, splice]
  simp only [b0, if_false, false_or] at hC ⊢
  by_cases b1 : (chk none 0 (l.map En.c)).2 = 0
  case neg =>
    have b1' : ((chk none 0 (l.map En.c)).2 == 0) = false := by rw [beq_eq_false_iff_ne]; exact b1
    simp only [b1, not_false_eq_true, if_true]
    simp (config := { maxSteps := 1000000 }) (disch := omega) [-List.map_replicate, -List.map_set, -List.getD_eq_getElem?_getD, -getElem?_pos, -getElem?_neg, wrap_i64, le_strLim, le_sliceLim, le_buildLim, le_sliceLimI, Int.tmod_eq_emod_of_nonneg, Int.tdiv_eq_ediv_of_nonneg, omLe, omLeN, omLt, omLtN, omEq, omEqN, onLe, onLeN, onLt, onLtN, onEq, onEqN, ir32, hC, b1, b1', splice]
  simp only [b1, not_true_eq_false, if_false] at hC ⊢
  by_cases b2 : encE e.c = 0
  case neg =>
    have b2' : (encE e.c == 0) = false := by rw [beq_eq_false_iff_ne]; exact b2
    simp only [b2, if_false, not_false_eq_true, if_true, ne_eq] at hE ⊢
    simp (config := { maxSteps := 1000000 }) (disch := omega) [-List.map_replicate, -List.map_set, -List.getD_eq_getElem?_getD, -getElem?_pos, -getElem?_neg, wrap_i64, le_strLim, le_sliceLim, le_buildLim, le_sliceLimI, Int.tmod_eq_emod_of_nonneg, Int.tdiv_eq_ediv_of_nonneg, omLe, omLeN, omLt, omLtN, omEq, omEqN, onLe, onLeN, onLt, onLtN, onEq, onEqN, ir32, hC, hE, b2, b2', splice]
  simp only [b2, if_true, ne_eq, not_true_eq_false, if_false] at hE ⊢
  cases b4 : late (lastL l) e.c with
  | true =>
    rw [b4] at hF
    simp only [Bool.not_true, if_true] at hF ⊢
    simp (config := { maxSteps := 1000000 }) (disch := omega) [-List.map_replicate, -List.map_set, -List.getD_eq_getElem?_getD, -getElem?_pos, -getElem?_neg, wrap_i64, le_strLim, le_sliceLim, le_buildLim, le_sliceLimI, Int.tmod_eq_emod_of_nonneg, Int.tdiv_eq_ediv_of_nonneg, omLe, omLeN, omLt, omLtN, omEq, omEqN, onLe, onLeN, onLt, onLtN, onEq, onEqN, ir32, hC, hE, hF, splice]
  | false =>
  rw [b4] at hF
  simp only [Bool.not_false, Bool.false_eq_true, if_false, not_true_eq_false] at hF ⊢
  by_cases b3 : l.length = 1024
  · simp only [b3, if_true]
    rw [b3] at hF
    have hF : ansF cfg 66 [.lst nl z (ensA l), .int .i64 1024, .agg [.int .i64 e.c.id, .int .i64 e.c.day, .int .i64 e.c.kind, .lst e.nl e.z (intsA e.c.nums), .lst e.nl2 e.z2 (strsA e.c.texts)]] [] = some (.bool true, []) := hF
    simp (config := { maxSteps := 1000000 }) (disch := omega) [-List.map_replicate, -List.map_set, -List.getD_eq_getElem?_getD, -getElem?_pos, -getElem?_neg, wrap_i64, le_strLim, le_sliceLim, le_buildLim, le_sliceLimI, Int.tmod_eq_emod_of_nonneg, Int.tdiv_eq_ediv_of_nonneg, omLe, omLeN, omLt, omLtN, omEq, omEqN, onLe, onLeN, onLt, onLtN, onEq, onEqN, ir32, hC, hE, hF, b3, splice]
  simp only [b3, if_false, if_true]
  have hT := (enc_fine b2).2.2.2.2
  have hpl : (prevD (lastL l)).length < 100000 := by
    rcases list_end l with h | ⟨m, y, h⟩
    · rw [h, lastL_nil]; decide
    · rw [h, lastL_snoc]
      exact (hl y (by rw [h]; simp)).d
  have hS := ansSumR (prevD (lastL l) ++ encT e.c) (by simp [encT_ne]) (by simp only [List.length_append]; omega)
  rw [← sum_same] at hS
  have hcp := ansCopyW nl z l hz (fun x h => (hl x h).e) hlen
  have hce := ansCopyEv e ok
  unfold evA Ev.cells at hce
  have hfin : ensA (cps (appN (l.map En.c) e.c)) = ensA (cps (l.map En.c)) ++ [enA (enCp ⟨e.c, sealT (lastL l) (encT e.c)⟩)] := by
    unfold cps ensA appN
    rw [List.map_append, List.map_append]
    rfl
  rw [hfin]
  have hse : sealT (lastL l) (encT e.c) = sumP (prevD (lastL l) ++ encT e.c) := rfl
  rw [hse]
  have hcl : (ensA (cps (l.map En.c))).length = l.length := by simp
  generalize sumP (prevD (lastL l) ++ encT e.c) = D at *
  generalize prevD (lastL l) = B at *
  generalize encT e.c = T at *
  have hpA : plainAll (ensA (cps (l.map En.c))) = true := ensA_plain _
  generalize ensA (cps (l.map En.c)) = A at *
  simp (config := { maxSteps := 1000000 }) (disch := omega) [-List.map_replicate, -List.map_set, -List.getD_eq_getElem?_getD, -getElem?_pos, -getElem?_neg, wrap_i64, le_strLim, le_sliceLim, le_buildLim, le_sliceLimI, Int.tmod_eq_emod_of_nonneg, Int.tdiv_eq_ediv_of_nonneg, omLe, omLeN, omLt, omLtN, omEq, omEqN, onLe, onLeN, onLt, onLtN, onEq, onEqN, ir32, hC, hE, hF, hB, hS, hcp, hce, hcl, hpA, b3, enA, enCp, evCp, Ev.cells, splice]
end Go.Proofs.YtfhfnehoaiegcaaGreatDoor
