/-
  DigestStreams and DigestClones, for the abstract machine.
-/
import Derived.Test.YtfplnlmddcchjaaLaws
namespace Go.Proofs.Ytfplnlmddcchjaa
open Go.Am Go.RowKit
set_option maxRecDepth 10000
set_option maxHeartbeats 4000000

/-- what is taken in at once or bit by bit -/
theorem drain_app (q : Str) : ∀ (n : Nat) (s : W) (r : Str), r.length = n → drain s (r ++ q) = drain (drain s r).1 ((drain s r).2 ++ q) := by
  intro n
  induction n using Nat.strongRecOn with
  | _ n ih =>
    intro s r hn
    by_cases h : 136 ≤ r.length
    · rw [drain_step (s := s) (r := r) h, drain_step (s := s) (r := r ++ q) (by simp; omega)]
      rw [List.take_append_of_le_length h, List.drop_append_of_le_length h]
      exact ih (r.drop 136).length (by simp; omega) _ _ rfl
    · rw [drain_end (s := s) h]

theorem write1_app (h : Hash) (a b : Str) : (h.write1 a).write1 b = h.write1 (a ++ b) := by
  simp only [Hash.write1]
  rw [← List.append_assoc, drain_app b _ h.st (h.rest ++ a) rfl]
  simp [Int.add_assoc]
theorem write1_nil (h : Hash) (hr : h.rest.length < 136) : h.write1 [] = h := by
  simp only [Hash.write1, List.append_nil]
  rw [drain_end (by omega)]
  simp

theorem writeN_eq (h : Hash) (hr : h.rest.length < 136) (ps : List Str) : ∀ n, n ≤ ps.length → h.writeN ps n = h.write1 (ps.take n).flatten
  | 0, _ => by simp [Hash.writeN, write1_nil h hr]
  | n + 1, hn => by
    rw [Hash.writeN, writeN_eq h hr ps n (by omega), write1_app]
    congr 1
    have hn' : n < ps.length := by omega
    have e : ps.take (n + 1) = ps.take n ++ [ps[n]] := by
      rw [List.take_add_one, List.getElem?_eq_getElem hn']; rfl
    rw [e]
    simp [List.getD_eq_getElem?_getD, List.getElem?_eq_getElem hn', -List.take_append_getElem]

theorem av_cells (h : Hash) : cellsOk h.av = true := by
  have : ∀ l m : List AV, cellsOk (l ++ m) = (cellsOk l && cellsOk m) := by
    intro l m
    induction l with
    | nil => simp
    | cons a l ih => simp [ih, Bool.and_assoc]
  simp only [Hash.av]
  rw [this]; simp
theorem av_under (h : Hash) (n : Nat) : underAll n h.av = true := by
  have : ∀ l m : List AV, underAll n (l ++ m) = (underAll n l && underAll n m) := by
    intro l m
    induction l with
    | nil => simp
    | cons a l ih => simp [ih, Bool.and_assoc]
  simp only [Hash.av]
  rw [this]; simp
theorem av_splice (cs : List AV) (hc : cs.length = 27) (h : Hash) (hs : h.st.length = 25) : splice cs 0 h.av = h.av := splice_all (by rw [av_length h hs, hc])

theorem ansClone (bs : List Box) (k : Nat) (h : Hash) (hk : Box.at bs k = .var 59 h.av) (hs : h.st.length = 25) :
    ansF cfg 22 [.ptr k 0] bs = some (.ptr bs.length 0, bs ++ [.var 59 h.av]) := by
  have hkl : k < bs.length := at_lt (by rw [hk]; simp)
  refine ans_of_wp fn22 low22 ?_
  have ht : h.av.take 27 = h.av := take_eq (av_length h hs)
  simp (disch := omega) [-List.map_replicate, -List.map_set, -List.getD_eq_getElem?_getD, -getElem?_pos, -getElem?_neg, onEqN, ir22, at_app_l, hk, av_length h hs, ht, av_cells]
  exact av_splice _ rfl h hs

theorem hash0_sum (d : Str) : (hash0.write1 d).sum = sumP d := rfl
theorem write_st (d : Str) : (hash0.write1 d).st.length = 25 := writeN_st hash0 rfl [d] 1
theorem write_rest (d : Str) : (hash0.write1 d).rest.length < 136 := writeN_rest hash0 (by decide) [d] 1
theorem write_taken (d : Str) : (hash0.write1 d).taken = d.length := by simp [Hash.write1, hash0]

/-- one string more -/
theorem ansWrite1 (bs : List Box) (k : Nat) (d a : Str) (hk : Box.at bs k = .var 59 (hash0.write1 d).av) (j : Nat) (hjk : j ≠ k) (sh : Hd) (hj : Box.at bs j = .sl sh 1 [.str a]) (hb : d.length + a.length < 100000000) :
    ansF cfg 21 [.ptr k 0, .osl j 1] bs = some (.int .i64 ((d.length : Int) + a.length), bs.set k (.var 59 (hash0.write1 (d ++ a)).av)) := by
  have h := ansWriteO bs k (hash0.write1 d) hk (write_st d) (write_rest d) (by rw [write_taken]; omega) j hjk sh [a] hj (fun n => by
    have : ∀ m, bytesN' [a] m ≤ a.length := fun m => by
      match m with
      | 0 => simp [bytesN']
      | m + 1 =>
        induction m with
        | zero => simp [bytesN']
        | succ m ih => simpa [bytesN'] using ih
    have := this n
    rw [write_taken]; omega) (by simp)
  have e : (hash0.write1 d).writeN [a] 1 = hash0.write1 (d ++ a) := by rw [writeN_one, write1_app]
  simp only [List.length_singleton] at h
  rw [e, write_taken] at h
  simpa using h
theorem ansSum1 (bs : List Box) (hsh : shut bs.length bs = true) (k : Nat) (d : Str) (hk : Box.at bs k = .var 59 (hash0.write1 d).av) :
    ansF cfg 20 [.ptr k 0] bs = some (.str (sumP d), bs) := ansSumM bs hsh k (hash0.write1 d) hk (write_st d) (write_rest d)

theorem ansClones {xs : List AV} (h : ShpArgs Try.prog [9, 9, 9] xs) : ansF cfg 9 xs [] = some (.bool true, []) := by
  obtain ⟨f, a, b, rfl⟩ := args_str3 h
  refine ans_of_wp fn9 low9 ?_
  by_cases hl : f.length ≤ 300 ∧ a.length ≤ 300 ∧ b.length ≤ 300
  · obtain ⟨h1, h2, h3⟩ := hl
    have e0 : hash0 = hash0.write1 [] := (write1_nil hash0 (by decide)).symm
    have w1 := ansWrite1 [.var 59 hash0.av, .sl ⟨false, some 9⟩ 1 [.str f]] 0 [] f (by rw [← e0]; rfl) 1 (by omega) _ rfl (by simp; omega)
    have w2 := ansClone [.var 59 (hash0.write1 f).av, .sl ⟨false, some 9⟩ 1 [.str f]] 0 (hash0.write1 f) rfl (write_st f)
    have w3 := ansWrite1 [.var 59 (hash0.write1 f).av, .sl ⟨false, some 9⟩ 1 [.str f], .var 59 (hash0.write1 f).av, .sl ⟨false, some 9⟩ 1 [.str a]] 0 f a rfl 3 (by omega) _ rfl (by omega)
    have s1 := ansSum1 [.var 59 (hash0.write1 (f ++ a)).av, .sl ⟨false, some 9⟩ 1 [.str f], .var 59 (hash0.write1 f).av, .sl ⟨false, some 9⟩ 1 [.str a], .dead] (by simp [shut, av_under]) 2 f rfl
    have p1 := ansSumP f (by omega)
    have p2 := ansSumP (f ++ a) (by simp; omega)
    have p3 := ansSumP (f ++ b) (by simp; omega)
    have w4 := ansWrite1 [.var 59 (hash0.write1 (f ++ a)).av, .sl ⟨false, some 9⟩ 1 [.str f], .var 59 (hash0.write1 f).av, .sl ⟨false, some 9⟩ 1 [.str a], .sl ⟨false, some 9⟩ 1 [.str b]] 2 f b rfl 4 (by omega) _ rfl (by omega)
    have s2 := ansSum1 [.var 59 (hash0.write1 (f ++ a)).av, .sl ⟨false, some 9⟩ 1 [.str f], .var 59 (hash0.write1 (f ++ b)).av, .sl ⟨false, some 9⟩ 1 [.str a], .sl ⟨false, some 9⟩ 1 [.str b]] (by simp [shut, av_under]) 0 (f ++ a) rfl
    have s3 := ansSum1 [.var 59 (hash0.write1 (f ++ a)).av, .sl ⟨false, some 9⟩ 1 [.str f], .var 59 (hash0.write1 (f ++ b)).av, .sl ⟨false, some 9⟩ 1 [.str a], .sl ⟨false, some 9⟩ 1 [.str b]] (by simp [shut, av_under]) 2 (f ++ b) rfl
    simp only [List.nil_append, List.set_cons_zero, List.set_cons_succ, List.length_cons, List.length_nil, List.cons_append] at w1 w2 w3 w4
    simp (disch := omega) [-List.map_replicate, -List.map_set, -List.getD_eq_getElem?_getD, -getElem?_pos, -getElem?_neg, wrap_i64, le_strLim, le_buildLim, omLtN, onLeN, onEqN, ir9, ansAwake, ansNew, w1, w2, w3, w4, s1, s2, s3, p1, p2, p3]
  · have hn : ¬ (¬ 300 < f.length ∧ ¬ 300 < a.length ∧ ¬ 300 < b.length) := by omega
    by_cases h1 : f.length ≤ 300
    · by_cases h2 : a.length ≤ 300
      · simp (disch := omega) [-List.map_replicate, -List.map_set, -List.getD_eq_getElem?_getD, -getElem?_pos, -getElem?_neg, omLt, omLtN, onEqN, ir9, ansAwake]
      · simp (disch := omega) [-List.map_replicate, -List.map_set, -List.getD_eq_getElem?_getD, -getElem?_pos, -getElem?_neg, omLt, omLtN, onEqN, ir9, ansAwake]
    · simp (disch := omega) [-List.map_replicate, -List.map_set, -List.getD_eq_getElem?_getD, -getElem?_pos, -getElem?_neg, omLt, onEqN, ir9, ansAwake]
end Go.Proofs.Ytfplnlmddcchjaa
