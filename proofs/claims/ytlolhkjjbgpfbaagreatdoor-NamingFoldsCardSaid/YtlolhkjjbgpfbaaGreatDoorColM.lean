/-
  slices.Collect over the words of a text: a slice of one's own; Fold of the program.
-/
import Derived.Test.YtlolhkjjbgpfbaaGreatDoorWordM
set_option linter.all false
namespace Go.Proofs.YtlolhkjjbgpfbaaGreatDoor
open Go.Am
set_option maxRecDepth 10000
set_option maxHeartbeats 4000000
def strA (l : List Str) : List AV := l.map .str
def colT (P : List Box) (n : Nat) (ws : List AV) (st : LSt) (J : List Box) : List Box :=
  P ++ (.var 57 [.osl (P.length + 1) n] :: .sl ⟨false, some 9⟩ 1 ws :: .loop st :: J)
theorem colT_app (P : List Box) (n : Nat) (ws : List AV) (st : LSt) (J : List Box) : colT P n ws st [] ++ J = colT P n ws st J := by simp [colT]
structure ColF (m L : Nat) (T : Nat → List AV → LSt → List Box) : Prop where
  len : ∀ n ws st, (T n ws st).length = L
  a0 : ∀ n ws st l, Box.at (T n ws st ++ l) m = .var 57 [.osl (m + 1) n]
  a1 : ∀ n ws st l, Box.at (T n ws st ++ l) (m + 1) = .sl ⟨false, some 9⟩ 1 ws
  a2 : ∀ n ws st l, Box.at (T n ws st ++ l) (m + 2) = .loop st
  b0 : ∀ n ws st, Box.at (T n ws st) m = .var 57 [.osl (m + 1) n]
  b1 : ∀ n ws st, Box.at (T n ws st) (m + 1) = .sl ⟨false, some 9⟩ 1 ws
  b2 : ∀ n ws st, Box.at (T n ws st) (m + 2) = .loop st
  s0 : ∀ n ws st l n', (T n ws st ++ l).set m (.var 57 [.osl (m + 1) n']) = T n' ws st ++ l
  s1 : ∀ n ws st l ws', (T n ws st ++ l).set (m + 1) (.sl ⟨false, some 9⟩ 1 ws') = T n ws' st ++ l
  s2 : ∀ n ws st l st', (T n ws st ++ l).set (m + 2) (.loop st') = T n ws st' ++ l
  t2 : ∀ n ws st st', (T n ws st).set (m + 2) (.loop st') = T n ws st'
  g : ∀ n ws st l i, (T n ws st ++ l)[L + i]? = l[i]?
  g0 : ∀ n ws st l, (T n ws st ++ l)[L]? = l[0]?
  h : ∀ n ws st l i, Box.at (T n ws st ++ l) (L + i) = Box.at l i
  h0 : ∀ n ws st l, Box.at (T n ws st ++ l) L = Box.at l 0
  p : ∀ n ws st l i x, (T n ws st ++ l).set (L + i) x = T n ws st ++ l.set i x
  p0 : ∀ n ws st l x, (T n ws st ++ l).set L x = T n ws st ++ l.set 0 x
  mp : ∀ n ws st, (T n ws st).map (forgetBox L) = T n ws st
  tk : ∀ n ws st l, (T n ws st ++ l).take L = T n ws st
  ml : m < L
theorem colF (P J : List Box) (hP : shut P.length P = true) (hJ : Bare J) : ColF P.length (P.length + 3 + J.length) (fun n ws st => colT P n ws st J) where
  len n ws st := by simp [colT]; omega
  a0 n ws st l := by simp only [colT, List.append_assoc, at_app_r0]; rfl
  a1 n ws st l := by simp only [colT, List.append_assoc, at_app_r]; rfl
  a2 n ws st l := by simp only [colT, List.append_assoc, at_app_r]; rfl
  b0 n ws st := by simp only [colT, at_app_r0]; rfl
  b1 n ws st := by simp only [colT, at_app_r]; rfl
  b2 n ws st := by simp only [colT, at_app_r]; rfl
  s0 n ws st l n' := by simp only [colT, List.append_assoc, set_app_r0]; rfl
  s1 n ws st l ws' := by simp only [colT, List.append_assoc, set_app_r]; rfl
  s2 n ws st l st' := by simp only [colT, List.append_assoc, set_app_r]; rfl
  t2 n ws st st' := by simp only [colT, set_app_r]; rfl
  g n ws st l i := by rw [show P.length + 3 + J.length = (colT P n ws st J).length by simp [colT]; omega]; exact get_app_r _ _ _
  g0 n ws st l := by rw [show P.length + 3 + J.length = (colT P n ws st J).length by simp [colT]; omega]; exact get_app_r0 _ _
  h n ws st l i := by rw [show P.length + 3 + J.length = (colT P n ws st J).length by simp [colT]; omega]; exact at_app_r _ _ _
  h0 n ws st l := by rw [show P.length + 3 + J.length = (colT P n ws st J).length by simp [colT]; omega]; exact at_app_r0 _ _
  p n ws st l i x := by rw [show P.length + 3 + J.length = (colT P n ws st J).length by simp [colT]; omega]; exact set_app_r _ _ _ _
  p0 n ws st l x := by rw [show P.length + 3 + J.length = (colT P n ws st J).length by simp [colT]; omega]; exact set_app_r0 _ _ _
  mp n ws st := shut_map (Nat.le_refl _) (by
    unfold colT
    rw [shut_app, shut_le (by omega) hP]
    simp only [shut, underAll, AV.under, hJ _, Bool.and_true, Bool.true_and, decide_eq_true_eq]
    omega)
  tk n ws st l := List.take_left' (by simp [colT]; omega)
  ml := by omega
def envC (m ks : Nat) : List AV := [.lst (some true) 0 [], .fn 99 [] [.ptr ks 0], .ptr m 0, .lst (some true) 0 [], .any, .fn 99 [] [.ptr ks 0], .any, .any, .any, .any]
theorem roundC (m ks : Nat) (x : AV) : roundV site98_0 (envC m ks) [x] =
    [some (.lst (some true) 0 []), some (.fn 99 [] [.ptr ks 0]), some (.ptr m 0), some (.lst (some true) 0 []), some .any, some (.fn 99 [] [.ptr ks 0]), some x, some .any, some .any, some .any] := by kernel_rfl
theorem yldCol (P J : List Box) (ks : Nat) (hP : shut P.length P = true) (hJ : Bare J) (outs : List Str) (w : Str) (hl : outs.length < 1000000) :
    ansT cfg (.yld (P.length + 2) site98_0 (envC P.length ks)) [.str w] (colT P outs.length (strA outs) .ready J) = some (.bool true, colT P (outs ++ [w]).length (strA (outs ++ [w])) .ready J) := by
  have F := colF P J hP hJ
  refine yld_of_wp lowS98_0 (by kernel_rfl) (by kernel_rfl) (F.b2 _ _ _) ?_
  rw [roundC]
  have e1 : strA (outs ++ [w]) = strA outs ++ [.str w] := by simp [strA]
  have e2 : (strA outs).length = outs.length := by simp [strA]
  rw [e1]
  generalize hA : strA outs = A at *
  generalize hT : (fun n ws st => colT P n ws st J) = T at *
  have hT' : ∀ n ws st, colT P n ws st J = T n ws st := fun n ws st => by rw [← hT]
  rw [hT', hT']
  generalize P.length = m at *
  generalize m + 3 + J.length = L at *
  obtain ⟨len, a0, a1, a2, b0, b1, b2, s0, s1, s2, t2, g, g0, h, h0, p, p0, mp, tk, ml⟩ := F
  simp (config := { maxSteps := 1000000 }) (disch := omega) [-List.map_replicate, -List.map_set, -List.getD_eq_getElem?_getD, -getElem?_pos, -getElem?_neg, om, irA98_0, irB98_0, splice, endSt, Ex.isNormal, len, a0, a1, a2, b0, b1, b2, s0, s1, s2, t2, g, g0, h, h0, p, p0, mp, tk, e2]
theorem runW_all (l : List Str) (a : List Str) : runW (fun _ _ => true) (fun a w => a ++ [w]) l a = a ++ l := by
  induction l generalizing a with
  | nil => simp [runW]
  | cons w r ih => simp [runW, ih]
def colE (m : Nat) (l : List Str) : List Box := [.var 57 [.osl (m + 1) l.length], .sl ⟨false, some 9⟩ 1 (strA l)]
theorem ansRange (P : List Box) (ks : Nat) (s : Str) (hs : s.length < 1000000) (hP : shut P.length P = true) (hk : Box.at P ks = .var 9 [.str s]) (hkl : ks < P.length) :
    ansF cfg 99 [.yld (P.length + 2) site98_0 (envC P.length ks), .ptr ks 0] (colT P 0 [] .ready []) = some (.tup [], colT P (wordsL s).length (strA (wordsL s)) .ready []) := by
  have h := wordsRun s hs (P.length + 3) ks (P.length + 2) site98_0 (envC P.length ks) (fun a => colT P a.length (strA a) .ready []) (fun _ _ => true) (fun a w => a ++ [w]) List.length (fun a w => by simp) (fun _ => True) (fun _ _ _ _ => trivial)
    (fun a => by simp [colT]) (fun a => by unfold colT; rw [at_app_l _ _ hkl, hk]) (by omega) (by omega)
    (fun a => by
      unfold colT
      rw [shut_app, shut_le (by omega) hP]
      simp [shut, underAll, AV.under])
    (by simp [envC, underAll, AV.under]; omega)
    (fun a w J hw hc _ hJ => by rw [colT_app, colT_app]; exact yldCol P J ks hP hJ a w hc) [] rfl trivial
  rw [runW_all] at h
  simpa [strA] using h
theorem ansAppendSeq (P : List Box) (ks : Nat) (s : Str) (hs : s.length < 1000000) (hP : shut P.length P = true) (hk : Box.at P ks = .var 9 [.str s]) (hkl : ks < P.length) :
    ansF cfg 98 [.lst (some true) 0 [], .fn 99 [] [.ptr ks 0]] P = some (.osl (P.length + 1) (wordsL s).length, P ++ colE P.length (wordsL s)) := by
  refine ans_of_wp fn98 low98 ?_
  have h := ansRange P ks s hs hP hk hkl
  generalize wordsL s = l at *
  have hA : (strA l).length = l.length := by simp [strA]
  simp (config := { maxSteps := 1000000 }) (disch := omega) [-List.map_replicate, -List.map_set, -List.getD_eq_getElem?_getD, -getElem?_pos, -getElem?_neg, om, ir98]
  have hlen : (P ++ [Box.var 57 [.osl (P.length + 1) 0], .sl ⟨false, some 9⟩ 1 []]).length = P.length + 2 := by simp
  have hend : colT P l.length (strA l) .ready [] = P ++ [Box.var 57 [.osl (P.length + 1) l.length], .sl ⟨false, some 9⟩ 1 (strA l)] ++ [.loop .ready] := by simp [colT]
  have hmp : P.map (forgetBox (P.length + 2)) = P := shut_map (by omega) hP
  refine Wp.rng (f := 99) (caps := [.ptr ks 0]) (r := .tup []) (b' := colT P l.length (strA l) .ready []) (st := .ready) (e := .normal) rfl rfl ?_ ?_ rfl ?_
  · rw [hlen, List.append_assoc]
    exact h
  · rw [hlen]
    unfold colT
    rw [at_app_r]
    rfl
  · rw [hlen]
    have hT2 : ∀ l2, (P ++ [Box.var 57 [.osl (P.length + 1) l.length], .sl ⟨false, some 9⟩ 1 (strA l)] ++ l2).take (P.length + 2) = P ++ [Box.var 57 [.osl (P.length + 1) l.length], .sl ⟨false, some 9⟩ 1 (strA l)] := fun l2 => List.take_left' (by simp)
    rw [hend]
    have hcut : cutB (P.length + 2) (P ++ [Box.var 57 [.osl (P.length + 1) l.length], .sl ⟨false, some 9⟩ 1 (strA l)] ++ [.loop .ready]) = P ++ [Box.var 57 [.osl (P.length + 1) l.length], .sl ⟨false, some 9⟩ 1 (strA l)] := by
      unfold cutB
      have hd : ∀ l2 : List Box, l2.length = P.length + 3 → decide (l2.length ≤ P.length + 2) = false := fun l2 h => by simp [h]
      rw [hd _ (by simp)]
      simp only [hT2]
      rw [List.map_append, hmp]
      simp [forgetBox, forget, AV.under]
    rw [hcut]
    unfold colE
    simp (config := { maxSteps := 1000000 }) (disch := omega) [-List.map_replicate, -List.map_set, -List.getD_eq_getElem?_getD, -getElem?_pos, -getElem?_neg, om, hA, cutV]
theorem ansCollect (P : List Box) (ks : Nat) (s : Str) (hs : s.length < 1000000) (hP : shut P.length P = true) (hk : Box.at P ks = .var 9 [.str s]) (hkl : ks < P.length) :
    ansF cfg 49 [.fn 99 [] [.ptr ks 0]] P = some (.osl (P.length + 1) (wordsL s).length, P ++ colE P.length (wordsL s)) := by
  refine ans_of_wp fn49 low49 ?_
  have h := ansAppendSeq P ks s hs hP hk hkl
  simp (config := { maxSteps := 1000000 }) (disch := omega) [-List.map_replicate, -List.map_set, -List.getD_eq_getElem?_getD, -getElem?_pos, -getElem?_neg, om, ir49, h]
def foldS (s : Str) : Str := Lib.join (wordsL s) [32]
theorem strsOf_strA : ∀ l : List Str, strsOf (strA l) = some l
  | [] => rfl
  | s :: r => by
    have h := strsOf_strA r
    unfold strA at h ⊢
    simp only [List.map_cons, strsOf, h]
theorem ansFold (s : Str) (hs : s.length < 1000000) (hn : (wordsL s).length ≤ 140737488355328) (hl : (foldS s).length ≤ 140737488355328) : ansF cfg 13 [.str s] [] = some (.str (foldS s), []) := by
  refine ans_of_wp fn13 low13 ?_
  have h := ansCollect [.var 9 [.str s]] 0 s hs rfl rfl (by simp)
  unfold foldS colE at *
  have hA := strsOf_strA (wordsL s)
  have hB : (strA (wordsL s)).length = (wordsL s).length := by simp [strA]
  generalize wordsL s = l at *
  generalize strA l = A at *
  simp only [List.length_singleton, Nat.zero_add, List.singleton_append] at h
  simp (config := { maxSteps := 1000000 }) (disch := omega) [-List.map_replicate, -List.map_set, -List.getD_eq_getElem?_getD, -getElem?_pos, -getElem?_neg, om, ir13, ansWords0, h, joinG, hA, hB, hn, hl]
end Go.Proofs.YtlolhkjjbgpfbaaGreatDoor
