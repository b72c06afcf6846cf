/-
  Found of the program.
-/
import Derived.Test.YtlolhkjjbgpfbaaGreatDoorKeyM
set_option linter.all false
namespace Go.Proofs.YtlolhkjjbgpfbaaGreatDoor
open Go.Am
set_option maxRecDepth 10000
set_option maxHeartbeats 4000000
def preB (w q : Str) : Bool := decide (q.length ≤ w.length) && (w.take q.length == q)
theorem ansPrefix (w q : Str) : ansF cfg 38 [.str w, .str q] [] = some (.bool (preB w q), []) := by
  have h : ansF cfg 83 [.str w, .str q] [] = some (.bool (preB w q), []) := by
    refine ans_of_wp fn83 low83 ?_
    unfold preB
    by_cases h1 : q.length ≤ w.length
    · simp (config := { maxSteps := 1000000 }) (disch := omega) [-List.map_replicate, -List.map_set, -List.getD_eq_getElem?_getD, -getElem?_pos, -getElem?_neg, om, ir83, h1]
    · simp (config := { maxSteps := 1000000 }) (disch := omega) [-List.map_replicate, -List.map_set, -List.getD_eq_getElem?_getD, -getElem?_pos, -getElem?_neg, om, ir83, h1]
  refine ans_of_wp fn38 low38 ?_
  simp (config := { maxSteps := 1000000 }) (disch := omega) [-List.map_replicate, -List.map_set, -List.getD_eq_getElem?_getD, -getElem?_pos, -getElem?_neg, om, ir38, h]
theorem ansPreC (w q : Str) (bs : List Box) (k : Nat) (hk : Box.at bs k = .var 9 [.str q]) : ansF cfg 59 [.str w, .ptr k 0] bs = some (.bool (preB w q), bs) := by
  have h := ansPrefix w q
  refine ans_of_wp fn59 low59 ?_
  simp (config := { maxSteps := 1000000 }) (disch := omega) [-List.map_replicate, -List.map_set, -List.getD_eq_getElem?_getD, -getElem?_pos, -getElem?_neg, om, ir59, h, hk]
def idxP (q : Str) : List Str → Nat → Int
  | [], _ => -1
  | w :: r, i => if preB w q = true then (i : Int) else idxP q r (i + 1)
theorem idxP_any (q : Str) : ∀ (L : List Str) (i : Nat), decide (0 ≤ idxP q L i) = L.any (preB · q)
  | [], i => rfl
  | a :: r, i => by
    have ih := idxP_any q r (i + 1)
    simp only [List.any_cons]
    unfold idxP
    by_cases he : preB a q = true
    · simp only [he, if_true, Bool.true_or]; simp
    · rw [Bool.not_eq_true] at he
      simp only [he, Bool.false_or, Bool.false_eq_true, if_false]
      exact ih
theorem ansAnyP (bs : List Box) (j k : Nat) (sh : Hd) (l : List Str) (hl : l.length < 1000000) (q : Str) (hj : Box.at bs j = .sl sh 1 (strA l)) (hk : Box.at bs k = .var 9 [.str q]) :
    ansF cfg 47 [.osl j l.length, .fn 59 [] [.ptr k 0]] bs = some (.bool (l.any (preB · q)), bs) := by
  have hA := strA_len l
  have h : ansF cfg 97 [.osl j l.length, .fn 59 [] [.ptr k 0]] bs = some (.int .i64 (idxP q l 0), bs) := by
    refine ans_of_wp fn97 low97 ?_
    simp (config := { maxSteps := 1000000 }) (disch := omega) [-List.map_replicate, -List.map_set, -List.getD_eq_getElem?_getD, -getElem?_pos, -getElem?_neg, om, ir97, hj, hA]
    refine Wp.loopM (fun (i : Nat) => l.length - i) (fun i => [some (.osl j l.length), some (.fn 59 [] [.ptr k 0]), none, none, some (.int .i64 l.length), some (.int .i64 i), none, none]) (fun _ => bs) (fun i => idxP q l 0 = idxP q (l.drop i) i) ?_ 0 rfl (by simp) rfl
    intro i hr
    rw [hr]
    by_cases h1 : i < l.length
    · have hg := get_strA l h1
      have hs := ansPreC (l.getD i []) q bs k hk
      rw [dropL l h1] at hr ⊢
      simp only [idxP] at hr ⊢
      generalize l.getD i [] = a at *
      cases h2 : preB a q with
      | true =>
        rw [h2] at hs
        simp (config := { maxSteps := 1000000 }) (disch := omega) [-List.map_replicate, -List.map_set, -List.getD_eq_getElem?_getD, -getElem?_pos, -getElem?_neg, om, h1, hg, hs, hj, hA]
      | false =>
        rw [h2] at hs hr
        simp (config := { maxSteps := 1000000 }) (disch := omega) [-List.map_replicate, -List.map_set, -List.getD_eq_getElem?_getD, -getElem?_pos, -getElem?_neg, om, h1, hg, hs, hj, hA]
        exact ⟨i + 1, by simpa using rfl, by omega, by simp⟩
    · rw [List.drop_eq_nil_of_le (by omega)]
      simp (config := { maxSteps := 1000000 }) (disch := omega) [-List.map_replicate, -List.map_set, -List.getD_eq_getElem?_getD, -getElem?_pos, -getElem?_neg, om, h1, idxP]
  refine ans_of_wp fn47 low47 ?_
  rw [← idxP_any q l 0]
  by_cases h4 : 0 ≤ idxP q l 0
  · simp (config := { maxSteps := 1000000 }) (disch := omega) [-List.map_replicate, -List.map_set, -List.getD_eq_getElem?_getD, -getElem?_pos, -getElem?_neg, om, ir47, h, h4, hj, hA]
  · simp (config := { maxSteps := 1000000 }) (disch := omega) [-List.map_replicate, -List.map_set, -List.getD_eq_getElem?_getD, -getElem?_pos, -getElem?_neg, om, ir47, h, h4, hj, hA]
def fndT (text query : Str) (l : List Str) (st : LSt) (J : List Box) : List Box :=
  [.var 4 [.bool false], .var 57 [.osl 4 l.length], .var 9 [.str text], .var 57 [.osl 4 l.length], .sl ⟨false, some 9⟩ 1 (strA l), .var 9 [.str query], .loop st] ++ J
structure FndF (L : Nat) (l : List Str) (T : LSt → List Box) : Prop where
  len : ∀ st, (T st).length = L
  a0 : ∀ st m, Box.at (T st ++ m) 0 = .var 4 [.bool false]
  a1 : ∀ st m, Box.at (T st ++ m) 1 = .var 57 [.osl 4 l.length]
  a4 : ∀ st m, Box.at (T st ++ m) 4 = .sl ⟨false, some 9⟩ 1 (strA l)
  a6 : ∀ st m, Box.at (T st ++ m) 6 = .loop st
  b6 : ∀ st, Box.at (T st) 6 = .loop st
  s0 : ∀ st m, (T st ++ m).set 0 (.var 4 [.bool false]) = T st ++ m
  s6 : ∀ st m st', (T st ++ m).set 6 (.loop st') = T st' ++ m
  g0 : ∀ st m, (T st ++ m)[L]? = m[0]?
  h0 : ∀ st m, Box.at (T st ++ m) L = Box.at m 0
  p0 : ∀ st m x, (T st ++ m).set L x = T st ++ m.set 0 x
  mp : ∀ st, (T st).map (forgetBox L) = T st
  tk : ∀ st m, (T st ++ m).take L = T st
  ml : 6 < L
theorem fndF (text query : Str) (l : List Str) (J : List Box) (hJ : Bare J) : FndF (7 + J.length) l (fun st => fndT text query l st J) where
  len st := by simp [fndT]; omega
  a0 st m := rfl
  a1 st m := rfl
  a4 st m := rfl
  a6 st m := rfl
  b6 st := rfl
  s0 st m := rfl
  s6 st m st' := rfl
  g0 st m := by rw [show 7 + J.length = (fndT text query l st J).length by simp [fndT]; omega]; exact get_app_r0 _ _
  h0 st m := by rw [show 7 + J.length = (fndT text query l st J).length by simp [fndT]; omega]; exact at_app_r0 _ _
  p0 st m x := by rw [show 7 + J.length = (fndT text query l st J).length by simp [fndT]; omega]; exact set_app_r0 _ _ _
  mp st := shut_map (Nat.le_refl _) (by
    unfold fndT
    rw [shut_app, hJ]
    simp [shut, underAll, AV.under]
    omega)
  tk st m := List.take_left' (by simp [fndT]; omega)
  ml := by omega
def envF (text query : Str) (n : Nat) : List AV := [.str text, .str query, .ptr 0 0, .ptr 1 0, .any, .fn 99 [] [.ptr 2 0], .osl 4 n, .fn 99 [] [.ptr 5 0], .any, .any, .any, .any, .any]
theorem roundF (text query : Str) (n : Nat) (x : AV) : roundV site21_0 (envF text query n) [x] =
    [some (.str text), some (.str query), some (.ptr 0 0), some (.ptr 1 0), some .any, some (.fn 99 [] [.ptr 2 0]), some (.osl 4 n), some (.fn 99 [] [.ptr 5 0]), some x, some .any, some .any, some .any, some .any] := by kernel_rfl
def endF (b : Bool) : LSt := if b = true then .ready else .done .ret
theorem yldFnd (text query : Str) (l : List Str) (hl : l.length < 1000000) (q : Str) (J : List Box) (hJ : Bare J) :
    ansT cfg (.yld 6 site21_0 (envF text query l.length)) [.str q] (fndT text query l .ready J) = some (.bool (l.any (preB · q)), fndT text query l (endF (l.any (preB · q))) J) := by
  have F := fndF text query l J hJ
  have hP : ∀ st, ansF cfg 47 [.osl 4 l.length, .fn 59 [] [.ptr (7 + J.length) 0]] (fndT text query l st J ++ [.var 9 [.str q]]) = some (.bool (l.any (preB · q)), fndT text query l st J ++ [.var 9 [.str q]]) := fun st =>
    ansAnyP _ 4 (7 + J.length) ⟨false, some 9⟩ l hl q rfl (F.h0 st _)
  refine yld_of_wp lowS21_0 (by kernel_rfl) (by kernel_rfl) (F.b6 _) ?_
  rw [roundF]
  generalize hT : (fun st => fndT text query l st J) = T at *
  have hT' : ∀ st, fndT text query l st J = T st := fun st => by rw [← hT]
  simp only [hT'] at hP ⊢
  generalize 7 + J.length = L at *
  obtain ⟨len, a0, a1, a4, a6, b6, s0, s6, g0, h0, p0, mp, tk, ml⟩ := F
  unfold endF
  cases hb : l.any (preB · q) with
  | true =>
    rw [hb] at hP
    simp (config := { maxSteps := 1000000 }) (disch := omega) [-List.map_replicate, -List.map_set, -List.getD_eq_getElem?_getD, -getElem?_pos, -getElem?_neg, om, irA21_0, irB21_0, splice, endSt, Ex.isNormal, len, a0, a1, a4, a6, b6, s0, s6, g0, h0, p0, mp, tk, hP, strA_len]
  | false =>
    rw [hb] at hP
    simp (config := { maxSteps := 1000000 }) (disch := omega) [-List.map_replicate, -List.map_set, -List.getD_eq_getElem?_getD, -getElem?_pos, -getElem?_neg, om, irA21_0, irB21_0, splice, endSt, Ex.isNormal, len, a0, a1, a4, a6, b6, s0, s6, g0, h0, p0, mp, tk, hP, strA_len]
def hasB (l : List Str) (q : Str) : Bool := l.any (preB · q)
def foundB (text query : Str) : Bool := (wordsL query).all (hasB (wordsL text))
theorem runF (ok : Str → Bool) (ws : List Str) : runW (fun (_ : Bool) w => ok w) (fun _ w => ok w) ws true = ws.all ok := by
  induction ws with
  | nil => rfl
  | cons w r ih =>
    simp only [runW, List.all_cons]
    cases h : ok w with
    | true => simpa using ih
    | false => rfl
theorem ansFoundR (text query : Str) (hq : query.length < 900000) (l : List Str) (hl : l.length < 1000000) :
    ansF cfg 99 [.yld 6 site21_0 (envF text query l.length), .ptr 5 0] (fndT text query l .ready []) = some (.tup [], fndT text query l (endF ((wordsL query).all (hasB l))) []) := by
  have h := wordsRun query (by omega) 7 5 6 site21_0 (envF text query l.length) (fun b => fndT text query l (endF b) []) (fun _ w => hasB l w) (fun _ w => hasB l w) (fun _ => 0) (fun _ _ => by omega) (fun b => b = true) (fun _ _ _ h => h)
    (fun b => rfl) (fun b => rfl) (by omega) (by omega) (fun b => by simp [fndT, shut, underAll, AV.under]) (by simp [envF, underAll, AV.under])
    (fun b w J hw _ hb hJ => by
      subst hb
      have := yldFnd text query l hl w J hJ
      simpa [fndT, endF, hasB] using this) true rfl rfl
  rw [runF] at h
  simpa [endF] using h
theorem ansFound (text query : Str) (ht : text.length < 900000) (hq : query.length < 900000) : ansF cfg 21 [.str text, .str query] [] = some (.bool (foundB text query), []) := by
  have hc := ansCollect [.var 4 [.bool false], .dead, .var 9 [.str text]] 2 text (by omega) rfl rfl (by simp)
  have ht2 := words_tot text
  have htl := tot_length (wordsL text)
  have hr := ansFoundR text query hq (wordsL text) (by omega)
  refine ans_of_wp fn21 low21 ?_
  unfold foundB
  have hw := ansWords query
  unfold colE at hc
  generalize wordsL text = l at *
  simp only [List.length_cons, List.length_nil, List.cons_append, List.nil_append] at hc
  simp (config := { maxSteps := 1000000 }) (disch := omega) [-List.map_replicate, -List.map_set, -List.getD_eq_getElem?_getD, -getElem?_pos, -getElem?_neg, om, ir21, ansWords, hc, splice]
  cases hb : (wordsL query).all (hasB l) with
  | true =>
    rw [hb] at hr
    refine Wp.rng (f := 99) (caps := [.ptr 5 0]) (r := .tup []) (b' := fndT text query l .ready []) (st := .ready) (e := .normal) rfl rfl hr rfl rfl ?_
    unfold fndT
    simp (config := { maxSteps := 1000000 }) (disch := omega) [-List.map_replicate, -List.map_set, -List.getD_eq_getElem?_getD, -getElem?_pos, -getElem?_neg, om, cutV, splice]
  | false =>
    rw [hb] at hr
    refine Wp.rng (f := 99) (caps := [.ptr 5 0]) (r := .tup []) (b' := fndT text query l (.done .ret) []) (st := .done .ret) (e := .ret) rfl rfl hr rfl rfl ?_
    unfold fndT
    simp (config := { maxSteps := 1000000 }) (disch := omega) [-List.map_replicate, -List.map_set, -List.getD_eq_getElem?_getD, -getElem?_pos, -getElem?_neg, om, cutV, splice]
end Go.Proofs.YtlolhkjjbgpfbaaGreatDoor
