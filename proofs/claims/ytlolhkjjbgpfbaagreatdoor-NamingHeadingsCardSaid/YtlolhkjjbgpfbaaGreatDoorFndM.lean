/-
  Found of the program. Headings, Heading and Search of the program. Search of the program. The examples of the chapter, evaluated.
-/
import Derived.Test.YtlolhkjjbgpfbaaGreatDoorKeyM
import Derived.Test.YtlolhkjjbgpfbaaGreatDoorSortM
import Derived.Test.YtlolhkjjbgpfbaaGreatDoorHduM
set_option linter.all false
namespace Go.Proofs.YtlolhkjjbgpfbaaGreatDoor
open Go.Am
set_option maxRecDepth 10000
set_option maxHeartbeats 4000000
def preB (w q : Str) : Bool := decide (q.length ≤ w.length) && (w.take q.length == q)
theorem ansPrefix (w q : Str) : ansF cfg 38 [.str w, .str q] [] = some (.bool (preB w q), []) := by
  have h : ansF cfg 83 [.str w, .str q] [] = some (.bool (preB w q), []) := by
    refine ans_of_wp fn83 low83 ?_
    unfold preB
    by_cases h1 : q.length ≤ w.length
    · simp (config := { maxSteps := 1000000 }) (disch := omega) [-List.map_replicate, -List.map_set, -List.getD_eq_getElem?_getD, -getElem?_pos, -getElem?_neg, om, ir83, h1]
    · simp (config := { maxSteps := 1000000 }) (disch := omega) [-List.map_replicate, -List.map_set, -List.getD_eq_getElem?_getD, -getElem?_pos, -getElem?_neg, om, ir83, h1]
  refine ans_of_wp fn38 low38 ?_
  simp (config := { maxSteps := 1000000 }) (disch := omega) [-List.map_replicate, -List.map_set, -List.getD_eq_getElem?_getD, -getElem?_pos, -getElem?_neg, om, ir38, h]
theorem ansPreC (w q : Str) (bs : List Box) (k : Nat) (hk : Box.at bs k = .var 9 [.str q]) : ansF cfg 59 [.str w, .ptr k 0] bs = some (.bool (preB w q), bs) := by
  have h := ansPrefix w q
  refine ans_of_wp fn59 low59 ?_
  simp (config := { maxSteps := 1000000 }) (disch := omega) [-List.map_replicate, -List.map_set, -List.getD_eq_getElem?_getD, -getElem?_pos, -getElem?_neg, om, ir59, h, hk]
def idxP (q : Str) : List Str → Nat → Int
  | [], _ => -1
  | w :: r, i => if preB w q = true then (i : Int) else idxP q r (i + 1)
theorem idxP_any (q : Str) : ∀ (L : List Str) (i : Nat), decide (0 ≤ idxP q L i) = L.any (preB · q)
  | [], i => rfl
  | a :: r, i => by
    have ih := idxP_any q r (i + 1)
    simp only [List.any_cons]
    unfold idxP
    by_cases he : preB a q = true
    · simp only [he, if_true, Bool.true_or]; simp
    · rw [Bool.not_eq_true] at he
      simp only [he, Bool.false_or, Bool.false_eq_true, if_false]
      exact ih
theorem ansAnyP (bs : List Box) (j k : Nat) (sh : Hd) (l : List Str) (hl : l.length < 1000000) (q : Str) (hj : Box.at bs j = .sl sh 1 (strA l)) (hk : Box.at bs k = .var 9 [.str q]) :
    ansF cfg 47 [.osl j l.length, .fn 59 [] [.ptr k 0]] bs = some (.bool (l.any (preB · q)), bs) := by
  have hA := strA_len l
  have h : ansF cfg 97 [.osl j l.length, .fn 59 [] [.ptr k 0]] bs = some (.int .i64 (idxP q l 0), bs) := by
    refine ans_of_wp fn97 low97 ?_
    simp (config := { maxSteps := 1000000 }) (disch := omega) [-List.map_replicate, -List.map_set, -List.getD_eq_getElem?_getD, -getElem?_pos, -getElem?_neg, om, ir97, hj, hA]
    refine Wp.loopM (fun (i : Nat) => l.length - i) (fun i => [some (.osl j l.length), some (.fn 59 [] [.ptr k 0]), none, none, some (.int .i64 l.length), some (.int .i64 i), none, none]) (fun _ => bs) (fun i => idxP q l 0 = idxP q (l.drop i) i) ?_ 0 rfl (by simp) rfl
    intro i hr
    rw [hr]
    by_cases h1 : i < l.length
    · have hg := get_strA l h1
      have hs := ansPreC (l.getD i []) q bs k hk
      rw [dropL l h1] at hr ⊢
      simp only [idxP] at hr ⊢
      generalize l.getD i [] = a at *
      cases h2 : preB a q with
      | true =>
        rw [h2] at hs
        simp (config := { maxSteps := 1000000 }) (disch := omega) [-List.map_replicate, -List.map_set, -List.getD_eq_getElem?_getD, -getElem?_pos, -getElem?_neg, om, h1, hg, hs, hj, hA]
      | false =>
        rw [h2] at hs hr
        simp (config := { maxSteps := 1000000 }) (disch := omega) [-List.map_replicate, -List.map_set, -List.getD_eq_getElem?_getD, -getElem?_pos, -getElem?_neg, om, h1, hg, hs, hj, hA]
        exact ⟨i + 1, by simpa using rfl, by omega, by simp⟩
    · rw [List.drop_eq_nil_of_le (by omega)]
      simp (config := { maxSteps := 1000000 }) (disch := omega) [-List.map_replicate, -List.map_set, -List.getD_eq_getElem?_getD, -getElem?_pos, -getElem?_neg, om, h1, idxP]
  refine ans_of_wp fn47 low47 ?_
  rw [← idxP_any q l 0]
  by_cases h4 : 0 ≤ idxP q l 0
  · simp (config := { maxSteps := 1000000 }) (disch := omega) [-List.map_replicate, -List.map_set, -List.getD_eq_getElem?_getD, -getElem?_pos, -getElem?_neg, om, ir47, h, h4, hj, hA]
  · simp (config := { maxSteps := 1000000 }) (disch := omega) [-List.map_replicate, -List.map_set, -List.getD_eq_getElem?_getD, -getElem?_pos, -getElem?_neg, om, ir47, h, h4, hj, hA]
def fndT (text query : Str) (l : List Str) (st : LSt) (J : List Box) : List Box :=
  [.var 4 [.bool false], .var 57 [.osl 4 l.length], .var 9 [.str text], .var 57 [.osl 4 l.length], .sl ⟨false, some 9⟩ 1 (strA l), .var 9 [.str query], .loop st] ++ J
structure FndF (L : Nat) (l : List Str) (T : LSt → List Box) : Prop where
  len : ∀ st, (T st).length = L
  a0 : ∀ st m, Box.at (T st ++ m) 0 = .var 4 [.bool false]
  a1 : ∀ st m, Box.at (T st ++ m) 1 = .var 57 [.osl 4 l.length]
  a4 : ∀ st m, Box.at (T st ++ m) 4 = .sl ⟨false, some 9⟩ 1 (strA l)
  a6 : ∀ st m, Box.at (T st ++ m) 6 = .loop st
  b6 : ∀ st, Box.at (T st) 6 = .loop st
  s0 : ∀ st m, (T st ++ m).set 0 (.var 4 [.bool false]) = T st ++ m
  s6 : ∀ st m st', (T st ++ m).set 6 (.loop st') = T st' ++ m
  g0 : ∀ st m, (T st ++ m)[L]? = m[0]?
  h0 : ∀ st m, Box.at (T st ++ m) L = Box.at m 0
  p0 : ∀ st m x, (T st ++ m).set L x = T st ++ m.set 0 x
  mp : ∀ st, (T st).map (forgetBox L) = T st
  tk : ∀ st m, (T st ++ m).take L = T st
  ml : 6 < L
theorem fndF (text query : Str) (l : List Str) (J : List Box) (hJ : Bare J) : FndF (7 + J.length) l (fun st => fndT text query l st J) where
  len st := by simp [fndT]; omega
  a0 st m := rfl
  a1 st m := rfl
  a4 st m := rfl
  a6 st m := rfl
  b6 st := rfl
  s0 st m := rfl
  s6 st m st' := rfl
  g0 st m := by rw [show 7 + J.length = (fndT text query l st J).length by simp [fndT]; omega]; exact get_app_r0 _ _
  h0 st m := by rw [show 7 + J.length = (fndT text query l st J).length by simp [fndT]; omega]; exact at_app_r0 _ _
  p0 st m x := by rw [show 7 + J.length = (fndT text query l st J).length by simp [fndT]; omega]; exact set_app_r0 _ _ _
  mp st := shut_map (Nat.le_refl _) (by
    unfold fndT
    rw [shut_app, hJ]
    simp [shut, underAll, AV.under]
    omega)
  tk st m := List.take_left' (by simp [fndT]; omega)
  ml := by omega
def envF (text query : Str) (n : Nat) : List AV := [.str text, .str query, .ptr 0 0, .ptr 1 0, .any, .fn 99 [] [.ptr 2 0], .osl 4 n, .fn 99 [] [.ptr 5 0], .any, .any, .any, .any, .any]
theorem roundF (text query : Str) (n : Nat) (x : AV) : roundV site21_0 (envF text query n) [x] =
    [some (.str text), some (.str query), some (.ptr 0 0), some (.ptr 1 0), some .any, some (.fn 99 [] [.ptr 2 0]), some (.osl 4 n), some (.fn 99 [] [.ptr 5 0]), some x, some .any, some .any, some .any, some .any] := by kernel_rfl
def endF (b : Bool) : LSt := if b = true then .ready else .done .ret
theorem yldFnd (text query : Str) (l : List Str) (hl : l.length < 1000000) (q : Str) (J : List Box) (hJ : Bare J) :
    ansT cfg (.yld 6 site21_0 (envF text query l.length)) [.str q] (fndT text query l .ready J) = some (.bool (l.any (preB · q)), fndT text query l (endF (l.any (preB · q))) J) := by
  have F := fndF text query l J hJ
  have hP : ∀ st, ansF cfg 47 [.osl 4 l.length, .fn 59 [] [.ptr (7 + J.length) 0]] (fndT text query l st J ++ [.var 9 [.str q]]) = some (.bool (l.any (preB · q)), fndT text query l st J ++ [.var 9 [.str q]]) := fun st =>
    ansAnyP _ 4 (7 + J.length) ⟨false, some 9⟩ l hl q rfl (F.h0 st _)
  refine yld_of_wp lowS21_0 (by kernel_rfl) (by kernel_rfl) (F.b6 _) ?_
  rw [roundF]
  generalize hT : (fun st => fndT text query l st J) = T at *
  have hT' : ∀ st, fndT text query l st J = T st := fun st => by rw [← hT]
  simp only [hT'] at hP ⊢
  generalize 7 + J.length = L at *
  obtain ⟨len, a0, a1, a4, a6, b6, s0, s6, g0, h0, p0, mp, tk, ml⟩ := F
  unfold endF
  cases hb : l.any (preB · q) with
  | true =>
    rw [hb] at hP
    simp (config := { maxSteps := 1000000 }) (disch := omega) [-List.map_replicate, -List.map_set, -List.getD_eq_getElem?_getD, -getElem?_pos, -getElem?_neg, om, irA21_0, irB21_0, splice, endSt, Ex.isNormal, len, a0, a1, a4, a6, b6, s0, s6, g0, h0, p0, mp, tk, hP, strA_len]
  | false =>
    rw [hb] at hP
    simp (config := { maxSteps := 1000000 }) (disch := omega) [-List.map_replicate, -List.map_set, -List.getD_eq_getElem?_getD, -getElem?_pos, -getElem?_neg, om, irA21_0, irB21_0, splice, endSt, Ex.isNormal, len, a0, a1, a4, a6, b6, s0, s6, g0, h0, p0, mp, tk, hP, strA_len]
def hasB (l : List Str) (q : Str) : Bool := l.any (preB · q)
def foundB (text query : Str) : Bool := (wordsL query).all (hasB (wordsL text))
theorem runF (ok : Str → Bool) (ws : List Str) : runW (fun (_ : Bool) w => ok w) (fun _ w => ok w) ws true = ws.all ok := by
  induction ws with
  | nil => rfl
  | cons w r ih =>
    simp only [runW, List.all_cons]
    cases h : ok w with
    | true => simpa using ih
    | false => rfl
theorem ansFoundR (text query : Str) (hq : query.length < 900000) (l : List Str) (hl : l.length < 1000000) :
    ansF cfg 99 [.yld 6 site21_0 (envF text query l.length), .ptr 5 0] (fndT text query l .ready []) = some (.tup [], fndT text query l (endF ((wordsL query).all (hasB l))) []) := by
  have h := wordsRun query (by omega) 7 5 6 site21_0 (envF text query l.length) (fun b => fndT text query l (endF b) []) (fun _ w => hasB l w) (fun _ w => hasB l w) (fun _ => 0) (fun _ _ => by omega) (fun b => b = true) (fun _ _ _ h => h)
    (fun b => rfl) (fun b => rfl) (by omega) (by omega) (fun b => by simp [fndT, shut, underAll, AV.under]) (by simp [envF, underAll, AV.under])
    (fun b w J hw _ hb hJ => by
      subst hb
      have := yldFnd text query l hl w J hJ
      simpa [fndT, endF, hasB] using this) true rfl rfl
  rw [runF] at h
  simpa [endF] using h
theorem ansFound (text query : Str) (ht : text.length < 900000) (hq : query.length < 900000) : ansF cfg 21 [.str text, .str query] [] = some (.bool (foundB text query), []) := by
  have hc := ansCollect [.var 4 [.bool false], .dead, .var 9 [.str text]] 2 text (by omega) rfl rfl (by simp)
  have ht2 := words_tot text
  have htl := tot_length (wordsL text)
  have hr := ansFoundR text query hq (wordsL text) (by omega)
  refine ans_of_wp fn21 low21 ?_
  unfold foundB
  have hw := ansWords query
  unfold colE at hc
  generalize wordsL text = l at *
  simp only [List.length_cons, List.length_nil, List.cons_append, List.nil_append] at hc
  simp (config := { maxSteps := 1000000 }) (disch := omega) [-List.map_replicate, -List.map_set, -List.getD_eq_getElem?_getD, -getElem?_pos, -getElem?_neg, om, ir21, ansWords, hc, splice]
  cases hb : (wordsL query).all (hasB l) with
  | true =>
    rw [hb] at hr
    refine Wp.rng (f := 99) (caps := [.ptr 5 0]) (r := .tup []) (b' := fndT text query l .ready []) (st := .ready) (e := .normal) rfl rfl hr rfl rfl ?_
    unfold fndT
    simp (config := { maxSteps := 1000000 }) (disch := omega) [-List.map_replicate, -List.map_set, -List.getD_eq_getElem?_getD, -getElem?_pos, -getElem?_neg, om, cutV, splice]
  | false =>
    rw [hb] at hr
    refine Wp.rng (f := 99) (caps := [.ptr 5 0]) (r := .tup []) (b' := fndT text query l (.done .ret) []) (st := .done .ret) (e := .ret) rfl rfl hr rfl rfl ?_
    unfold fndT
    simp (config := { maxSteps := 1000000 }) (disch := omega) [-List.map_replicate, -List.map_set, -List.getD_eq_getElem?_getD, -getElem?_pos, -getElem?_neg, om, cutV, splice]
end Go.Proofs.YtlolhkjjbgpfbaaGreatDoor
namespace Go.Proofs.YtlolhkjjbgpfbaaGreatDoor
open Go.Am
set_option maxRecDepth 10000
set_option maxHeartbeats 4000000
theorem fresh1_two (v : AV) (a b : Box) (r : List Box) : fresh1 v (a :: b :: r) = none := by
  unfold fresh1
  split
  · rename_i h; simp at h
  · rfl
def hdU (l : List Au) (day : Int) : List Hd1 := (hdGo l day l).map (hdF (mOf (hdGo l day l)).1)
def hdsL (l : List Au) (day : Int) : List Hd1 := sortS (hdU l day)
theorem hdU_len (l : List Au) (day : Int) : (hdU l day).length = (hdGo l day l).length := by simp [hdU]
theorem hdU_b (l : List Au) (day : Int) : ∀ h ∈ hdU l day, h.1.length < 900000 := by
  intro h hh
  unfold hdU at hh
  obtain ⟨g, hg, rfl⟩ := List.mem_map.1 hh
  obtain ⟨b1, b2, b3⟩ := hd_mem (l := l) (day := day) (a := l) (fun x h => h) g hg
  have hil := Lib.itoa_length_le g.2 (by omega) (by omega)
  unfold hdF hdT
  simp only
  split
  · simp; omega
  · omega
def hdsV (l : List Au) (day : Int) : AV := if asksE l day = 0 then .lst none 2 ((hdsL l day).map hdA) else .lst (some true) 0 []
theorem ansHeadings (nl : Option Bool) (z : Nat) (l : List Au) (hz : l ≠ [] → z = 6) (hok : ∀ x ∈ l, x.ok) (day : Int) (h12 : asksE l day = 0 → l.length ≤ 12) :
    ansF cfg 27 [auL nl z l, .int .i64 day] [] = some (.tup [hdsV l day, .int .i64 (asksE l day)], []) := by
  have h := ansAsksN nl z l hz hok day
  have hpl := plain_auA l
  unfold hdsV
  by_cases h0 : asksE l day = 0
  case neg =>
    refine ans_of_wp fn27 low27 ?_
    rw [if_neg h0]
    generalize asksE l day = e at *
    have h1 : (e != 0) = true := by simpa using h0
    unfold auL at *
    simp (config := { maxSteps := 1000000 }) (disch := omega) [-List.map_replicate, -List.map_set, -List.getD_eq_getElem?_getD, -getElem?_pos, -getElem?_neg, om, ir27, h, h1, hpl]
  have h12 := h12 h0
  have hH := ansHd0 nl z l hz hok (by omega) day
  have hUl := hdU_len l day
  have hgl := hdGo_len l day l
  rw [← hUl] at hH
  rw [show (hdGo l day l).map (hdF (mOf (hdGo l day l)).1) = hdU l day from rfl] at hH
  have hS := ansSort ((mOf (hdGo l day l)).1.map ctA) (mOf (hdGo l day l)).2 (hdU l day) (by omega) (hdU_b l day)
  rw [h0] at h ⊢
  rw [if_pos rfl]
  refine ans_of_wp fn27 low27 ?_
  unfold hdsL
  have hsl : ((sortS (hdU l day)).map hdA).length = (hdU l day).length := by rw [List.length_map, sortS_len]
  generalize hdU l day = U at *
  generalize mOf (hdGo l day l) = M at *
  generalize (sortS U).map hdA = SA at *
  generalize U.map hdA = UA at *
  unfold auL at *
  simp (config := { maxSteps := 1000000 }) (disch := omega) [-List.map_replicate, -List.map_set, -List.getD_eq_getElem?_getD, -getElem?_pos, -getElem?_neg, om, ir27, h, hpl, hH, hS, hsl, fresh1_two, -fresh1]
def locH (L : List Hd1) (id : Int) (i : Nat) : Option Nat :=
  if h : i < L.length then if L[i].2 = id then some i else locH L id (i + 1) else none
termination_by L.length - i
theorem locH_spec (L : List Hd1) (id : Int) : ∀ (n i : Nat), L.length - i = n → (∀ j, locH L id i = some j → ∃ h : j < L.length, L[j].2 = id) ∧ ((∃ j, ∃ h : j < L.length, i ≤ j ∧ L[j].2 = id) → ∃ j, locH L id i = some j)
  | 0, i, hn => by
    rw [locH, dif_neg (by omega)]
    exact ⟨fun j h => (by cases h), fun ⟨j, h1, h2, _⟩ => (by omega)⟩
  | n + 1, i, hn => by
    rw [locH, dif_pos (by omega)]
    split
    · rename_i h0
      exact ⟨fun j h => (by cases h; exact ⟨by omega, h0⟩), fun _ => ⟨i, rfl⟩⟩
    · rename_i h0
      obtain ⟨h1, h2⟩ := locH_spec L id n (i + 1) (by omega)
      refine ⟨h1, fun ⟨j, hj, hij, he⟩ => h2 ⟨j, hj, ?_, he⟩⟩
      rcases Nat.lt_or_ge i j with h | h
      · exact h
      · have : i = j := by omega
        subst this
        exact absurd he h0
theorem ansLocH (id : Int) (es : List (AV × AV × Nat)) (ck : Nat) (L : List Hd1) (hl : L.length < 1000000) :
    ansF cfg 63 [.osl 2 L.length, .fn 64 [] [.ptr 0 0]] [.var 3 [.int .i64 id], .mp es ck, .sl ⟨false, some 46⟩ 2 (L.map hdA)] = some (.int .i64 (locI (locH L id 0)), [.var 3 [.int .i64 id], .mp es ck, .sl ⟨false, some 46⟩ 2 (L.map hdA)]) := by
  have hc : ∀ h : Hd1, ansF cfg 64 [hdA h, .ptr 0 0] [.var 3 [.int .i64 id], .mp es ck, .sl ⟨false, some 46⟩ 2 (L.map hdA)] = some (.bool (h.2 == id), [.var 3 [.int .i64 id], .mp es ck, .sl ⟨false, some 46⟩ 2 (L.map hdA)]) := fun h => by
    refine ans_of_wp fn64 low64 ?_
    unfold hdA
    simp (config := { maxSteps := 1000000 }) (disch := omega) [-List.map_replicate, -List.map_set, -List.getD_eq_getElem?_getD, -getElem?_pos, -getElem?_neg, om, ir64]
  refine ans_of_wp fn63 low63 ?_
  have hLl : (L.map hdA).length = L.length := by simp
  simp (config := { maxSteps := 1000000 }) (disch := omega) [-List.map_replicate, -List.map_set, -List.getD_eq_getElem?_getD, -getElem?_pos, -getElem?_neg, om, ir63, hLl]
  refine Wp.loopM (fun (i : Nat) => L.length - i) (fun i => [some (.osl 2 L.length), some (.fn 64 [] [.ptr 0 0]), none, none, some (.int .i64 L.length), some (.int .i64 i), none, none]) (fun _ => [.var 3 [.int .i64 id], .mp es ck, .sl ⟨false, some 46⟩ 2 (L.map hdA)]) (fun i => locH L id 0 = locH L id i) ?_ 0 rfl (by simp) rfl
  intro i hr
  rw [hr]
  have hb := locH.eq_def L id i
  by_cases h1 : i < L.length
  · have hg : (L.map hdA)[i]? = some (hdA L[i]) := by simp [h1]
    have hs := hc L[i]
    rw [dif_pos h1] at hb
    generalize L.map hdA = E at *
    generalize L[i] = x at *
    unfold hdA at hs hg
    by_cases h2 : x.2 = id
    · rw [if_pos h2] at hb
      rw [hb]
      have h3 : (x.2 == id) = true := by simpa using h2
      rw [h3] at hs
      simp (config := { maxSteps := 1000000 }) (disch := omega) [-List.map_replicate, -List.map_set, -List.getD_eq_getElem?_getD, -getElem?_pos, -getElem?_neg, om, h1, hg, hs, locI, hLl]
    · rw [if_neg h2] at hb
      rw [hb]
      have h3 : (x.2 == id) = false := by simpa using h2
      rw [h3] at hs
      simp (config := { maxSteps := 1000000 }) (disch := omega) [-List.map_replicate, -List.map_set, -List.getD_eq_getElem?_getD, -getElem?_pos, -getElem?_neg, om, h1, hg, hs, locI, hLl]
      exact ⟨i + 1, rfl, by omega, by simp⟩
  · rw [dif_neg h1] at hb
    rw [hb]
    simp (config := { maxSteps := 1000000 }) (disch := omega) [-List.map_replicate, -List.map_set, -List.getD_eq_getElem?_getD, -getElem?_pos, -getElem?_neg, om, h1, locI]
theorem hdGo_mem {l : List Au} {day : Int} : ∀ {a : List Au} {x : Au}, x ∈ a → (plainR l x day).2 = 0 → ((plainR l x day).1, x.id) ∈ hdGo l day a
  | y :: r, x, h, h0 => by
    simp only [hdGo]
    rcases List.mem_cons.1 h with rfl | h
    · rw [if_pos h0]; exact .head _
    · have := hdGo_mem (l := l) (day := day) h h0
      split
      · exact .tail _ this
      · exact this
theorem nameR_get {l : List Au} {id day : Int} (h : (nameR l id day).2 = 0) : ∃ x ∈ l, x.id = id := by
  unfold nameR at h
  by_cases h0 : asksE l day = 0
  · rw [if_neg (by simp [h0])] at h
    unfold getA at h
    cases hc : loc l id 0 with
    | none => rw [hc] at h; simp at h
    | some j =>
      obtain ⟨hj, hi⟩ := loc_spec l id _ 0 rfl j hc
      exact ⟨l[j], List.getElem_mem hj, hi⟩
  · rw [if_pos h0] at h; exact absurd h h0
def headS (l : List Au) (id day : Int) : Str := match locH (hdU l day) id 0 with | some i => ((hdU l day).getD i ([], 0)).1 | none => []
def headR (l : List Au) (id day : Int) : Str × Int := if (nameR l id day).2 = 0 then (headS l id day, 0) else ([], (nameR l id day).2)
theorem ansHeading (nl : Option Bool) (z : Nat) (l : List Au) (hz : l ≠ [] → z = 6) (hok : ∀ x ∈ l, x.ok) (id day : Int) :
    ansF cfg 24 [auL nl z l, .int .i64 id, .int .i64 day] [] = some (.tup [.str (headR l id day).1, .int .i64 (headR l id day).2], []) := by
  have h := ansNameA nl z l hz hok id day
  have hpl := plain_auA l
  unfold headR
  by_cases h0 : (nameR l id day).2 = 0
  case neg =>
    rw [if_neg h0]
    generalize nameR l id day = e at *
    obtain ⟨s, e⟩ := e
    simp only at h h0 ⊢
    have h1 : (e != 0) = true := by simpa using h0
    refine ans_of_wp fn24 low24 ?_
    unfold auL at *
    simp (config := { maxSteps := 1000000 }) (disch := omega) [-List.map_replicate, -List.map_set, -List.getD_eq_getElem?_getD, -getElem?_pos, -getElem?_neg, om, ir24, h, h1, hpl]
  have hl := asks_len (nameR_ok h0)
  have hgl := hdGo_len l day l
  have hUl := hdU_len l day
  have hH0 := ansHd0 nl z l hz hok (by omega) day
  have hH1 := ansHd1 nl z l hz hok (by omega) day id
  rw [← hUl] at hH0 hH1
  rw [show (hdGo l day l).map (hdF (mOf (hdGo l day l)).1) = hdU l day from rfl] at hH0 hH1
  have hL := ansLocH id ((mOf (hdGo l day l)).1.map ctA) (mOf (hdGo l day l)).2 (hdU l day) (by omega)
  obtain ⟨sp1, sp2⟩ := locH_spec (hdU l day) id _ 0 rfl
  obtain ⟨x, hx, hxid⟩ := nameR_get h0
  have hp0 : (plainR l x day).2 = 0 := by
    unfold plainR
    rw [hxid]
    split
    · exact h0
    · exact h0
  have hin : ((hdF (mOf (hdGo l day l)).1) ((plainR l x day).1, x.id)) ∈ hdU l day := List.mem_map_of_mem (hdGo_mem hx hp0)
  obtain ⟨j, hj, hje⟩ := List.getElem_of_mem hin
  obtain ⟨k, hk⟩ := sp2 ⟨j, hj, Nat.zero_le _, by rw [hje]; exact hxid⟩
  obtain ⟨hkl, hke⟩ := sp1 k hk
  rw [if_pos h0]
  unfold headS
  rw [hk] at hL ⊢
  rw [h0] at h
  simp only
  have hgd : (hdU l day).getD k ([], 0) = (hdU l day)[k] := by simp [List.getD_eq_getElem?_getD, hkl]
  rw [hgd]
  have hg : ((hdU l day).map hdA)[k]? = some (hdA (hdU l day)[k]) := by simp [hkl]
  have hsl : ((hdU l day).map hdA).length = (hdU l day).length := by simp
  generalize (hdU l day)[k] = g at *
  generalize hdU l day = U at *
  generalize mOf (hdGo l day l) = M at *
  generalize U.map hdA = UA at *
  refine ans_of_wp fn24 low24 ?_
  unfold auL hdA locI at *
  simp (config := { maxSteps := 1000000 }) (disch := omega) [-List.map_replicate, -List.map_set, -List.getD_eq_getElem?_getD, -getElem?_pos, -getElem?_neg, om, ir24, h, hpl, hH0, hH1, hL, hg, hsl, fresh1_two, -fresh1]
end Go.Proofs.YtlolhkjjbgpfbaaGreatDoor
namespace Go.Proofs.YtlolhkjjbgpfbaaGreatDoor
open Go.Am
set_option maxRecDepth 10000
set_option maxHeartbeats 4000000
def hitB (l : List Au) (query : Str) (day : Int) (x : Au) : Bool := decide ((nameR l x.id day).2 = 0) && foundB (nameR l x.id day).1 query
def srchGo (l : List Au) (query : Str) (day : Int) : List Au → List Int
  | [] => []
  | x :: r => if hitB l query day x = true then x.id :: srchGo l query day r else srchGo l query day r
theorem srchGo_app (l : List Au) (query : Str) (day : Int) (a b : List Au) : srchGo l query day (a ++ b) = srchGo l query day a ++ srchGo l query day b := by
  induction a with
  | nil => rfl
  | cons x r ih => simp only [List.cons_append, srchGo]; split <;> simp [ih]
def srchE (l : List Au) (query : Str) (day : Int) : Int := if asksE l day ≠ 0 then asksE l day else if foldS query = [] then 9 else 0
def srchV (l : List Au) (query : Str) (day : Int) : AV := if srchE l query day = 0 then .lst none 1 ((srchGo l query day l).map intA) else .lst (some true) 0 []
theorem ansSearchN (nl : Option Bool) (z : Nat) (l : List Au) (hz : l ≠ [] → z = 6) (hok : ∀ x ∈ l, x.ok) (query : Str) (hq : query.length < 900000) (day : Int) :
    ansF cfg 29 [auL nl z l, .str query, .int .i64 day] [] = some (.tup [srchV l query day, .int .i64 (srchE l query day)], []) := by
  have h := ansAsksN nl z l hz hok day
  have hF := foldOk query (by omega)
  have hpl := plain_auA l
  have hN := fun id => ansNameA nl z l hz hok id day
  refine ans_of_wp fn29 low29 ?_
  unfold srchV srchE
  by_cases h0 : asksE l day = 0
  case neg =>
    have hc : ¬ (if asksE l day ≠ 0 then asksE l day else if foldS query = [] then 9 else 0 : Int) = 0 := by rw [if_pos h0]; exact h0
    rw [if_neg hc, if_pos h0]
    generalize asksE l day = e at *
    have h1 : (e != 0) = true := by simpa using h0
    unfold auL at *
    simp (config := { maxSteps := 1000000 }) (disch := omega) [-List.map_replicate, -List.map_set, -List.getD_eq_getElem?_getD, -getElem?_pos, -getElem?_neg, om, ir29, h, h1, hpl]
  have hl := asks_len h0
  rw [h0] at h
  rw [if_neg (by simp [h0] : ¬ asksE l day ≠ 0)]
  by_cases h2 : foldS query = []
  · rw [if_pos h2]
    rw [h2] at hF
    unfold auL at *
    simp (config := { maxSteps := 1000000 }) (disch := omega) [-List.map_replicate, -List.map_set, -List.getD_eq_getElem?_getD, -getElem?_pos, -getElem?_neg, om, ir29, h, hF, hpl]
  rw [if_neg h2, if_pos rfl]
  have h3 : (foldS query == []) = false := by simpa using h2
  generalize foldS query = fq at *
  unfold auL at *
  simp (config := { maxSteps := 1000000 }) (disch := omega) [-List.map_replicate, -List.map_set, -List.getD_eq_getElem?_getD, -getElem?_pos, -getElem?_neg, om, ir29, h, hF, h3, hpl]
  refine Wp.loopM (fun (i : Nat × Option AV) => l.length - i.1) (fun i => [some (.lst nl z (l.map auA)), some (.str query), some (.int .i64 day), none, none, none, some (.osl 0 (srchGo l query day (l.take i.1)).length), none, none, none, none, none, none, none, some (.lst nl z (l.map auA)), some (.int .i64 l.length), some (.int .i64 i.1), none, none, none, i.2, none, none, none])
    (fun i => [.sl ⟨false, some 3⟩ 1 ((srchGo l query day (l.take i.1)).map intA)]) (fun i => i.1 ≤ l.length ∧ (srchGo l query day (l.take i.1)).length ≤ i.1 ∧ ∀ k n s r, underV k n s (i.2 :: r) = underV k n (s + 1) r ∨ 1006 = 1006) ?_ (0, none) ⟨by omega, by simp [srchGo], fun k n s r => .inr rfl⟩ (by simp [srchGo]) (by simp [srchGo])
  rintro ⟨i, o⟩ ⟨hi, hil, _⟩
  simp only at hi hil ⊢
  by_cases h1 : i < l.length
  · have hz6 : z = 6 := hz (by intro h; rw [h] at h1; simp at h1)
    subst hz6
    have hg : l[i]? = some l[i] := List.getElem?_eq_getElem h1
    have hN := hN l[i].id
    have hlen := nameR_len l l[i].id day
    have hfd := ansFound (nameR l l[i].id day).1 query (by omega) hq
    have htk : srchGo l query day (l.take (i + 1)) = srchGo l query day (l.take i) ++ srchGo l query day [l[i]] := by
      rw [← srchGo_app, List.take_add_one, hg]; rfl
    have hone : srchGo l query day [l[i]] = if hitB l query day l[i] = true then [l[i].id] else [] := by simp only [srchGo]
    rw [hone] at htk
    clear hone
    unfold hitB at htk
    generalize srchGo l query day (l.take i) = A at *
    generalize l[i] = x at *
    generalize nameR l x.id day = q at *
    obtain ⟨s, e⟩ := q
    simp only at hN hfd htk
    have hAl : (A.map intA).length = A.length := by simp
    by_cases h4 : e = 0
    · subst h4
      cases h5 : foundB s query with
      | true =>
        rw [h5] at hfd
        rw [if_pos (by simp [h5])] at htk
        simp (config := { maxSteps := 1000000 }) (disch := omega) [-List.map_replicate, -List.map_set, -List.getD_eq_getElem?_getD, -getElem?_pos, -getElem?_neg, om, h1, hg, auA, Au.cells, hN, hfd, hpl, plain_nmA, plain_intA, splice]
        exact ⟨i + 1, by rw [htk]; exact ⟨⟨by omega, by simp; omega⟩, by omega, ⟨by simp, by simp⟩, by simp [intA]⟩⟩
      | false =>
        rw [h5] at hfd
        rw [if_neg (by simp [h5]), List.append_nil] at htk
        simp (config := { maxSteps := 1000000 }) (disch := omega) [-List.map_replicate, -List.map_set, -List.getD_eq_getElem?_getD, -getElem?_pos, -getElem?_neg, om, h1, hg, auA, Au.cells, hN, hfd, hpl, plain_nmA, plain_intA, splice]
        exact ⟨i + 1, by rw [htk]; exact ⟨⟨by omega, by omega⟩, by omega, ⟨rfl, by simp⟩, rfl⟩⟩
    · have h6 : (e == 0) = false := by simpa using h4
      rw [if_neg (by simp [h4]), List.append_nil] at htk
      simp (config := { maxSteps := 1000000 }) (disch := omega) [-List.map_replicate, -List.map_set, -List.getD_eq_getElem?_getD, -getElem?_pos, -getElem?_neg, om, h1, hg, auA, Au.cells, hN, hpl, plain_nmA, plain_intA, splice, h6]
      exact ⟨i + 1, by rw [htk]; exact ⟨⟨by omega, by omega⟩, by omega, ⟨rfl, by simp⟩, rfl⟩⟩
  · have hlen : i = l.length := by omega
    subst hlen
    rw [List.take_length] at *
    have hAl : ((srchGo l query day l).map intA).length = (srchGo l query day l).length := by simp
    generalize srchGo l query day l = A at *
    simp (config := { maxSteps := 1000000 }) (disch := omega) [-List.map_replicate, -List.map_set, -List.getD_eq_getElem?_getD, -getElem?_pos, -getElem?_neg, om, h1, hAl]
end Go.Proofs.YtlolhkjjbgpfbaaGreatDoor
namespace Go.Proofs.YtlolhkjjbgpfbaaGreatDoor
open Go.Am
set_option maxRecDepth 100000
set_option maxHeartbeats 4000000
def sA : Str := [84, 104, 101, 32, 77, 105, 108, 108, 32, 111, 102, 32, 83, 116, 46, 32, 74, 111, 104, 110, 44, 32, 78, 111, 46, 32, 48, 55]
def a1 : Au := ⟨1, 1, 0, 50, [⟨[73, 100, 97, 32, 77, 97, 121], 0, 50⟩], [], none, 3, some true, 0⟩
def a2 : Au := ⟨2, 2, 0, 50, [⟨[77, 97, 121, 44, 32, 73, 100, 97], 0, 50⟩], [], none, 3, some true, 0⟩
def lA : List Au := [a1, a2]
theorem e1 : foldS sA = [116, 104, 101, 32, 109, 105, 108, 108, 32, 111, 102, 32, 115, 116, 32, 106, 111, 104, 110, 32, 110, 111, 32, 48, 55] := by decide +kernel
theorem e2 : keyS sA = [109, 105, 108, 108, 32, 111, 102, 32, 115, 116, 32, 106, 111, 104, 110, 32, 110, 111, 32, 48, 48, 48, 48, 48, 48, 48, 48, 48, 48, 48, 55] := by decide +kernel
theorem e3 : invS [73, 100, 97, 32, 77, 97, 121] = [77, 97, 121, 44, 32, 73, 100, 97] := by decide +kernel
theorem e4 : foundB [82, 111, 121, 97, 108, 32, 77, 105, 110, 116] [109, 105, 110, 116, 32, 114, 111, 121] = true := by decide +kernel
theorem e5 : foundB [82, 111, 121, 97, 108, 32, 77, 105, 110, 116] [105, 110, 116] = false := by decide +kernel
theorem e6 : cmpS [97] [98] = -1 := by decide +kernel
theorem e7 : asksE lA 9 = 0 := by decide +kernel
theorem e8 : (nameR lA 2 9).2 = 0 := by decide +kernel
theorem e9 : hdGo lA 9 lA = [([77, 97, 121, 44, 32, 73, 100, 97], 1), ([77, 97, 121, 44, 32, 73, 100, 97], 2)] := by decide +kernel
theorem e10 : foldS [109, 97] = [109, 97] := by decide +kernel
theorem e11 : srchGo lA [109, 97] 9 lA = [1, 2] := by decide +kernel
theorem e12 : hdsL lA 9 = [([77, 97, 121, 44, 32, 73, 100, 97, 32, 40, 49, 41], 1), ([77, 97, 121, 44, 32, 73, 100, 97, 32, 40, 50, 41], 2)] := by decide +kernel
theorem e13 : headR lA 2 9 = ([77, 97, 121, 44, 32, 73, 100, 97, 32, 40, 50, 41], 0) := by decide +kernel
theorem e14 : srchE lA [109, 97] 9 = 0 := by decide +kernel
theorem okA : ∀ x ∈ lA, x.ok := by
  intro x hx
  simp only [lA, List.mem_cons, List.not_mem_nil, or_false] at hx
  rcases hx with rfl | rfl
  · exact ⟨fun _ => rfl, fun h => absurd rfl h, by simp [a1], by simp [a1]⟩
  · exact ⟨fun _ => rfl, fun h => absurd rfl h, by simp [a2], by simp [a2]⟩
theorem ansEqH (nl nl' : Option Bool) (L : List Hd1) (hL : L.length < 1000000) : ansF cfg 46 [.lst nl 2 (L.map hdA), .lst nl' 2 (L.map hdA)] [] = some (.bool true, []) := by
  refine ans_of_wp fn46 low46 ?_
  simp (config := { maxSteps := 1000000 }) (disch := omega) [-List.map_replicate, -List.map_set, -List.getD_eq_getElem?_getD, -getElem?_pos, -getElem?_neg, om, ir46]
  refine Wp.loopM (fun (i : Nat) => L.length - i) (fun i => [some (.lst nl 2 (L.map hdA)), some (.lst nl' 2 (L.map hdA)), none, none, none, some (.int .i64 L.length), some (.int .i64 i), none, none]) (fun _ => []) (fun i => i ≤ L.length) ?_ 0 (Nat.zero_le _) (by simp) rfl
  intro i hi
  by_cases h1 : i < L.length
  · have hg : L[i]? = some L[i] := List.getElem?_eq_getElem h1
    generalize L[i] = x at *
    simp (config := { maxSteps := 1000000 }) (disch := omega) [-List.map_replicate, -List.map_set, -List.getD_eq_getElem?_getD, -getElem?_pos, -getElem?_neg, om, h1, hg, hdA]
    exact ⟨i + 1, by omega, by omega, by simp⟩
  · simp (config := { maxSteps := 1000000 }) (disch := omega) [-List.map_replicate, -List.map_set, -List.getD_eq_getElem?_getD, -getElem?_pos, -getElem?_neg, om, h1]
theorem ansEqI (nl nl' : Option Bool) (z : Nat) (a b : List Int) (hz : b ≠ [] → z = 1) (ha : a.length < 1000000) : ansF cfg 32 [.lst nl 1 (a.map intA), .lst nl' z (b.map intA)] [] = some (.bool (decide (a = b)), []) := by
  refine ans_of_wp fn32 low32 ?_
  by_cases hl : a.length = b.length
  case neg =>
    have hd : decide (a = b) = false := by rw [decide_eq_false_iff_not]; intro h; rw [h] at hl; exact hl rfl
    have hb : ((a.length : Int) != (b.length : Int)) = true := by simp; omega
    rw [hd]
    simp (config := { maxSteps := 1000000 }) (disch := omega) [-List.map_replicate, -List.map_set, -List.getD_eq_getElem?_getD, -getElem?_pos, -getElem?_neg, om, ir32, hb]
  have hb : ((a.length : Int) != (b.length : Int)) = false := by simp; omega
  simp (config := { maxSteps := 1000000 }) (disch := omega) [-List.map_replicate, -List.map_set, -List.getD_eq_getElem?_getD, -getElem?_pos, -getElem?_neg, om, ir32, hb]
  refine Wp.loopM (fun (i : Nat) => a.length - i) (fun i => [some (.lst nl 1 (a.map intA)), some (.lst nl' z (b.map intA)), none, none, none, some (.int .i64 a.length), some (.int .i64 i), none, none]) (fun _ => []) (fun i => i ≤ a.length ∧ decide (a = b) = decide (a.drop i = b.drop i)) ?_ 0 ⟨Nat.zero_le _, by simp⟩ (by simp) rfl
  rintro i ⟨hi, hr⟩
  rw [hr]
  by_cases h1 : i < a.length
  · have h2 : i < b.length := by omega
    have hz : z = 1 := hz (by intro h; rw [h] at h2; simp at h2)
    subst hz
    have hg : a[i]? = some a[i] := List.getElem?_eq_getElem h1
    have hg2 : b[i]? = some b[i] := List.getElem?_eq_getElem h2
    rw [List.drop_eq_getElem_cons h1, List.drop_eq_getElem_cons h2] at hr ⊢
    generalize a[i] = x at *
    generalize b[i] = y at *
    by_cases h3 : x = y
    · subst h3
      simp (config := { maxSteps := 1000000 }) (disch := omega) [-List.map_replicate, -List.map_set, -List.getD_eq_getElem?_getD, -getElem?_pos, -getElem?_neg, om, h1, hg, hg2, intA]
      exact ⟨i + 1, ⟨by omega, Iff.rfl⟩, by omega, by simp⟩
    · have h4 : (x != y) = true := by simpa using h3
      simp (config := { maxSteps := 1000000 }) (disch := omega) [-List.map_replicate, -List.map_set, -List.getD_eq_getElem?_getD, -getElem?_pos, -getElem?_neg, om, h1, hg, hg2, intA, h4, h3]
  · rw [List.drop_eq_nil_of_le (by omega), List.drop_eq_nil_of_le (by omega)]
    simp (config := { maxSteps := 1000000 }) (disch := omega) [-List.map_replicate, -List.map_set, -List.getD_eq_getElem?_getD, -getElem?_pos, -getElem?_neg, om, h1]
theorem awake : ansF cfg 11 [] [] = some (.bool true, []) := by
  have h1 := ansHeadings none 6 lA (fun _ => rfl) okA 9 (fun _ => by decide)
  have h2 := ansHeading none 6 lA (fun _ => rfl) okA 2 9
  have h3 := ansSearchN none 6 lA (fun _ => rfl) okA [109, 97] (by simp) 9
  have k1 := foldOk sA (by simp [sA])
  have k2 := keyRun sA (by simp [sA])
  have k3 := ansInverted [73, 100, 97, 32, 77, 97, 121] (by simp)
  have k4 := ansFound [82, 111, 121, 97, 108, 32, 77, 105, 110, 116] [109, 105, 110, 116, 32, 114, 111, 121] (by simp) (by simp)
  have k5 := ansFound [82, 111, 121, 97, 108, 32, 77, 105, 110, 116] [105, 110, 116] (by simp) (by simp)
  have k6 := ansCompare [97] [98] (by simp) (by simp)
  have q1 := ansEqH none none (hdsL lA 9) (by rw [e12]; simp)
  have q2 := ansEqI none none 1 [1, 2] [1, 2] (fun _ => rfl) (by simp)
  unfold hdsV at h1
  rw [e7, if_pos rfl, e12] at h1
  rw [e13] at h2
  unfold srchV at h3
  rw [e14, if_pos rfl, e11] at h3
  rw [e1] at k1
  rw [e2] at k2
  rw [e3] at k3
  rw [e4] at k4
  rw [e5] at k5
  rw [e6] at k6
  rw [e12] at q1
  simp only [decide_true] at q2
  simp only [auL, lA, a1, a2, List.map_cons, List.map_nil, auA, Au.cells, nmA, intA, hdA, sA] at h1 h2 h3 k1 k2 q1 q2
  refine ans_of_wp fn11 low11 ?_
  simp (config := { maxSteps := 1000000 }) (disch := omega) [-List.map_replicate, -List.map_set, -List.getD_eq_getElem?_getD, -getElem?_pos, -getElem?_neg, om, ir11, splice, h1, h2, h3, k1, k2, k3, k4, k5, k6, q1, q2]
end Go.Proofs.YtlolhkjjbgpfbaaGreatDoor
