/-
  Key and Compare of the program. Compare and Inverted of the program.
-/
import Derived.Test.YtlolhkjjbgpfbaaGreatDoorColM
import Derived.Test.YtlolhkjjbgpfbaaGreatDoorAuM
set_option linter.all false
namespace Go.Proofs.YtlolhkjjbgpfbaaGreatDoor
open Go.Am
set_option maxRecDepth 10000
set_option maxHeartbeats 4000000
def tot : List Str → Nat
  | [] => 0
  | w :: r => w.length + 1 + tot r
theorem wordsGo_tot : ∀ (s w : Str), tot (wordsGo s w) ≤ s.length + w.length + 1
  | [], w => by unfold wordsGo; split <;> simp [tot]
  | c :: r, w => by
    unfold wordsGo
    split
    · have := wordsGo_tot r (w ++ [lowB c]); simp at this ⊢; omega
    · have := wordsGo_tot r []
      split
      · simp at this ⊢; omega
      · simp [tot] at this ⊢; omega
theorem words_tot (s : Str) : tot (wordsL s) ≤ s.length + 1 := by have := wordsGo_tot s []; simpa [wordsL] using this
theorem tot_length : ∀ l : List Str, l.length ≤ tot l
  | [] => Nat.le_refl _
  | w :: r => by have := tot_length r; simp [tot]; omega
theorem tot_mem : ∀ {l : List Str} {w : Str}, w ∈ l → w.length < tot l
  | x :: r, w, h => by
    simp only [tot]
    rcases List.mem_cons.1 h with rfl | h
    · omega
    · have := tot_mem h; omega
theorem join_cons2 (x y : Str) (r : List Str) (sep : Str) : Lib.join (x :: y :: r) sep = x ++ sep ++ Lib.join (y :: r) sep := by simp [Lib.join, List.intercalate, List.intersperse]
theorem join_one (x sep : Str) : Lib.join [x] sep = x := by simp [Lib.join, List.intercalate, List.intersperse]
theorem join_tot : ∀ l : List Str, (Lib.join l [32]).length ≤ tot l
  | [] => by simp [Lib.join, List.intercalate]
  | [x] => by rw [join_one]; simp [tot]
  | x :: y :: r => by
    have := join_tot (y :: r)
    rw [join_cons2]
    simp [tot] at this ⊢
    omega
theorem foldOk (s : Str) (hs : s.length < 1000000) : ansF cfg 13 [.str s] [] = some (.str (foldS s), []) := by
  have h1 := words_tot s
  have h2 := tot_length (wordsL s)
  have h3 := join_tot (wordsL s)
  exact ansFold s hs (by omega) (by unfold foldS; omega)
def stripZ : Str → Str
  | 48 :: c :: r => stripZ (c :: r)
  | w => w
def padS (w : Str) : Str := Lib.repeatL [48] (12 - w.length) ++ w
def numS (w : Str) : Str := if w.all digB = true then padS (stripZ w) else w
theorem stripZ_len : ∀ w : Str, (stripZ w).length ≤ w.length
  | [] => by simp [stripZ]
  | [c] => by unfold stripZ; split <;> simp_all
  | c :: d :: r => by
    have := stripZ_len (d :: r)
    unfold stripZ
    split
    · rename_i h; cases h; simp at this ⊢; omega
    · exact Nat.le_refl _
theorem repeatL_len (n : Nat) : (Lib.repeatL [48] n).length = n := by
  induction n with
  | zero => rfl
  | succ n ih => simp [Lib.repeatL, ih]
theorem numS_len (w : Str) : (numS w).length ≤ w.length + 12 := by
  unfold numS padS
  have := stripZ_len w
  split
  · rw [List.length_append, repeatL_len]; omega
  · omega
theorem ansNumber (w : Str) (hw : w.length < 1000000) : ansF cfg 54 [.str w] [] = some (.str (numS w), []) := by
  refine ans_of_wp fn54 low54 ?_
  simp (config := { maxSteps := 1000000 }) (disch := omega) [-List.map_replicate, -List.map_set, -List.getD_eq_getElem?_getD, -getElem?_pos, -getElem?_neg, om, ir54]
  refine Wp.loopM (fun (a : Nat × Option AV) => w.length - a.1) (fun a => [some (.str w), none, none, some (.int .i64 w.length), some (.int .i64 a.1), none, none, a.2, none, none, none]) (fun _ => [])
    (fun a => a.1 ≤ w.length ∧ w.all digB = (w.drop a.1).all digB) ?_ (0, none) ⟨by simp, by simp⟩ (by simp) rfl
  rintro ⟨i, o⟩ ⟨hi, hd⟩
  simp only at hi hd ⊢
  by_cases h1 : i < w.length
  · have hg := get_str w h1
    have hD := ansDigit (w.getD i 0)
    rw [drop_get w h1, List.all_cons] at hd
    generalize w.getD i 0 = c at *
    cases hv : digB c with
    | true =>
      rw [hv] at hD hd
      rw [Bool.true_and] at hd
      simp (config := { maxSteps := 1000000 }) (disch := omega) [-List.map_replicate, -List.map_set, -List.getD_eq_getElem?_getD, -getElem?_pos, -getElem?_neg, om, h1, hg, hD]
      exact ⟨i + 1, ⟨by omega, hd⟩, by omega, by simp⟩
    | false =>
      rw [hv] at hD hd
      have : numS w = w := by unfold numS; rw [hd]; rfl
      rw [this]
      simp (config := { maxSteps := 1000000 }) (disch := omega) [-List.map_replicate, -List.map_set, -List.getD_eq_getElem?_getD, -getElem?_pos, -getElem?_neg, om, h1, hg, hD]
  · have hz : w.drop i = [] := List.drop_eq_nil_of_le (by omega)
    rw [hz] at hd
    have : numS w = padS (stripZ w) := by unfold numS; rw [hd]; rfl
    rw [this]
    simp (config := { maxSteps := 1000000 }) (disch := omega) [-List.map_replicate, -List.map_set, -List.getD_eq_getElem?_getD, -getElem?_pos, -getElem?_neg, om, h1]
    refine Wp.loopM (fun (u : Str) => u.length) (fun u => [some (.str u), none, none, none, none, none, none, none, none, none, none]) (fun _ => []) (fun u => stripZ w = stripZ u ∧ u.length ≤ w.length) ?_ w ⟨rfl, Nat.le_refl _⟩ (by simp) rfl
    rintro u ⟨hu, hul⟩
    rw [hu]
    by_cases h2 : 1 < u.length
    · have g0 := get_str u (i := 0) (by omega)
      have e0 : (((u.getD 0 0).toNat : Int) == 48) = (u.getD 0 0 == 48) := byte_eq (u.getD 0 0) 48 (by omega)
      cases h3 : (u.getD 0 0 == 48) with
      | true =>
        have hst : stripZ u = stripZ (u.drop 1) := by
          match u, h2, h3 with
          | a :: b :: r, _, h3 =>
            simp at h3
            subst h3
            simp [stripZ]
        rw [h3] at e0
        have ht : List.take u.length u = u := List.take_length
        generalize u.getD 0 0 = c at *
        simp (config := { maxSteps := 1000000 }) (disch := omega) [-List.map_replicate, -List.map_set, -List.getD_eq_getElem?_getD, -getElem?_pos, -getElem?_neg, om, h2, g0, e0, ht]
        rw [hst, List.drop_one]
      | false =>
        have hst : stripZ u = u := by
          match u, h2, h3 with
          | a :: b :: r, _, h3 =>
            unfold stripZ
            split
            · rename_i h; cases h; simp at h3
            · rfl
        rw [h3] at e0
        rw [hst]
        unfold padS
        generalize u.getD 0 0 = c at *
        by_cases h5 : (12 : Int) - u.length < 0
        · have h6 : 12 - u.length = 0 := by omega
          rw [h6]
          simp (config := { maxSteps := 1000000 }) (disch := omega) [-List.map_replicate, -List.map_set, -List.getD_eq_getElem?_getD, -getElem?_pos, -getElem?_neg, om, h2, g0, e0, h5, repeatG, repeatL_len]
        · have h6 : ((12 : Int) - u.length).toNat = 12 - u.length := by omega
          simp (config := { maxSteps := 1000000 }) (disch := omega) [-List.map_replicate, -List.map_set, -List.getD_eq_getElem?_getD, -getElem?_pos, -getElem?_neg, om, h2, g0, e0, h5, repeatG, h6, repeatL_len]
    · have hst : stripZ u = u := by
        match u, h2 with
        | [], _ => simp [stripZ]
        | [c], _ => unfold stripZ; split <;> simp_all
        | a :: b :: r, h => simp at h
      rw [hst]
      unfold padS
      have h5 : ¬ (12 : Int) - u.length < 0 := by omega
      have h6 : ((12 : Int) - u.length).toNat = 12 - u.length := by omega
      simp (config := { maxSteps := 1000000 }) (disch := omega) [-List.map_replicate, -List.map_set, -List.getD_eq_getElem?_getD, -getElem?_pos, -getElem?_neg, om, h2, h5, repeatG, h6, repeatL_len]
def artB (w : Str) : Bool := w == [116, 104, 101] || w == [97] || w == [97, 110]
def dropArt : List Str → List Str
  | a :: b :: r => if artB a = true then b :: r else a :: b :: r
  | l => l
def keyW (s : Str) : List Str := (dropArt (wordsL s)).map numS
def keyS (s : Str) : Str := Lib.join (keyW s) [32]
theorem get_strA (L : List Str) {i : Nat} (h : i < L.length) : (strA L)[i]? = some (.str (L.getD i [])) := by
  simp [strA, List.getElem?_map, List.getD_eq_getElem?_getD, h]
theorem strA_len (L : List Str) : (strA L).length = L.length := by simp [strA]
theorem dropL (L : List Str) {i : Nat} (h : i < L.length) : L.drop i = L.getD i [] :: L.drop (i + 1) := by
  rw [List.drop_eq_getElem_cons h]
  simp [List.getD_eq_getElem?_getD, h]
def idxS (w : Str) : List Str → Nat → Int
  | [], _ => -1
  | x :: r, i => if w == x then (i : Int) else idxS w r (i + 1)
theorem ansIndexS (nl : Option Bool) (L : List Str) (hL : L.length < 1000000) (w : Str) : ansF cfg 103 [.lst nl 1 (strA L), .str w] [] = some (.int .i64 (idxS w L 0), []) := by
  refine ans_of_wp fn103 low103 ?_
  simp (config := { maxSteps := 1000000 }) (disch := omega) [-List.map_replicate, -List.map_set, -List.getD_eq_getElem?_getD, -getElem?_pos, -getElem?_neg, om, ir103, strA_len]
  refine Wp.loopM (fun (i : Nat) => L.length - i) (fun i => [some (.lst nl 1 (strA L)), some (.str w), none, none, some (.int .i64 L.length), some (.int .i64 i), none, none]) (fun _ => []) (fun i => idxS w L 0 = idxS w (L.drop i) i ∧ i ≤ L.length) ?_ 0 ⟨by simp, by omega⟩ (by simp) rfl
  rintro i ⟨hi, hl⟩
  rw [hi]
  by_cases h1 : i < L.length
  · have hg := get_strA L h1
    rw [dropL L h1] at hi ⊢
    simp only [idxS] at hi ⊢
    generalize L.getD i [] = x at *
    cases he : w == x with
    | true => simp (config := { maxSteps := 1000000 }) (disch := omega) [-List.map_replicate, -List.map_set, -List.getD_eq_getElem?_getD, -getElem?_pos, -getElem?_neg, om, h1, hg, he]
    | false =>
      rw [he] at hi
      simp (config := { maxSteps := 1000000 }) (disch := omega) [-List.map_replicate, -List.map_set, -List.getD_eq_getElem?_getD, -getElem?_pos, -getElem?_neg, om, h1, hg, he]
      exact ⟨i + 1, ⟨by simp, by omega⟩, by omega, by simp⟩
  · rw [List.drop_eq_nil_of_le (by omega)]
    simp (config := { maxSteps := 1000000 }) (disch := omega) [-List.map_replicate, -List.map_set, -List.getD_eq_getElem?_getD, -getElem?_pos, -getElem?_neg, om, h1, idxS]
theorem idxS_has (w : Str) : ∀ (L : List Str) (i : Nat), decide (0 ≤ idxS w L i) = L.any (w == ·)
  | [], i => rfl
  | x :: r, i => by
    simp only [idxS, List.any_cons]
    have ih := idxS_has w r (i + 1)
    by_cases he : (w == x) = true
    · simp only [he, if_true, Bool.true_or]; simp
    · rw [Bool.not_eq_true] at he
      simp only [he, Bool.false_or, Bool.false_eq_true, if_false]
      exact ih
theorem ansHasS (nl : Option Bool) (L : List Str) (hL : L.length < 1000000) (w : Str) : ansF cfg 53 [.lst nl 1 (strA L), .str w] [] = some (.bool (L.any (w == ·)), []) := by
  refine ans_of_wp fn53 low53 ?_
  have h1 := ansIndexS nl L hL w
  rw [← idxS_has w L 0]
  by_cases h4 : 0 ≤ idxS w L 0
  · simp (config := { maxSteps := 1000000 }) (disch := omega) [-List.map_replicate, -List.map_set, -List.getD_eq_getElem?_getD, -getElem?_pos, -getElem?_neg, om, ir53, h1, h4]
  · simp (config := { maxSteps := 1000000 }) (disch := omega) [-List.map_replicate, -List.map_set, -List.getD_eq_getElem?_getD, -getElem?_pos, -getElem?_neg, om, ir53, h1, h4]
theorem ansHas (w : Str) : ansF cfg 53 [.lst none 1 [.str [116, 104, 101], .str [97], .str [97, 110]], .str w] [] = some (.bool (artB w), []) := by
  have h := ansHasS none [[116, 104, 101], [97], [97, 110]] (by simp) w
  have e : [[116, 104, 101], [97], [97, 110]].any (w == ·) = artB w := by simp only [List.any_cons, List.any_nil, artB, Bool.or_false, Bool.or_assoc]
  rw [e] at h
  exact h
theorem strA_app (a b : List Str) : strA (a ++ b) = strA a ++ strA b := by simp [strA]
def keyE (pre L : List Str) (i : Nat) : List AV := strA (pre ++ ((L.take i).map numS ++ L.drop i))
theorem keyE_len (pre L : List Str) (i : Nat) : (keyE pre L i).length = pre.length + L.length := by simp [keyE, strA]; omega
theorem keyE_get (pre L : List Str) {i : Nat} (h : i < L.length) : (keyE pre L i)[pre.length + i]? = some (.str (L.getD i [])) := by
  unfold keyE
  rw [get_strA _ (by simp; omega)]
  have hn : ¬ pre.length + i < pre.length := by omega
  simp [List.getD_eq_getElem?_getD, List.getElem?_append, h, hn, Nat.min_eq_left (Nat.le_of_lt h)]
theorem keyE_set (pre L : List Str) {i : Nat} (h : i < L.length) : (keyE pre L i).set (pre.length + i) (.str (numS (L.getD i []))) = keyE pre L (i + 1) := by
  unfold keyE
  have hlen : (strA ((L.take i).map numS)).length = i := by simp [strA]; omega
  have ht : (L.take (i + 1)).map numS = (L.take i).map numS ++ [numS (L.getD i [])] := by
    rw [List.take_add_one, List.getElem?_eq_getElem h, List.map_append]
    simp [List.getD_eq_getElem?_getD, h]
  rw [ht, dropL L h, strA_app, strA_app, strA_app, strA_app, strA_app]
  rw [List.set_append_right _ _ (by rw [strA_len]; omega), strA_len, Nat.add_sub_cancel_left, List.set_append_right _ _ (by omega), hlen, Nat.sub_self]
  simp [strA]
@[simp] theorem lend_osv (bs : List Box) (k n lo hi : Nat) : lend bs (.osv k n lo hi) = match Box.at bs k with | .sl _ sz es => if n = es.length ∧ lo ≤ hi ∧ hi ≤ n then some (.lst .none sz ((es.take hi).drop lo)) else .none | _ => .none := rfl
@[simp] theorem leaves_osv (k n lo hi : Nat) : (AV.osv k n lo hi).leaves = [AV.osv k n lo hi] := rfl
@[simp] theorem isCell_osv (k n lo hi : Nat) : (AV.osv k n lo hi).isCell = true := rfl
@[simp] theorem cells_osv (k n lo hi : Nat) : (AV.osv k n lo hi).cells = [(AV.osv k n lo hi)] := rfl
theorem keyE_end (pre L : List Str) : keyE pre L L.length = strA (pre ++ L.map numS) := by simp [keyE]
theorem nums_tot : ∀ l : List Str, tot (l.map numS) ≤ tot l + 12 * l.length
  | [] => Nat.le_refl _
  | w :: r => by
    have := nums_tot r
    have := numS_len w
    simp [tot] at *
    omega
theorem keyRun (s : Str) (hs : s.length < 900000) : ansF cfg 15 [.str s] [] = some (.str (keyS s), []) := by
  have hc := ansCollect [.var 9 [.str s]] 0 s (by omega) rfl rfl (by simp)
  have ht := words_tot s
  have htl := tot_length (wordsL s)
  have htm : ∀ w ∈ wordsL s, w.length < 1000000 := fun w hw => by have := tot_mem hw; omega
  unfold keyS keyW colE at *
  generalize wordsL s = l at *
  simp only [List.length_singleton, Nat.zero_add, List.singleton_append] at hc
  refine ans_of_wp fn15 low15 ?_
  have fits : ∀ L : List Str, L.length ≤ l.length → tot L ≤ tot l → (L.map numS).length ≤ 140737488355328 ∧ (Lib.join (L.map numS) [32]).length ≤ 140737488355328 := fun L h1 h2 => by
    have := join_tot (L.map numS)
    have := nums_tot L
    rw [List.length_map]
    omega
  by_cases h1 : 1 < l.length
  · obtain ⟨a, b, r, rfl⟩ : ∃ a b r, l = a :: b :: r := by
      match l, h1 with
      | a :: b :: r, _ => exact ⟨a, b, r, rfl⟩
    have hh := ansHas a
    cases ha : artB a with
    | true =>
      have hd : dropArt (a :: b :: r) = b :: r := by simp [dropArt, ha]
      rw [hd]
      rw [ha] at hh
      have hmem : ∀ w, w ∈ b :: r → w ∈ a :: b :: r := fun w h => .tail _ h
      have hE0 : strA (a :: b :: r) = keyE [a] (b :: r) 0 := by simp [keyE]
      obtain ⟨hjn, hjl⟩ := fits (b :: r) (by simp) (by simp [tot])
      have g0 : (keyE [a] (b :: r) 0)[0]? = some (.str a) := by rw [← hE0]; rfl
      have hLe : (a :: b :: r).length = (b :: r).length + 1 := rfl
      rw [hE0, hLe] at hc
      rw [hLe] at h1
      generalize hl : b :: r = L at *
      have hsl := keyE_len [a] L 0
      simp only [List.length_singleton] at hsl
      rw [Nat.add_comm] at hsl
      have hjs : strsOf (List.take (L.length + 1) (keyE [a] L L.length)).tail = some (L.map numS) := by
        rw [← List.drop_one, keyE_end, List.take_of_length_le (by simp [strA]), strA_app]
        exact strsOf_strA _
      have hjp : (List.drop 1 (List.take (L.length + 1) (keyE [a] L L.length))).length = L.length := by
        rw [List.length_drop, List.length_take, keyE_len]; simp; omega
      clear hE0
      simp (config := { maxSteps := 1000000 }) (disch := omega) [-List.map_replicate, -List.map_set, -List.getD_eq_getElem?_getD, -getElem?_pos, -getElem?_neg, om, ir15, ansWords0, hc, h1, hsl, g0, hh]
      refine Wp.loopM (fun (i : Nat) => L.length - i) (fun i => [none, none, some (.osv 2 (L.length + 1) 1 (L.length + 1)), none, none, none, none, none, none, none, none, none, some (.osv 2 (L.length + 1) 1 (L.length + 1)), some (.int .i64 L.length), some (.int .i64 i), none, none, none])
        (fun i => [.var 9 [.str s], .var 57 [.osl 2 (L.length + 1)], .sl ⟨false, some 9⟩ 1 (keyE [a] L i), .sl ⟨false, some 9⟩ 1 [.str [116, 104, 101], .str [97], .str [97, 110]]]) (fun i => i ≤ L.length) ?_ 0 (Nat.zero_le _) (by simp) rfl
      intro i hi
      have hEl := keyE_len [a] L i
      simp only [List.length_nil, List.length_singleton, Nat.zero_add] at hEl
      try rw [Nat.add_comm 1 L.length] at hEl
      by_cases h4 : i < L.length
      · have hg := keyE_get [a] L h4
        have hst := keyE_set [a] L h4
        have hw := ansNumber (L.getD i []) (htm _ (by
          rw [List.getD_eq_getElem?_getD, List.getElem?_eq_getElem h4]
          exact hmem _ (List.getElem_mem h4)))
        simp only [List.length_nil, List.length_singleton, Nat.zero_add] at hg hst
        generalize L.getD i [] = w at *
        generalize hE : keyE [a] L i = E at *
        simp (config := { maxSteps := 1000000 }) (disch := omega) [-List.map_replicate, -List.map_set, -List.getD_eq_getElem?_getD, -getElem?_pos, -getElem?_neg, om, h4, hEl, hg, hw, hst]
        try exact ⟨i + 1, by omega, by omega, by simp, rfl⟩
        try exact ⟨i + 1, by omega, by omega, by simp; omega, rfl⟩
      · obtain rfl : i = L.length := by omega
        simp (config := { maxSteps := 1000000 }) (disch := omega) [-List.map_replicate, -List.map_set, -List.getD_eq_getElem?_getD, -getElem?_pos, -getElem?_neg, om, h4, hEl, joinG, hjs, hjl, hjn, hjp]
    | false =>
      have hd : dropArt (a :: b :: r) = a :: b :: r := by simp [dropArt, ha]
      rw [hd]
      rw [ha] at hh
      have hE0 : strA (a :: b :: r) = keyE [] (a :: b :: r) 0 := by simp [keyE]
      obtain ⟨hjn, hjl⟩ := fits (a :: b :: r) (Nat.le_refl _) (Nat.le_refl _)
      have g0 : (keyE [] (a :: b :: r) 0)[0]? = some (.str a) := by rw [← hE0]; rfl
      rw [hE0] at hc
      generalize hl : a :: b :: r = L at *
      have hsl := keyE_len [] L 0
      simp only [List.length_nil, Nat.zero_add] at hsl
      have hjs : strsOf (keyE [] L L.length) = some (L.map numS) := by rw [keyE_end]; exact strsOf_strA _
      have hjp : True := trivial
      clear hE0
      simp (config := { maxSteps := 1000000 }) (disch := omega) [-List.map_replicate, -List.map_set, -List.getD_eq_getElem?_getD, -getElem?_pos, -getElem?_neg, om, ir15, ansWords0, hc, h1, hsl, g0, hh]
      refine Wp.loopM (fun (i : Nat) => L.length - i) (fun i => [none, none, some (.osl 2 L.length), none, none, none, none, none, none, none, none, none, some (.osl 2 L.length), some (.int .i64 L.length), some (.int .i64 i), none, none, none])
        (fun i => [.var 9 [.str s], .var 57 [.osl 2 L.length], .sl ⟨false, some 9⟩ 1 (keyE [] L i), .sl ⟨false, some 9⟩ 1 [.str [116, 104, 101], .str [97], .str [97, 110]]]) (fun i => i ≤ L.length) ?_ 0 (Nat.zero_le _) (by simp) rfl
      intro i hi
      have hEl := keyE_len [] L i
      simp only [List.length_nil, List.length_singleton, Nat.zero_add] at hEl
      try rw [Nat.add_comm 1 L.length] at hEl
      by_cases h4 : i < L.length
      · have hg := keyE_get [] L h4
        have hst := keyE_set [] L h4
        have hw := ansNumber (L.getD i []) (htm _ (by
          rw [List.getD_eq_getElem?_getD, List.getElem?_eq_getElem h4]
          exact List.getElem_mem h4))
        simp only [List.length_nil, List.length_singleton, Nat.zero_add] at hg hst
        generalize L.getD i [] = w at *
        generalize hE : keyE [] L i = E at *
        simp (config := { maxSteps := 1000000 }) (disch := omega) [-List.map_replicate, -List.map_set, -List.getD_eq_getElem?_getD, -getElem?_pos, -getElem?_neg, om, h4, hEl, hg, hw, hst]
        try exact ⟨i + 1, by omega, by omega, by simp, rfl⟩
        try exact ⟨i + 1, by omega, by omega, by simp; omega, rfl⟩
      · obtain rfl : i = L.length := by omega
        simp (config := { maxSteps := 1000000 }) (disch := omega) [-List.map_replicate, -List.map_set, -List.getD_eq_getElem?_getD, -getElem?_pos, -getElem?_neg, om, h4, hEl, joinG, hjs, hjl, hjn, hjp]
  · have hd : dropArt l = l := by
      match l, h1 with
      | [], _ => rfl
      | [a], _ => rfl
      | a :: b :: r, h => simp at h
    rw [hd]
    obtain ⟨hjn, hjl⟩ := fits l (Nat.le_refl _) (Nat.le_refl _)
    have hE0 : strA l = keyE [] l 0 := by simp [keyE]
    rw [hE0] at hc
    have hsl := keyE_len [] l 0
    simp only [List.length_nil, Nat.zero_add] at hsl
    have hjs : strsOf (keyE [] l l.length) = some (l.map numS) := by rw [keyE_end]; exact strsOf_strA _
    have hjp : True := trivial
    clear hE0
    simp (config := { maxSteps := 1000000 }) (disch := omega) [-List.map_replicate, -List.map_set, -List.getD_eq_getElem?_getD, -getElem?_pos, -getElem?_neg, om, ir15, ansWords0, hc, h1, hsl]
    refine Wp.loopM (fun (i : Nat) => l.length - i) (fun i => [none, none, some (.osl 2 l.length), none, none, none, none, none, none, none, none, none, some (.osl 2 l.length), some (.int .i64 l.length), some (.int .i64 i), none, none, none])
      (fun i => [.var 9 [.str s], .var 57 [.osl 2 l.length], .sl ⟨false, some 9⟩ 1 (keyE [] l i), .dead]) (fun i => i ≤ l.length) ?_ 0 (Nat.zero_le _) (by simp) rfl
    intro i hi
    have hEl := keyE_len [] l i
    simp only [List.length_nil, List.length_singleton, Nat.zero_add] at hEl
    try rw [Nat.add_comm 1 l.length] at hEl
    by_cases h4 : i < l.length
    · have hg := keyE_get [] l h4
      have hst := keyE_set [] l h4
      have hw := ansNumber (l.getD i []) (htm _ (by
        rw [List.getD_eq_getElem?_getD, List.getElem?_eq_getElem h4]
        exact List.getElem_mem h4))
      simp only [List.length_nil, List.length_singleton, Nat.zero_add] at hg hst
      generalize l.getD i [] = w at *
      generalize hE : keyE [] l i = E at *
      simp (config := { maxSteps := 1000000 }) (disch := omega) [-List.map_replicate, -List.map_set, -List.getD_eq_getElem?_getD, -getElem?_pos, -getElem?_neg, om, h4, hEl, hg, hw, hst]
      try exact ⟨i + 1, by omega, by omega, by simp, rfl⟩
      try exact ⟨i + 1, by omega, by omega, by simp; omega, rfl⟩
    · obtain rfl : i = l.length := by omega
      simp (config := { maxSteps := 1000000 }) (disch := omega) [-List.map_replicate, -List.map_set, -List.getD_eq_getElem?_getD, -getElem?_pos, -getElem?_neg, om, h4, hEl, joinG, hjs, hjl, hjn, hjp]
end Go.Proofs.YtlolhkjjbgpfbaaGreatDoor
namespace Go.Proofs.YtlolhkjjbgpfbaaGreatDoor
open Go.Am
set_option maxRecDepth 10000
set_option maxHeartbeats 4000000
theorem ansCompareB (a b : Str) : ansF cfg 58 [.str a, .str b] [] = some (.int .i64 (Lib.compareBytes a b), []) := by
  have h : ansF cfg 107 [.str a, .str b] [] = some (.int .i64 (Lib.compareBytes a b), []) := by
    refine ans_of_wp fn107 low107 ?_
    simp (config := { maxSteps := 1000000 }) (disch := omega) [-List.map_replicate, -List.map_set, -List.getD_eq_getElem?_getD, -getElem?_pos, -getElem?_neg, om, ir107, cmpG]
  refine ans_of_wp fn58 low58 ?_
  simp (config := { maxSteps := 1000000 }) (disch := omega) [-List.map_replicate, -List.map_set, -List.getD_eq_getElem?_getD, -getElem?_pos, -getElem?_neg, om, ir58, h]
def orI (a b : Int) : Int := if a = 0 then b else a
theorem ansOr (nl : Option Bool) (a b : Int) : ansF cfg 57 [.lst nl 1 [.int .i64 a, .int .i64 b]] [] = some (.int .i64 (orI a b), []) := by
  refine ans_of_wp fn57 low57 ?_
  simp (config := { maxSteps := 1000000 }) (disch := omega) [-List.map_replicate, -List.map_set, -List.getD_eq_getElem?_getD, -getElem?_pos, -getElem?_neg, om, ir57]
  refine Wp.loopM (fun (i : Nat) => 2 - i) (fun i => [none, none, some (.int .i64 0), none, some (.lst nl 1 [.int .i64 a, .int .i64 b]), some (.int .i64 2), some (.int .i64 i), none, none]) (fun _ => []) (fun i => i = 0 ∨ (i = 1 ∧ a = 0) ∨ (i = 2 ∧ a = 0 ∧ b = 0)) ?_ 0 (.inl rfl) (by simp) rfl
  unfold orI
  rintro i (rfl | ⟨rfl, rfl⟩ | ⟨rfl, rfl, rfl⟩)
  · by_cases h : a = 0
    · subst h
      simp (config := { maxSteps := 1000000 }) (disch := omega) [-List.map_replicate, -List.map_set, -List.getD_eq_getElem?_getD, -getElem?_pos, -getElem?_neg, om]
    · have h1 : (a != 0) = true := by simpa using h
      simp (config := { maxSteps := 1000000 }) (disch := omega) [-List.map_replicate, -List.map_set, -List.getD_eq_getElem?_getD, -getElem?_pos, -getElem?_neg, om, h, h1]
  · by_cases h : b = 0
    · subst h
      simp (config := { maxSteps := 1000000 }) (disch := omega) [-List.map_replicate, -List.map_set, -List.getD_eq_getElem?_getD, -getElem?_pos, -getElem?_neg, om]
    · have h1 : (b != 0) = true := by simpa using h
      simp (config := { maxSteps := 1000000 }) (disch := omega) [-List.map_replicate, -List.map_set, -List.getD_eq_getElem?_getD, -getElem?_pos, -getElem?_neg, om, h, h1]
  · simp (config := { maxSteps := 1000000 }) (disch := omega) [-List.map_replicate, -List.map_set, -List.getD_eq_getElem?_getD, -getElem?_pos, -getElem?_neg, om]
def cmpS (a b : Str) : Int := orI (Lib.compareBytes (keyS a) (keyS b)) (Lib.compareBytes a b)
theorem ansCompare (a b : Str) (ha : a.length < 900000) (hb : b.length < 900000) : ansF cfg 19 [.str a, .str b] [] = some (.int .i64 (cmpS a b), []) := by
  refine ans_of_wp fn19 low19 ?_
  have h1 := keyRun a ha
  have h2 := keyRun b hb
  have h3 := ansCompareB (keyS a) (keyS b)
  have h4 := ansCompareB a b
  have h5 := ansOr none (Lib.compareBytes (keyS a) (keyS b)) (Lib.compareBytes a b)
  unfold cmpS
  simp (config := { maxSteps := 1000000 }) (disch := omega) [-List.map_replicate, -List.map_set, -List.getD_eq_getElem?_getD, -getElem?_pos, -getElem?_neg, om, ir19, h1, h2, h3, h4, h5]
def lastAt (s : Str) (c : UInt8) : Nat → Int
  | 0 => -1
  | i + 1 => if s.getD i 0 == c then (i : Int) else lastAt s c i
theorem ansLast (s : Str) (hs : s.length < 1000000) : ansF cfg 56 [.str s, .int .u8 32] [] = some (.int .i64 (lastAt s 32 s.length), []) := by
  have h : ansF cfg 106 [.str s, .int .u8 32] [] = some (.int .i64 (lastAt s 32 s.length), []) := by
    refine ans_of_wp fn106 low106 ?_
    simp (config := { maxSteps := 1000000 }) (disch := omega) [-List.map_replicate, -List.map_set, -List.getD_eq_getElem?_getD, -getElem?_pos, -getElem?_neg, om, ir106]
    refine Wp.loopM (fun (i : Nat) => i) (fun i => [some (.str s), some (.int .u8 32), none, some (.int .i64 ((i : Int) - 1)), none, none]) (fun _ => []) (fun i => i ≤ s.length ∧ lastAt s 32 s.length = lastAt s 32 i) ?_ s.length ⟨Nat.le_refl _, rfl⟩ (by simp) rfl
    rintro i ⟨hi, hr⟩
    rw [hr]
    cases i with
    | zero => simp (config := { maxSteps := 1000000 }) (disch := omega) [-List.map_replicate, -List.map_set, -List.getD_eq_getElem?_getD, -getElem?_pos, -getElem?_neg, om, lastAt]
    | succ i =>
      have hg := get_str s (i := i) (by omega)
      have e0 : (((s.getD i 0).toNat : Int) == 32) = (s.getD i 0 == 32) := byte_eq (s.getD i 0) 32 (by omega)
      have e1 : ((i + 1 : Nat) : Int) - 1 = (i : Int) := by omega
      rw [e1]
      simp only [lastAt] at hr ⊢
      generalize s.getD i 0 = c at *
      cases hv : c == 32 with
      | true =>
        rw [hv] at e0
        simp (config := { maxSteps := 1000000 }) (disch := omega) [-List.map_replicate, -List.map_set, -List.getD_eq_getElem?_getD, -getElem?_pos, -getElem?_neg, om, hg, e0]
      | false =>
        rw [hv] at e0 hr
        simp (config := { maxSteps := 1000000 }) (disch := omega) [-List.map_replicate, -List.map_set, -List.getD_eq_getElem?_getD, -getElem?_pos, -getElem?_neg, om, hg, e0]
        exact ⟨i, ⟨by omega, by simpa using hr⟩, by omega, rfl⟩
  refine ans_of_wp fn56 low56 ?_
  simp (config := { maxSteps := 1000000 }) (disch := omega) [-List.map_replicate, -List.map_set, -List.getD_eq_getElem?_getD, -getElem?_pos, -getElem?_neg, om, ir56, h]
def invS (s : Str) : Str :=
  if lastAt s 32 s.length < 0 ∨ Lib.contains s [44] = true then s else s.drop ((lastAt s 32 s.length).toNat + 1) ++ [44, 32] ++ s.take (lastAt s 32 s.length).toNat
theorem lastAt_lt (s : Str) (c : UInt8) : ∀ i, lastAt s c i < i
  | 0 => by simp [lastAt]
  | i + 1 => by
    have := lastAt_lt s c i
    simp only [lastAt]
    split <;> omega
theorem ansInverted (s : Str) (hs : s.length < 900000) : ansF cfg 17 [.str s] [] = some (.str (invS s), []) := by
  refine ans_of_wp fn17 low17 ?_
  have h1 := ansLast s (by omega)
  have h2 := ansContains s [44] (by omega)
  have h3 := lastAt_lt s 32 s.length
  unfold invS
  generalize lastAt s 32 s.length = k at *
  by_cases hk : k < 0
  · simp (config := { maxSteps := 1000000 }) (disch := omega) [-List.map_replicate, -List.map_set, -List.getD_eq_getElem?_getD, -getElem?_pos, -getElem?_neg, om, ir17, h1, hk]
  cases hc : Lib.contains s [44] with
  | true =>
    rw [hc] at h2
    simp (config := { maxSteps := 1000000 }) (disch := omega) [-List.map_replicate, -List.map_set, -List.getD_eq_getElem?_getD, -getElem?_pos, -getElem?_neg, om, ir17, h1, h2, hk]
  | false =>
    rw [hc] at h2
    obtain ⟨n, rfl⟩ := Int.eq_ofNat_of_zero_le (Int.not_lt.1 hk)
    have hn : n < s.length := by omega
    have ht : List.take s.length s = s := List.take_length
    have e1 : ((n : Int) + 1).toNat = n + 1 := by omega
    simp (config := { maxSteps := 1000000 }) (disch := omega) [-List.map_replicate, -List.map_set, -List.getD_eq_getElem?_getD, -getElem?_pos, -getElem?_neg, om, ir17, h1, h2, hk, ht, e1]
end Go.Proofs.YtlolhkjjbgpfbaaGreatDoor
