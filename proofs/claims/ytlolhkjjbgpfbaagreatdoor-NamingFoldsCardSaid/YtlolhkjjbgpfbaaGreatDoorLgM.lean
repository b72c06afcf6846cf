/-
  Texts that are too long for the laws; arguments; words of what is put together (as in NmRef3, NmInv, NmForms). What folding and finding say, in plain words: the words of a text that is put together, of a folded text, of a part of a word; no program.
-/
import Derived.Test.YtlolhkjjbgpfbaaGreatDoorFndM
import Derived.Test.YtlolhkjjbgpfbaaGreatDoorAmFrame
import Derived.Lib.Fields
import Derived.Lib.SlTrimSet
set_option linter.all false
namespace Go.Proofs.YtlolhkjjbgpfbaaGreatDoor
open Go.Am
set_option maxRecDepth 10000
set_option maxHeartbeats 4000000
def longB (l : List Str) : Bool := l.any fun s => decide (300 < s.length)
theorem ansLong1 (s : Str) : ansF cfg 48 [.str s] [] = some (.bool (decide (300 < s.length)), []) := by
  refine ans_of_wp fn48 low48 ?_
  by_cases h : 300 < s.length
  · simp (config := { maxSteps := 1000000 }) (disch := omega) [-List.map_replicate, -List.map_set, -List.getD_eq_getElem?_getD, -getElem?_pos, -getElem?_neg, om, ir48, h]
  · simp (config := { maxSteps := 1000000 }) (disch := omega) [-List.map_replicate, -List.map_set, -List.getD_eq_getElem?_getD, -getElem?_pos, -getElem?_neg, om, ir48, h]
def idxG : List Str → Nat → Int
  | [], _ => -1
  | w :: r, i => if decide (300 < w.length) = true then (i : Int) else idxG r (i + 1)
theorem idxG_any : ∀ (L : List Str) (i : Nat), decide (0 ≤ idxG L i) = longB L
  | [], i => rfl
  | a :: r, i => by
    have ih := idxG_any r (i + 1)
    unfold longB at ih ⊢
    simp only [List.any_cons]
    unfold idxG
    by_cases he : decide (300 < a.length) = true
    · simp only [he, if_true, Bool.true_or]; simp
    · rw [Bool.not_eq_true] at he
      simp only [he, Bool.false_or, Bool.false_eq_true, if_false]
      exact ih
theorem ansLong (nl : Option Bool) (l : List Str) (hl : l.length < 1000000) : ansF cfg 12 [.lst nl 1 (strA l)] [] = some (.bool (longB l), []) := by
  have hA := strA_len l
  have hpl : plainAll (strA l) = true := by
    clear hl hA
    induction l with
    | nil => rfl
    | cons a r ih => simp [strA, plainAll, AV.plain] at ih ⊢; exact ih
  have h : ansF cfg 97 [.lst nl 1 (strA l), .fn 48 [] []] [] = some (.int .i64 (idxG l 0), []) := by
    refine ans_of_wp fn97 low97 ?_
    simp (config := { maxSteps := 1000000 }) (disch := omega) [-List.map_replicate, -List.map_set, -List.getD_eq_getElem?_getD, -getElem?_pos, -getElem?_neg, om, ir97, hA]
    refine Wp.loopM (fun (i : Nat) => l.length - i) (fun i => [some (.lst nl 1 (strA l)), some (.fn 48 [] []), none, none, some (.int .i64 l.length), some (.int .i64 i), none, none]) (fun _ => []) (fun i => idxG l 0 = idxG (l.drop i) i) ?_ 0 rfl (by simp) rfl
    intro i hr
    rw [hr]
    by_cases h1 : i < l.length
    · have hg := get_strA l h1
      have hs := ansLong1 (l.getD i [])
      rw [dropL l h1] at hr ⊢
      simp only [idxG] at hr ⊢
      generalize l.getD i [] = a at *
      cases h2 : decide (300 < a.length) with
      | true =>
        rw [h2] at hs
        simp (config := { maxSteps := 1000000 }) (disch := omega) [-List.map_replicate, -List.map_set, -List.getD_eq_getElem?_getD, -getElem?_pos, -getElem?_neg, om, h1, hg, hs, hA]
      | false =>
        rw [h2] at hs hr
        simp (config := { maxSteps := 1000000 }) (disch := omega) [-List.map_replicate, -List.map_set, -List.getD_eq_getElem?_getD, -getElem?_pos, -getElem?_neg, om, h1, hg, hs, hA]
        exact ⟨i + 1, by simpa using rfl, by omega, by simp⟩
    · rw [List.drop_eq_nil_of_le (by omega)]
      simp (config := { maxSteps := 1000000 }) (disch := omega) [-List.map_replicate, -List.map_set, -List.getD_eq_getElem?_getD, -getElem?_pos, -getElem?_neg, om, h1, idxG]
  have h2 : ansF cfg 47 [.lst nl 1 (strA l), .fn 48 [] []] [] = some (.bool (longB l), []) := by
    refine ans_of_wp fn47 low47 ?_
    rw [← idxG_any l 0]
    by_cases h4 : 0 ≤ idxG l 0
    · simp (config := { maxSteps := 1000000 }) (disch := omega) [-List.map_replicate, -List.map_set, -List.getD_eq_getElem?_getD, -getElem?_pos, -getElem?_neg, om, ir47, h, h4, hpl]
    · simp (config := { maxSteps := 1000000 }) (disch := omega) [-List.map_replicate, -List.map_set, -List.getD_eq_getElem?_getD, -getElem?_pos, -getElem?_neg, om, ir47, h, h4, hpl]
  refine ans_of_wp fn12 low12 ?_
  simp (config := { maxSteps := 1000000 }) (disch := omega) [-List.map_replicate, -List.map_set, -List.getD_eq_getElem?_getD, -getElem?_pos, -getElem?_neg, om, ir12, h2, hpl]
theorem long_not {l : List Str} (h : longB l = false) : ∀ s ∈ l, s.length ≤ 300 := fun s hs => by
  have := List.any_eq_false.1 h s hs
  simpa using this
theorem wordsGo_app : ∀ (a : Str) (c : UInt8) (b w : Str), partB c = false → wordsGo (a ++ c :: b) w = wordsGo a w ++ wordsL b
  | [], c, b, w, hc => by
    simp only [List.nil_append, wordsGo, hc, Bool.false_eq_true, if_false]
    unfold wordsL
    by_cases hw : w = []
    · rw [if_pos hw, if_pos hw]; rfl
    · rw [if_neg hw, if_neg hw]; rfl
  | x :: a, c, b, w, hc => by
    simp only [List.cons_append, wordsGo]
    split
    · exact wordsGo_app a c b _ hc
    · split
      · exact wordsGo_app a c b _ hc
      · rw [wordsGo_app a c b _ hc]; rfl
theorem wordsL_app (a : Str) (c : UInt8) (b : Str) (hc : partB c = false) : wordsL (a ++ c :: b) = wordsL a ++ wordsL b := wordsGo_app a c b [] hc
theorem preB_self (w : Str) : preB w w = true := by simp [preB]
theorem found_of_sub (a b : Str) (h : ∀ w ∈ wordsL b, w ∈ wordsL a) : foundB a b = true := by
  unfold foundB
  rw [List.all_eq_true]
  intro w hw
  unfold hasB
  rw [List.any_eq_true]
  exact ⟨w, h w hw, preB_self w⟩
theorem args_str {xs : List AV} (h : ShpArgs Tryz.prog [9] xs) : ∃ s : Str, xs = [.str s] := by
  obtain ⟨n, cs, r, rfl, h1, rfl⟩ := h
  obtain ⟨s, rfl, _⟩ := h1.str (by kernel_rfl)
  exact ⟨s, rfl⟩
end Go.Proofs.YtlolhkjjbgpfbaaGreatDoor
namespace Go.Proofs.YtlolhkjjbgpfbaaGreatDoor
open Go.Am
set_option maxRecDepth 10000
theorem lowB_low (c : UInt8) : lowB (lowB c) = lowB c := by
  apply UInt8.toNat_inj.1
  rw [lowB_nat (lowB c), lowB_nat c]
  repeat' split
  all_goals omega
theorem partB_low (c : UInt8) : partB (lowB c) = partB c := by
  unfold partB
  rw [lowB_low]
def goodB (c : UInt8) : Bool := partB c && (lowB c == c)
theorem goodB_low {c : UInt8} (h : partB c = true) : goodB (lowB c) = true := by
  unfold goodB
  rw [partB_low, h, lowB_low]
  simp
theorem goodB_part {c : UInt8} (h : goodB c = true) : partB c = true := by
  unfold goodB at h
  rw [Bool.and_eq_true] at h
  exact h.1
theorem goodB_same {c : UInt8} (h : goodB c = true) : lowB c = c := by
  unfold goodB at h
  rw [Bool.and_eq_true] at h
  exact eq_of_beq h.2
theorem byte_all {p : UInt8 → Bool} (h : ((List.range 256).all fun n => p (UInt8.ofNat n)) = true) (c : UInt8) : p c = true := by
  rw [List.all_eq_true] at h
  have := h c.toNat (List.mem_range.2 c.toNat_lt)
  rwa [UInt8.ofNat_toNat] at this
def Word (w : Str) : Prop := w ≠ [] ∧ ∀ c ∈ w, goodB c = true
theorem wordsGo_word : ∀ (s w : Str), (∀ c ∈ w, goodB c = true) → ∀ x ∈ wordsGo s w, Word x
  | [], w, hw, x, hx => by
    unfold wordsGo at hx
    split at hx
    · exact absurd hx (by simp)
    · rename_i h
      obtain rfl := List.mem_singleton.1 hx
      exact ⟨h, hw⟩
  | c :: r, w, hw, x, hx => by
    unfold wordsGo at hx
    split at hx
    · rename_i hc
      refine wordsGo_word r _ (fun d hd => ?_) x hx
      rcases List.mem_append.1 hd with hd | hd
      · exact hw d hd
      · obtain rfl := List.mem_singleton.1 hd
        exact goodB_low hc
    · split at hx
      · exact wordsGo_word r [] (by simp) x hx
      · rename_i h
        rcases List.mem_cons.1 hx with rfl | hx
        · exact ⟨h, hw⟩
        · exact wordsGo_word r [] (by simp) x hx
theorem wordsL_word (s : Str) : ∀ x ∈ wordsL s, Word x := wordsGo_word s [] (by simp)
theorem wordsGo_good : ∀ (w acc : Str), (∀ c ∈ w, goodB c = true) → wordsGo w acc = if acc ++ w = [] then [] else [acc ++ w]
  | [], acc, _ => by simp [wordsGo]
  | c :: r, acc, h => by
    have hc := h c (by simp)
    unfold wordsGo
    rw [if_pos (goodB_part hc), goodB_same hc, wordsGo_good r _ (fun d hd => h d (by simp [hd]))]
    simp
theorem wordsL_one {w : Str} (h : Word w) : wordsL w = [w] := by
  unfold wordsL
  rw [wordsGo_good w [] h.2, List.nil_append, if_neg h.1]
theorem wordsL_skip : ∀ (sep b : Str), (∀ c ∈ sep, partB c = false) → wordsL (sep ++ b) = wordsL b
  | [], b, _ => rfl
  | c :: r, b, h => by
    have := wordsL_app [] c (r ++ b) (h c (by simp))
    rw [List.nil_append] at this
    rw [List.cons_append, this, wordsL_skip r b (fun d hd => h d (by simp [hd]))]
    rfl
theorem wordsL_between (a sep b : Str) (hs : sep ≠ []) (h : ∀ c ∈ sep, partB c = false) : wordsL (a ++ (sep ++ b)) = wordsL a ++ wordsL b := by
  cases sep with
  | nil => exact absurd rfl hs
  | cons c r =>
    rw [List.cons_append, wordsL_app a c _ (h c (by simp)), wordsL_skip r b (fun d hd => h d (by simp [hd]))]
theorem wordsL_join (sep : Str) (hs : sep ≠ []) (h : ∀ c ∈ sep, partB c = false) : ∀ l : List Str, (∀ w ∈ l, Word w) → wordsL (Lib.join l sep) = l
  | [], _ => by simp [Lib.join, List.intercalate]; rfl
  | [x], hl => by rw [join_one]; exact wordsL_one (hl x (by simp))
  | x :: y :: r, hl => by
    rw [join_cons2, List.append_assoc, wordsL_between x sep _ hs h, wordsL_one (hl x (by simp)), wordsL_join sep hs h (y :: r) (fun w hw => hl w (by simp [hw]))]
    rfl
theorem wordsL_fold (s : Str) : wordsL (foldS s) = wordsL s := wordsL_join [32] (by simp) (by decide) _ (wordsL_word s)
theorem foldS_of_words {s t : Str} (h : wordsL s = wordsL t) : foldS s = foldS t := by
  unfold foldS
  rw [h]
theorem foldS_fold (s : Str) : foldS (foldS s) = foldS s := foldS_of_words (wordsL_fold s)
theorem foldS_round (s : Str) : foldS (46 :: (s ++ [32, 45])) = foldS s := by
  apply foldS_of_words
  have h1 := wordsL_app [] 46 (s ++ [32, 45]) (by decide)
  rw [List.nil_append] at h1
  rw [h1, wordsL_app s 32 [45] (by decide)]
  have e1 : wordsL [45] = [] := by decide
  have e2 : wordsL [] = [] := rfl
  rw [e1, e2]
  simp
theorem foldS_cut (s : Str) (i : Nat) (hi : i < s.length) (h : partB (s.getD i 0) = false) : foldS (s.take i ++ 33 :: s.drop i) = foldS s := by
  apply foldS_of_words
  have hd := drop_get s hi
  have h1 : wordsL s = wordsL (s.take i) ++ wordsL (s.drop (i + 1)) := by
    have := wordsL_app (s.take i) _ (s.drop (i + 1)) h
    rw [← hd, List.take_append_drop] at this
    exact this
  have h2 : wordsL (s.drop i) = wordsL (s.drop (i + 1)) := by
    have := wordsL_app [] _ (s.drop (i + 1)) h
    rw [List.nil_append, ← hd] at this
    rw [this]
    rfl
  rw [wordsL_app _ 33 _ (by decide), h1, h2]
theorem join_mem (sep : Str) : ∀ (l : List Str) (c : UInt8), c ∈ Lib.join l sep → (∃ w ∈ l, c ∈ w) ∨ c ∈ sep
  | [], c, h => by simp [Lib.join, List.intercalate] at h
  | [x], c, h => by rw [join_one] at h; exact .inl ⟨x, by simp, h⟩
  | x :: y :: r, c, h => by
    rw [join_cons2, List.append_assoc] at h
    rcases List.mem_append.1 h with h | h
    · exact .inl ⟨x, by simp, h⟩
    · rcases List.mem_append.1 h with h | h
      · exact .inr h
      · rcases join_mem sep (y :: r) c h with ⟨w, h1, h2⟩ | h
        · exact .inl ⟨w, by simp [h1], h2⟩
        · exact .inr h
theorem foldS_byte (s : Str) : ∀ c ∈ foldS s, goodB c = true ∨ c = 32 := fun c h => by
  rcases join_mem [32] _ c h with ⟨w, h1, h2⟩ | h
  · exact .inl ((wordsL_word s w h1).2 c h2)
  · exact .inr (List.mem_singleton.1 h)
def cutS : Str := [97, 98, 99, 100, 101, 102, 103, 104, 105, 106, 107, 108, 109, 110, 111, 112, 113, 114, 115, 116, 117, 118, 119, 120, 121, 122, 48, 49, 50, 51, 52, 53, 54, 55, 56, 57, 32]
theorem dropWhile_all {p : UInt8 → Bool} : ∀ l : Str, (∀ c ∈ l, p c = true) → l.dropWhile p = []
  | [], _ => rfl
  | c :: r, h => by
    rw [List.dropWhile_cons, if_pos (h c (by simp))]
    exact dropWhile_all r fun d hd => h d (by simp [hd])
theorem trim_fold (s : Str) : Lib.trimS (foldS s) cutS = [] := by
  have h : ∀ c ∈ foldS s, cutS.contains c = true := fun c hc => by
    rcases foldS_byte s c hc with h | rfl
    · have := byte_all (p := fun c => !goodB c || cutS.contains c) (by decide +kernel) c
      simp only [h, Bool.not_true, Bool.false_or] at this
      exact this
    · decide
  unfold Lib.trimS Lib.trimRightS Lib.trimLeftS
  rw [dropWhile_all (foldS s).reverse (fun c hc => h c (List.mem_reverse.1 hc))]
  rfl
theorem index_word : ∀ (w t : Str), (∀ c ∈ w, c ≠ 32) → Lib.index t [32, 32] = -1 → Lib.index (w ++ t) [32, 32] = -1
  | [], t, _, h => h
  | c :: r, t, hw, h => by
    have hc : (32 == c) = false := by simpa using fun h => hw c (by simp) h.symm
    rw [List.cons_append, Lib.index, index_word r t (fun d hd => hw d (by simp [hd])) h]
    simp [List.isPrefixOf, hc]
theorem word_no32 {w : Str} (h : Word w) : ∀ c ∈ w, c ≠ 32 := fun c hc h32 => by
  have := h.2 c hc
  rw [h32] at this
  exact absurd this (by decide)
theorem index_join : ∀ l : List Str, (∀ w ∈ l, Word w) → Lib.index (Lib.join l [32]) [32, 32] = -1
  | [], _ => by simp [Lib.join, List.intercalate, Lib.index]
  | [x], hl => by
    rw [join_one]
    have := index_word x [] (word_no32 (hl x (by simp))) (by simp [Lib.index])
    rwa [List.append_nil] at this
  | x :: y :: r, hl => by
    rw [join_cons2, List.append_assoc]
    refine index_word x _ (word_no32 (hl x (by simp))) ?_
    have ih := index_join (y :: r) (fun w hw => hl w (by simp [hw]))
    have hy := hl y (by simp)
    obtain ⟨c, t, ht⟩ : ∃ c t, Lib.join (y :: r) [32] = c :: t ∧ c ≠ 32 := by
      cases y with
      | nil => exact absurd rfl hy.1
      | cons c y =>
        cases r with
        | nil => exact ⟨c, y, by rw [join_one], word_no32 hy c (by simp)⟩
        | cons z r => exact ⟨c, _, by rw [join_cons2, List.cons_append, List.cons_append], word_no32 hy c (by simp)⟩
    rw [ht.1] at ih ⊢
    have hc : (32 == c) = false := by simpa using fun h => ht.2 h.symm
    rw [List.cons_append, List.nil_append, Lib.index, ih]
    simp [List.isPrefixOf, hc]
theorem fold_no2 (s : Str) : Lib.contains (foldS s) [32, 32] = false := by
  unfold Lib.contains
  rw [show Lib.index (foldS s) [32, 32] = -1 from index_join _ (wordsL_word s)]
  decide
theorem good_sp {c : UInt8} (h : goodB c = true) : Lib.isSp c = false := by
  have := byte_all (p := fun c => !goodB c || !Lib.isSp c) (by decide +kernel) c
  simpa [h] using this
theorem fieldsGo_good : ∀ (w acc t : Str), (∀ c ∈ w, goodB c = true) → Lib.fieldsGo acc (w ++ t) = Lib.fieldsGo (acc ++ w) t
  | [], acc, t, _ => by simp
  | c :: r, acc, t, h => by
    rw [List.cons_append, Lib.fieldsGo_more _ _ _ (good_sp (h c (by simp))), fieldsGo_good r _ t (fun d hd => h d (by simp [hd]))]
    simp
theorem fields_join : ∀ l : List Str, (∀ w ∈ l, Word w) → Lib.fieldsGo [] (Lib.join l [32]) = l
  | [], _ => by simp [Lib.join, List.intercalate, Lib.fieldsGo]
  | [x], hl => by
    have hx := hl x (by simp)
    have := fieldsGo_good x [] [] hx.2
    rw [List.append_nil] at this
    rw [join_one, this]
    unfold Lib.fieldsGo
    rw [List.nil_append, if_neg (by simpa using hx.1)]
  | x :: y :: r, hl => by
    have hx := hl x (by simp)
    rw [join_cons2, List.append_assoc, fieldsGo_good x [] _ hx.2, List.cons_append, List.nil_append, List.nil_append, Lib.fieldsGo_end _ _ _ (by decide) hx.1, fields_join (y :: r) (fun w hw => hl w (by simp [hw]))]
theorem fields_fold (s : Str) : Lib.fields (foldS s) = wordsL s := fields_join _ (wordsL_word s)
theorem fold_ascii (s : Str) (j : Nat) (b : UInt8) (h : (foldS s)[j]? = some b) : b.toNat < 128 := by
  rcases foldS_byte s b (List.mem_of_getElem? h) with h | rfl
  · have := byte_all (p := fun c => !goodB c || decide (c.toNat < 128)) (by decide +kernel) b
    simpa [h] using this
  · decide
theorem found_word (s w : Str) (h : w ∈ wordsL s) : foundB s w = true := by
  apply found_of_sub
  rw [wordsL_one (wordsL_word s w h)]
  intro x hx
  obtain rfl := List.mem_singleton.1 hx
  exact h
theorem found_begin (s w : Str) (k : Nat) (h : w ∈ wordsL s) : foundB s (w.take (1 + k)) = true := by
  have hw := wordsL_word s w h
  have hp : Word (w.take (1 + k)) := ⟨fun h0 => by
      have h1 := congrArg List.length h0
      rw [List.length_take, List.length_nil] at h1
      have h2 := List.length_pos_iff.2 hw.1
      omega, fun c hc => hw.2 c (List.mem_of_mem_take hc)⟩
  unfold foundB
  rw [wordsL_one hp]
  simp only [List.all_cons, List.all_nil, Bool.and_true]
  unfold hasB
  rw [List.any_eq_true]
  refine ⟨w, h, ?_⟩
  unfold preB
  rw [Bool.and_eq_true]
  constructor
  · simp [List.length_take]; omega
  · rw [beq_iff_eq, List.length_take, List.take_eq_take_iff]
    omega
theorem found_reverse (s : Str) : foundB s (Lib.join (wordsL s).reverse [59, 32]) = true := by
  apply found_of_sub
  rw [wordsL_join [59, 32] (by simp) (by decide) _ (fun w hw => wordsL_word s w (List.mem_reverse.1 hw))]
  intro w hw
  exact List.mem_reverse.1 hw
theorem found_two (s q p : Str) : foundB s (q ++ 32 :: p) = (foundB s q && foundB s p) := by
  unfold foundB
  rw [wordsL_app q 32 p (by decide), List.all_append]
theorem found_none (s : Str) : foundB s [] = true := rfl
end Go.Proofs.YtlolhkjjbgpfbaaGreatDoor
