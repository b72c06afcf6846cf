/-
  Words, Fold, Key and Inverted of the reference. join, number and Inverted of the reference. Fold and Key of the reference; which texts are too long.
-/
import Derived.Test.YtlolhkjjbgpfbaaGreatDoorKeyM
import Derived.Lib.IndexAny
import Derived.Lib.IndexBytes
import Derived.Test.YtlolhkjjbgpfbaaGreatDoorFndM
import Derived.Test.YtlolhkjjbgpfbaaGreatDoorAmFrame
set_option linter.all false
namespace Go.Proofs.YtlolhkjjbgpfbaaGreatDoor
open Go.Am
set_option maxRecDepth 10000
set_option maxHeartbeats 4000000
def letN (c : UInt8) : UInt8 := if partB c = true then lowB c else 0
theorem part_iff (c : UInt8) : partB c = decide ((48 ≤ c.toNat ∧ c.toNat ≤ 57) ∨ (65 ≤ c.toNat ∧ c.toNat ≤ 90) ∨ (97 ≤ c.toNat ∧ c.toNat ≤ 122)) := by
  unfold partB digB
  rw [lowB_nat, Bool.eq_iff_iff]
  simp only [Bool.or_eq_true, decide_eq_true_eq]
  split <;> omega
theorem lowB_ne (c : UInt8) (h : partB c = true) : ((lowB c).toNat : Int) ≠ 0 := by
  rw [part_iff, decide_eq_true_eq] at h
  rw [lowB_nat]
  split <;> omega
theorem ansLetter (c : UInt8) : ansF cfg 102 [.int .u8 (c.toNat : Int)] [] = some (.int .u8 ((letN c).toNat : Int), []) := by
  refine ans_of_wp fn102 low102 ?_
  have hc := c.toNat_lt
  have hp := part_iff c
  have hl := lowB_nat c
  unfold letN
  by_cases h1 : 97 ≤ c.toNat ∧ c.toNat ≤ 122
  · rw [if_pos (by rw [hp, decide_eq_true_eq]; omega), hl, if_neg (by omega)]
    simp (config := { maxSteps := 1000000 }) (disch := omega) [-List.map_replicate, -List.map_set, -List.getD_eq_getElem?_getD, -getElem?_pos, -getElem?_neg, om, ir102, h1]
  by_cases h2 : 48 ≤ c.toNat ∧ c.toNat ≤ 57
  · rw [if_pos (by rw [hp, decide_eq_true_eq]; omega), hl, if_neg (by omega)]
    simp (config := { maxSteps := 1000000 }) (disch := omega) [-List.map_replicate, -List.map_set, -List.getD_eq_getElem?_getD, -getElem?_pos, -getElem?_neg, om, ir102, h1, h2]
  by_cases h3 : 65 ≤ c.toNat ∧ c.toNat ≤ 90
  · rw [if_pos (by rw [hp, decide_eq_true_eq]; omega), hl, if_pos h3]
    have e : (c.toNat : Int) - 65 + 97 = (c.toNat : Int) + 32 := by omega
    simp (config := { maxSteps := 1000000 }) (disch := omega) [-List.map_replicate, -List.map_set, -List.getD_eq_getElem?_getD, -getElem?_pos, -getElem?_neg, om, ir102, h1, h2, h3, wrap_u8, e]
  · rw [if_neg (by rw [hp, decide_eq_true_eq]; omega)]
    by_cases h4 : c.toNat < 48
    · simp (config := { maxSteps := 1000000 }) (disch := omega) [-List.map_replicate, -List.map_set, -List.getD_eq_getElem?_getD, -getElem?_pos, -getElem?_neg, om, ir102, h4]
    by_cases h5 : c.toNat < 65
    · have h6 : 57 < c.toNat := by omega
      simp (config := { maxSteps := 1000000 }) (disch := omega) [-List.map_replicate, -List.map_set, -List.getD_eq_getElem?_getD, -getElem?_pos, -getElem?_neg, om, ir102, h4, h5, h6]
    by_cases h7 : c.toNat < 97
    · have h6 : 90 < c.toNat := by omega
      simp (config := { maxSteps := 1000000 }) (disch := omega) [-List.map_replicate, -List.map_set, -List.getD_eq_getElem?_getD, -getElem?_pos, -getElem?_neg, om, ir102, h4, h5, h6, h7]
    · have h6 : 122 < c.toNat := by omega
      simp (config := { maxSteps := 1000000 }) (disch := omega) [-List.map_replicate, -List.map_set, -List.getD_eq_getElem?_getD, -getElem?_pos, -getElem?_neg, om, ir102, h4, h5, h6, h7]
def WdR (bs : List Box) (w : Str) (vw : AV) : Prop :=
  (∃ j, j < bs.length ∧ j ≠ 1 ∧ vw = .osl j w.length ∧ Box.at bs j = .sl ⟨false, some 5⟩ 1 (w.map ofByte)) ∨ (w = [] ∧ vw = .lst (some true) 0 [])
theorem setFacts {bs : List Box} (hB : Bare bs) {j : Nat} (hj : j < bs.length) (sh : Hd) (sz : Nat) (es : List AV) :
    (∀ l, (bs ++ l).set j (.sl sh sz es) = bs.set j (.sl sh sz es) ++ l) ∧ (bs.set j (.sl sh sz es)).map (forgetBox bs.length) = bs.set j (.sl sh sz es) ∧
      (∀ l, (bs.set j (.sl sh sz es) ++ l).take bs.length = bs.set j (.sl sh sz es)) ∧ (bs.set j (.sl sh sz es)).length = bs.length ∧ Bare (bs.set j (.sl sh sz es)) :=
  ⟨fun l => List.set_append_left _ _ hj, shut_map (Nat.le_refl _) ((hB.set j (fun n => rfl)) _), fun l => List.take_left' (by simp), by simp, hB.set j (fun n => rfl)⟩
theorem ansWordsR (s : Str) (hs : s.length < 1000000) : ansF cfg 52 [.str s] [] = some (.lst none 1 (strA (wordsL s)), []) := by
  refine ans_of_wp fn52 low52 ?_
  simp (config := { maxSteps := 1000000 }) (disch := omega) [-List.map_replicate, -List.map_set, -List.getD_eq_getElem?_getD, -getElem?_pos, -getElem?_neg, om, ir52]
  refine Wp.loopM (fun (a : Nat × Str × AV × List Str × List Box × Option AV) => s.length + 1 - a.1)
    (fun a => [some (.str s), none, some (.osl 1 a.2.2.2.1.length), some (a.2.2.1), some (.int .i64 a.1), none, a.2.2.2.2.2, none, none, none, none, none, none, none]) (fun a => a.2.2.2.2.1)
    (fun a => a.1 ≤ s.length + 1 ∧ a.2.1.length ≤ a.1 ∧ a.2.2.2.1.length ≤ a.1 ∧ Bare a.2.2.2.2.1 ∧ 1 < a.2.2.2.2.1.length ∧ Box.at a.2.2.2.2.1 1 = .sl ⟨false, some 9⟩ 1 (strA a.2.2.2.1) ∧ WdR a.2.2.2.2.1 a.2.1 a.2.2.1 ∧
      wordsL s = a.2.2.2.1 ++ wordsGo (s.drop a.1) a.2.1 ∧ (s.length < a.1 → a.2.1 = []))
    ?_ (0, [], .osl 0 0, [], [.sl ⟨false, some 5⟩ 1 [], .sl ⟨false, some 9⟩ 1 []], none) ?_ (by simp) (by simp)
  case refine_2 => exact ⟨by simp, by simp, by simp, fun n => rfl, by simp, rfl, .inl ⟨0, by simp, by simp, rfl, rfl⟩, by simp [wordsL], by simp⟩
  rintro ⟨i, w, vw, outs, bs, o⟩ ⟨hi, hwl, hol, hB, hbl, ho, hW, hr, hlast⟩
  simp only at hi hwl hol hB hbl ho hW hr hlast ⊢
  have hoA := strA_len outs
  have hu2 : ∀ n, underV [1, 5, 7, 8, 9, 10, 11, 12, 13, 1003, 1002] n 6 (o :: [none, none, none, none, none, none, none]) = true := fun n => by cases o <;> simp [underV]
  rw [hr]
  by_cases hex : s.length < i
  · have hw0 := hlast hex
    subst hw0
    have hd : s.drop i = [] := List.drop_eq_nil_of_le (by omega)
    rw [hd]
    simp (config := { maxSteps := 1000000 }) (disch := omega) [-List.map_replicate, -List.map_set, -List.getD_eq_getElem?_getD, -getElem?_pos, -getElem?_neg, om, wordsGo, ho, hoA]
  have e1 : ∀ l, Box.at (bs ++ l) 1 = .sl ⟨false, some 9⟩ 1 (strA outs) := fun l => by rw [at_app_l _ _ hbl, ho]
  by_cases hpart : i < s.length ∧ partB (s.getD i 0) = true
  · obtain ⟨h1, h2⟩ := hpart
    have hg := get_str s h1
    have hL := ansLetter (s.getD i 0)
    have hdr : wordsGo (s.drop i) w = wordsGo (s.drop (i + 1)) (w ++ [lowB (s.getD i 0)]) := by
      rw [drop_get s h1]
      simp only [wordsGo, h2, if_true]
    have hne := lowB_ne _ h2
    have hle : letN (s.getD i 0) = lowB (s.getD i 0) := if_pos h2
    rw [hle] at hL
    rw [hdr]
    generalize lowB (s.getD i 0) = d at *
    generalize s.getD i 0 = c at *
    have hne2 : ((d.toNat : Int) != 0) = true := by simpa using hne
    rcases hW with ⟨j, hj, hj1, rfl, hw⟩ | ⟨rfl, rfl⟩
    · have e2 : ∀ l, Box.at (bs ++ l) j = .sl ⟨false, some 5⟩ 1 (w.map ofByte) := fun l => by rw [at_app_l _ _ hj, hw]
      obtain ⟨s2, hm, ht, hl2, hB2⟩ := setFacts hB hj ⟨false, some 5⟩ 1 (w.map ofByte ++ [.int .u8 (d.toNat : Int)])
      have hat1 : Box.at (bs.set j (.sl ⟨false, some 5⟩ 1 (w.map ofByte ++ [.int .u8 (d.toNat : Int)]))) 1 = .sl ⟨false, some 9⟩ 1 (strA outs) := by rw [at_set _ _ _ hj, if_neg hj1, ho]
      have hatj : Box.at (bs.set j (.sl ⟨false, some 5⟩ 1 (w.map ofByte ++ [.int .u8 (d.toNat : Int)]))) j = .sl ⟨false, some 5⟩ 1 (w.map ofByte ++ [.int .u8 (d.toNat : Int)]) := by rw [at_set _ _ _ hj, if_pos rfl]
      generalize bs.set j (.sl ⟨false, some 5⟩ 1 (w.map ofByte ++ [.int .u8 (d.toNat : Int)])) = C at *
      simp (config := { maxSteps := 1000000 }) (disch := omega) [-List.map_replicate, -List.map_set, -List.getD_eq_getElem?_getD, -getElem?_pos, -getElem?_neg, om, e1, e2, s2, hg, hL, h1, hne2, hm, ht, hl2, hu2]
      exact ⟨i + 1, w ++ [d], .osl j (w.length + 1), outs, C, ⟨by omega, by simp; omega, by omega, hB2, by omega, hat1, .inl ⟨j, by omega, hj1, by simp, by rw [hatj, List.map_append]; rfl⟩, rfl, fun h => by omega⟩, by omega, ⟨rfl, rfl, by simp⟩, rfl⟩
    · simp (config := { maxSteps := 1000000 }) (disch := omega) [-List.map_replicate, -List.map_set, -List.getD_eq_getElem?_getD, -getElem?_pos, -getElem?_neg, om, e1, hg, hL, h1, hne2, hu2]
      exact ⟨i + 1, [d], _, outs, _, ⟨by omega, by simp, by omega, hB.app (fun n => rfl), by simp, e1 _, .inl ⟨bs.length + 1, by simp, by omega, rfl, by rw [at_app_r]; rfl⟩, rfl, fun h => by omega⟩, by omega, ⟨rfl, rfl, by simp⟩, rfl⟩
  -- no byte of a word
  have hdr : wordsGo (s.drop i) w = if w = [] then wordsGo (s.drop (i + 1)) [] else w :: wordsGo (s.drop (i + 1)) [] := by
    by_cases h1 : i < s.length
    · rw [drop_get s h1]
      have h2 : ¬ partB (s.getD i 0) = true := fun h => hpart ⟨h1, h⟩
      simp only [wordsGo, h2]
      rfl
    · rw [List.drop_eq_nil_of_le (by omega), List.drop_eq_nil_of_le (by omega)]
      simp only [wordsGo]
      rfl
  have hL : i < s.length → ansF cfg 102 [.int .u8 ((s.getD i 0).toNat : Int)] [] = some (.int .u8 0, []) := fun h1 => by
    have h := ansLetter (s.getD i 0)
    rw [show letN (s.getD i 0) = 0 from if_neg (fun h => hpart ⟨h1, h⟩)] at h
    exact h
  have hg := fun h1 : i < s.length => get_str s h1
  rw [hdr]
  generalize s.getD i 0 = c at *
  have hmb : bs.map (forgetBox bs.length) = bs := shut_map (Nat.le_refl _) (hB _)
  have htb : ∀ l, (bs ++ l).take bs.length = bs := fun l => List.take_left' rfl
  by_cases hw0 : w = []
  · subst hw0
    rw [if_pos rfl]
    have fin : ∀ vw' : AV, vw = vw' → ∃ a a_1 a_2 a_3 a_4, (a ≤ s.length + 1 ∧ List.length a_1 ≤ a ∧ a_3.length ≤ a ∧ Bare a_4 ∧ 1 < a_4.length ∧ Box.at a_4 1 = .sl ⟨false, some 9⟩ 1 (strA a_3) ∧ WdR a_4 a_1 a_2 ∧
        outs ++ wordsGo (s.drop (i + 1)) [] = a_3 ++ wordsGo (s.drop a) a_1 ∧ (s.length < a → a_1 = [])) ∧ s.length + 1 - a < s.length + 1 - i ∧ (outs.length = a_3.length ∧ vw' = a_2 ∧ (i : Int) + 1 = (a : Int)) ∧ bs = a_4 := fun vw' hv =>
      ⟨i + 1, [], vw, outs, bs, ⟨by omega, by simp, by omega, hB, hbl, ho, hW, rfl, fun _ => rfl⟩, by omega, ⟨rfl, hv.symm, by simp⟩, rfl⟩
    rcases hW with ⟨j, hj, hj1, rfl, hw⟩ | ⟨_, rfl⟩
    · by_cases h1 : i < s.length
      · have hg := hg h1
        have hL := hL h1
        simp (config := { maxSteps := 1000000 }) (disch := omega) [-List.map_replicate, -List.map_set, -List.getD_eq_getElem?_getD, -getElem?_pos, -getElem?_neg, om, hg, hL, h1, hw, hu2]
        exact fin _ rfl
      · simp (config := { maxSteps := 1000000 }) (disch := omega) [-List.map_replicate, -List.map_set, -List.getD_eq_getElem?_getD, -getElem?_pos, -getElem?_neg, om, h1, hw, hu2]
        exact fin _ rfl
    · by_cases h1 : i < s.length
      · have hg := hg h1
        have hL := hL h1
        simp (config := { maxSteps := 1000000 }) (disch := omega) [-List.map_replicate, -List.map_set, -List.getD_eq_getElem?_getD, -getElem?_pos, -getElem?_neg, om, hg, hL, h1, hu2]
        exact fin _ rfl
      · simp (config := { maxSteps := 1000000 }) (disch := omega) [-List.map_replicate, -List.map_set, -List.getD_eq_getElem?_getD, -getElem?_pos, -getElem?_neg, om, h1, hu2]
        exact fin _ rfl
  · rw [if_neg hw0]
    rcases hW with ⟨j, hj, hj1, rfl, hw⟩ | ⟨h0, _⟩
    case inr => exact absurd h0 hw0
    have hwpos := List.length_pos_iff.2 hw0
    have e2 : ∀ l, Box.at (bs ++ l) j = .sl ⟨false, some 5⟩ 1 (w.map ofByte) := fun l => by rw [at_app_l _ _ hj, hw]
    obtain ⟨s2, hm, ht, hl2, hB2⟩ := setFacts hB hbl ⟨false, some 9⟩ 1 (strA outs ++ [.str w])
    have hat1 : Box.at (bs.set 1 (.sl ⟨false, some 9⟩ 1 (strA outs ++ [.str w]))) 1 = .sl ⟨false, some 9⟩ 1 (strA outs ++ [.str w]) := by rw [at_set _ _ _ hbl, if_pos rfl]
    generalize bs.set 1 (.sl ⟨false, some 9⟩ 1 (strA outs ++ [.str w])) = C at *
    have fin : ∃ a a_1 a_2 a_3 a_4, (a ≤ s.length + 1 ∧ List.length a_1 ≤ a ∧ a_3.length ≤ a ∧ Bare a_4 ∧ 1 < a_4.length ∧ Box.at a_4 1 = .sl ⟨false, some 9⟩ 1 (strA a_3) ∧ WdR a_4 a_1 a_2 ∧
        outs ++ w :: wordsGo (s.drop (i + 1)) [] = a_3 ++ wordsGo (s.drop a) a_1 ∧ (s.length < a → a_1 = [])) ∧ s.length + 1 - a < s.length + 1 - i ∧ (outs.length + 1 = a_3.length ∧ AV.lst (some true) 0 [] = a_2 ∧ (i : Int) + 1 = (a : Int)) ∧ C = a_4 :=
      ⟨i + 1, [], .lst (some true) 0 [], outs ++ [w], C, ⟨by omega, by simp, by simp; omega, hB2, by omega, by rw [hat1, strA_app]; rfl, .inr ⟨rfl, rfl⟩, by simp, fun _ => rfl⟩, by omega, ⟨by simp, rfl, by simp⟩, rfl⟩
    by_cases h1 : i < s.length
    · have hg := hg h1
      have hL := hL h1
      simp (config := { maxSteps := 1000000 }) (disch := omega) [-List.map_replicate, -List.map_set, -List.getD_eq_getElem?_getD, -getElem?_pos, -getElem?_neg, om, e1, e2, s2, hg, hL, h1, hw, hu2, hm, ht, hl2, hoA, hwpos, Cfg.descOf, bytesOf_ofByte]
      exact fin
    · simp (config := { maxSteps := 1000000 }) (disch := omega) [-List.map_replicate, -List.map_set, -List.getD_eq_getElem?_getD, -getElem?_pos, -getElem?_neg, om, e1, e2, s2, h1, hw, hu2, hm, ht, hl2, hoA, hwpos, Cfg.descOf, bytesOf_ofByte]
      exact fin
end Go.Proofs.YtlolhkjjbgpfbaaGreatDoor
namespace Go.Proofs.YtlolhkjjbgpfbaaGreatDoor
open Go.Am
set_option maxRecDepth 10000
set_option maxHeartbeats 4000000
theorem join_succ (L : List Str) {i : Nat} (h : i < L.length) : Lib.join (L.take (i + 1)) [32] = (if i = 0 then [] else Lib.join (L.take i) [32] ++ [32]) ++ L.getD i [] := by
  have hg : L[i]? = some (L.getD i []) := by simp [List.getD_eq_getElem?_getD, h]
  match L, h with
  | x :: r, h =>
    by_cases h0 : i = 0
    · subst h0
      simp [Lib.join, List.intercalate, List.intersperse]
    · obtain ⟨k, rfl⟩ : ∃ k, i = k + 1 := ⟨i - 1, by omega⟩
      rw [if_neg h0, List.take_succ_cons, List.take_succ_cons, Lib.join_cons, Lib.join_cons]
      have hg' : r[k]? = some ((x :: r).getD (k + 1) []) := by simpa using hg
      rw [Lib.joinTail_take_succ [32] r k _ hg']
      simp [List.append_assoc]
theorem tot_take : ∀ (L : List Str) (i : Nat), tot (L.take i) ≤ tot L
  | [], i => by simp [tot]
  | x :: r, 0 => by simp [tot]
  | x :: r, i + 1 => by have := tot_take r i; simp [tot]; omega
theorem ansJoinR (nl : Option Bool) (z : Nat) (L : List Str) (hz : L ≠ [] → z = 1) (hL : tot L < 100000000) : ansF cfg 51 [.lst nl z (strA L)] [] = some (.str (Lib.join L [32]), []) := by
  have hA := strA_len L
  have hLl := tot_length L
  refine ans_of_wp fn51 low51 ?_
  simp (config := { maxSteps := 1000000 }) (disch := omega) [-List.map_replicate, -List.map_set, -List.getD_eq_getElem?_getD, -getElem?_pos, -getElem?_neg, om, ir51]
  refine Wp.loopM (fun (i : Nat) => L.length - i) (fun i => [some (.lst nl z (strA L)), none, some (.osl 0 (Lib.join (L.take i) [32]).length), some (.int .i64 i), none, none, none, none, none]) (fun i => [.sl ⟨false, some 5⟩ 1 ((Lib.join (L.take i) [32]).map ofByte)]) (fun i => i ≤ L.length) ?_ 0 (Nat.zero_le _) (by simp [Lib.join, List.intercalate]) (by simp [Lib.join, List.intercalate])
  intro i hi
  by_cases h1 : i < L.length
  · have hz : z = 1 := hz (by intro h; rw [h] at h1; simp at h1)
    subst hz
    have hg := get_strA L h1
    have hj := join_succ L h1
    have hb1 := join_tot (L.take i)
    have hb2 := tot_take L i
    have hb3 := join_tot (L.take (i + 1))
    have hb4 := tot_take L (i + 1)
    by_cases h0 : i = 0
    · subst h0
      rw [if_pos rfl, List.nil_append] at hj
      have hz0 : Lib.join (L.take 0) [32] = [] := by simp [Lib.join, List.intercalate]
      rw [hz0]
      rw [hj] at hb3
      generalize L.getD 0 [] = w at *
      have hwl : (w.map ofByte).length = w.length := by simp
      simp (config := { maxSteps := 1000000 }) (disch := omega) [-List.map_replicate, -List.map_set, -List.getD_eq_getElem?_getD, -getElem?_pos, -getElem?_neg, om, h1, hg, hA, hwl]
      exact ⟨1, by omega, by omega, by rw [hj]; exact ⟨⟨rfl, rfl⟩, rfl⟩⟩
    · rw [if_neg h0] at hj
      rw [hj] at hb3
      generalize Lib.join (L.take i) [32] = P at *
      generalize L.getD i [] = w at *
      have hwl : (w.map ofByte).length = w.length := by simp
      have hPl : (P.map ofByte).length = P.length := by simp
      simp only [List.length_append, List.length_singleton] at hb3
      simp (config := { maxSteps := 1000000 }) (disch := omega) [-List.map_replicate, -List.map_set, -List.getD_eq_getElem?_getD, -getElem?_pos, -getElem?_neg, om, h1, hg, hA, hwl, hPl, h0]
      exact ⟨i + 1, by omega, by omega, by rw [hj]; exact ⟨⟨by simp; omega, by simp⟩, by simp [ofByte]⟩⟩
  · obtain rfl : i = L.length := by omega
    rw [List.take_length]
    have hPl : ((Lib.join L [32]).map ofByte).length = (Lib.join L [32]).length := by simp
    generalize Lib.join L [32] = P at *
    simp (config := { maxSteps := 1000000 }) (disch := omega) [-List.map_replicate, -List.map_set, -List.getD_eq_getElem?_getD, -getElem?_pos, -getElem?_neg, om, h1, hA, hPl, bytesOf_ofByte, Cfg.descOf]
theorem repeatL_eq (n : Nat) : Lib.repeatL [48] n = List.replicate n 48 := by
  induction n with
  | zero => rfl
  | succ n ih => simp [Lib.repeatL, ih, List.replicate_succ]
theorem padS_step {u : Str} (h : u.length < 12) : padS (48 :: u) = padS u := by
  unfold padS
  rw [repeatL_eq, repeatL_eq]
  obtain ⟨k, hk⟩ : ∃ k, 12 - u.length = k + 1 := ⟨11 - u.length, by omega⟩
  have h2 : 12 - (48 :: u).length = k := by simp; omega
  rw [h2, hk, List.replicate_succ']
  simp
theorem padS_end {u : Str} (h : ¬ u.length < 12) : padS u = u := by
  unfold padS
  rw [show 12 - u.length = 0 by omega]
  rfl
theorem ansNumberR (w : Str) (hw : w.length < 1000000) : ansF cfg 55 [.str w] [] = some (.str (numS w), []) := by
  refine ans_of_wp fn55 low55 ?_
  simp (config := { maxSteps := 1000000 }) (disch := omega) [-List.map_replicate, -List.map_set, -List.getD_eq_getElem?_getD, -getElem?_pos, -getElem?_neg, om, ir55]
  refine Wp.loopM (fun (a : Nat) => w.length - a) (fun a => [some (.str w), none, some (.int .i64 a), none, none, none, none]) (fun _ => [])
    (fun a => a ≤ w.length ∧ w.all digB = (w.drop a).all digB) ?_ 0 ⟨by simp, by simp⟩ (by simp) rfl
  rintro i ⟨hi, hd⟩
  by_cases h1 : i < w.length
  · have hg := get_str w h1
    rw [drop_get w h1, List.all_cons] at hd
    generalize w.getD i 0 = c at *
    cases hv : digB c with
    | true =>
      rw [hv] at hd
      rw [Bool.true_and] at hd
      unfold digB at hv
      rw [decide_eq_true_eq] at hv
      obtain ⟨v1, v2⟩ := hv
      simp (config := { maxSteps := 1000000 }) (disch := omega) [-List.map_replicate, -List.map_set, -List.getD_eq_getElem?_getD, -getElem?_pos, -getElem?_neg, om, h1, hg, v1, v2]
      exact ⟨i + 1, ⟨by omega, hd⟩, by omega, by simp⟩
    | false =>
      rw [hv] at hd
      have : numS w = w := by unfold numS; rw [hd]; rfl
      rw [this]
      unfold digB at hv
      rw [decide_eq_false_iff_not] at hv
      by_cases v1 : c.toNat < 48
      · simp (config := { maxSteps := 1000000 }) (disch := omega) [-List.map_replicate, -List.map_set, -List.getD_eq_getElem?_getD, -getElem?_pos, -getElem?_neg, om, h1, hg, v1]
      · have v2 : 57 < c.toNat := by omega
        simp (config := { maxSteps := 1000000 }) (disch := omega) [-List.map_replicate, -List.map_set, -List.getD_eq_getElem?_getD, -getElem?_pos, -getElem?_neg, om, h1, hg, v1, v2]
  · have hz : w.drop i = [] := List.drop_eq_nil_of_le (by omega)
    rw [hz] at hd
    have : numS w = padS (stripZ w) := by unfold numS; rw [hd]; rfl
    rw [this]
    simp (config := { maxSteps := 1000000 }) (disch := omega) [-List.map_replicate, -List.map_set, -List.getD_eq_getElem?_getD, -getElem?_pos, -getElem?_neg, om, h1]
    refine Wp.loopM (fun (u : Str) => u.length) (fun u => [some (.str u), none, none, none, none, none, none]) (fun _ => []) (fun u => stripZ w = stripZ u ∧ u.length ≤ w.length) ?_ w ⟨rfl, Nat.le_refl _⟩ (by simp) rfl
    rintro u ⟨hu, hul⟩
    rw [hu]
    have pad : stripZ u = u → ∀ (Q : Prop), Q → Q := fun _ _ h => h
    by_cases h2 : 1 < u.length
    · have g0 := get_str u (i := 0) (by omega)
      have e0 : (((u.getD 0 0).toNat : Int) == 48) = (u.getD 0 0 == 48) := byte_eq (u.getD 0 0) 48 (by omega)
      cases h3 : (u.getD 0 0 == 48) with
      | true =>
        have hst : stripZ u = stripZ (u.drop 1) := by
          match u, h2, h3 with
          | a :: b :: r, _, h3 =>
            simp at h3
            subst h3
            simp [stripZ]
        rw [h3] at e0
        have ht : List.take u.length u = u := List.take_length
        generalize u.getD 0 0 = c at *
        simp (config := { maxSteps := 1000000 }) (disch := omega) [-List.map_replicate, -List.map_set, -List.getD_eq_getElem?_getD, -getElem?_pos, -getElem?_neg, om, h2, g0, e0, ht]
        rw [hst, List.drop_one]
      | false =>
        have hst : stripZ u = u := by
          match u, h2, h3 with
          | a :: b :: r, _, h3 =>
            unfold stripZ
            split
            · rename_i h; cases h; simp at h3
            · rfl
        rw [h3] at e0
        rw [hst]
        generalize u.getD 0 0 = c at *
        simp (config := { maxSteps := 1000000 }) (disch := omega) [-List.map_replicate, -List.map_set, -List.getD_eq_getElem?_getD, -getElem?_pos, -getElem?_neg, om, h2, g0, e0]
        refine Wp.loopM (fun (v : Str) => 12 - v.length) (fun v => [some (.str v), none, none, none, none, none, none]) (fun _ => []) (fun v => padS u = padS v ∧ v.length ≤ w.length + 12) ?_ u ⟨rfl, by omega⟩ (by simp) rfl
        rintro v ⟨hp, hvl⟩
        rw [hp]
        by_cases h9 : v.length < 12
        · have hps := padS_step h9
          simp (config := { maxSteps := 1000000 }) (disch := omega) [-List.map_replicate, -List.map_set, -List.getD_eq_getElem?_getD, -getElem?_pos, -getElem?_neg, om, h9]
          exact hps.symm
        · rw [padS_end h9]
          simp (config := { maxSteps := 1000000 }) (disch := omega) [-List.map_replicate, -List.map_set, -List.getD_eq_getElem?_getD, -getElem?_pos, -getElem?_neg, om, h9]
    · have hst : stripZ u = u := by
        match u, h2 with
        | [], _ => simp [stripZ]
        | [c], _ => unfold stripZ; split <;> simp_all
        | a :: b :: r, h => simp at h
      rw [hst]
      simp (config := { maxSteps := 1000000 }) (disch := omega) [-List.map_replicate, -List.map_set, -List.getD_eq_getElem?_getD, -getElem?_pos, -getElem?_neg, om, h2]
      refine Wp.loopM (fun (v : Str) => 12 - v.length) (fun v => [some (.str v), none, none, none, none, none, none]) (fun _ => []) (fun v => padS u = padS v ∧ v.length ≤ w.length + 12) ?_ u ⟨rfl, by omega⟩ (by simp) rfl
      rintro v ⟨hp, hvl⟩
      rw [hp]
      by_cases h9 : v.length < 12
      · have hps := padS_step h9
        simp (config := { maxSteps := 1000000 }) (disch := omega) [-List.map_replicate, -List.map_set, -List.getD_eq_getElem?_getD, -getElem?_pos, -getElem?_neg, om, h9]
        exact hps.symm
      · rw [padS_end h9]
        simp (config := { maxSteps := 1000000 }) (disch := omega) [-List.map_replicate, -List.map_set, -List.getD_eq_getElem?_getD, -getElem?_pos, -getElem?_neg, om, h9]
theorem contains_any (s : Str) : Lib.contains s [44] = s.any (· == 44) := by
  unfold Lib.contains
  rw [Lib.index_one, ← Lib.contains_iff_indexByte]
  induction s with
  | nil => rfl
  | cons c r ih => simp only [List.contains_cons, List.any_cons, ih]; rw [Bool.beq_comm]
theorem ansInvR (s : Str) (hs : s.length < 900000) : ansF cfg 18 [.str s] [] = some (.str (invS s), []) := by
  refine ans_of_wp fn18 low18 ?_
  simp (config := { maxSteps := 1000000 }) (disch := omega) [-List.map_replicate, -List.map_set, -List.getD_eq_getElem?_getD, -getElem?_pos, -getElem?_neg, om, ir18]
  refine Wp.loopM (fun (a : Nat) => s.length - a) (fun a => [some (.str s), none, some (.int .i64 (lastAt s 32 a)), some (.int .i64 a), none, none, none, none]) (fun _ => [])
    (fun a => a ≤ s.length ∧ s.any (· == 44) = (s.drop a).any (· == 44)) ?_ 0 ⟨by omega, by simp⟩ (by simp [lastAt]) rfl
  rintro i ⟨hi, hd⟩
  by_cases h1 : i < s.length
  · have hg := get_str s h1
    rw [drop_get s h1, List.any_cons] at hd
    have hl : lastAt s 32 (i + 1) = if s.getD i 0 == 32 then (i : Int) else lastAt s 32 i := rfl
    have e0 : (((s.getD i 0).toNat : Int) == 44) = (s.getD i 0 == 44) := byte_eq (s.getD i 0) 44 (by omega)
    have e1 : (((s.getD i 0).toNat : Int) == 32) = (s.getD i 0 == 32) := byte_eq (s.getD i 0) 32 (by omega)
    generalize lastAt s 32 i = k at *
    generalize s.getD i 0 = c at *
    cases hv : c == 44 with
    | true =>
      rw [hv] at hd e0
      have : invS s = s := by unfold invS; rw [if_pos (.inr (by rw [contains_any, hd]; rfl))]
      rw [this]
      simp (config := { maxSteps := 1000000 }) (disch := omega) [-List.map_replicate, -List.map_set, -List.getD_eq_getElem?_getD, -getElem?_pos, -getElem?_neg, om, h1, hg, e0]
    | false =>
      rw [hv] at hd e0
      rw [Bool.false_or] at hd
      cases hw : c == 32 with
      | true =>
        rw [hw] at e1 hl
        rw [if_pos rfl] at hl
        simp (config := { maxSteps := 1000000 }) (disch := omega) [-List.map_replicate, -List.map_set, -List.getD_eq_getElem?_getD, -getElem?_pos, -getElem?_neg, om, h1, hg, e0, e1]
        exact ⟨i + 1, ⟨by omega, hd⟩, by omega, hl.symm, by simp⟩
      | false =>
        rw [hw] at e1 hl
        rw [if_neg (by simp)] at hl
        simp (config := { maxSteps := 1000000 }) (disch := omega) [-List.map_replicate, -List.map_set, -List.getD_eq_getElem?_getD, -getElem?_pos, -getElem?_neg, om, h1, hg, e0, e1]
        exact ⟨i + 1, ⟨by omega, hd⟩, by omega, hl.symm, by simp⟩
  · obtain rfl : i = s.length := by omega
    have hz : s.drop s.length = [] := by simp
    rw [hz] at hd
    have hc : Lib.contains s [44] = false := by rw [contains_any, hd]; rfl
    have h3 := lastAt_lt s 32 s.length
    unfold invS
    rw [hc]
    generalize lastAt s 32 s.length = k at *
    by_cases hk : k < 0
    · simp (config := { maxSteps := 1000000 }) (disch := omega) [-List.map_replicate, -List.map_set, -List.getD_eq_getElem?_getD, -getElem?_pos, -getElem?_neg, om, h1, hk]
    · obtain ⟨n, rfl⟩ := Int.eq_ofNat_of_zero_le (Int.not_lt.1 hk)
      have hn : n < s.length := by omega
      have ht : List.take s.length s = s := List.take_length
      have e1 : ((n : Int) + 1).toNat = n + 1 := by omega
      simp (config := { maxSteps := 1000000 }) (disch := omega) [-List.map_replicate, -List.map_set, -List.getD_eq_getElem?_getD, -getElem?_pos, -getElem?_neg, om, h1, hk, ht, e1]
end Go.Proofs.YtlolhkjjbgpfbaaGreatDoor
namespace Go.Proofs.YtlolhkjjbgpfbaaGreatDoor
open Go.Am
set_option maxRecDepth 10000
set_option maxHeartbeats 4000000
theorem ansFoldR (s : Str) (hs : s.length < 900000) : ansF cfg 14 [.str s] [] = some (.str (foldS s), []) := by
  have h1 := ansWordsR s (by omega)
  have ht := words_tot s
  have h2 := ansJoinR none 1 (wordsL s) (fun _ => rfl) (by omega)
  refine ans_of_wp fn14 low14 ?_
  unfold foldS
  generalize Lib.join (wordsL s) [32] = r at *
  generalize strA (wordsL s) = A at *
  simp (config := { maxSteps := 1000000 }) (disch := omega) [-List.map_replicate, -List.map_set, -List.getD_eq_getElem?_getD, -getElem?_pos, -getElem?_neg, om, ir14, h1, h2]
theorem art_iff (a : Str) : (a == [116, 104, 101] || a == [97] || a == [97, 110]) = artB a := rfl
theorem ansKeyR (s : Str) (hs : s.length < 900000) : ansF cfg 16 [.str s] [] = some (.str (keyS s), []) := by
  have hW := ansWordsR s (by omega)
  have ht := words_tot s
  have htl := tot_length (wordsL s)
  have htm : ∀ w ∈ wordsL s, w.length < 1000000 := fun w hw => by have := tot_mem hw; omega
  refine ans_of_wp fn16 low16 ?_
  unfold keyS keyW
  generalize wordsL s = l at *
  have hl0 := strA_len l
  have fits : ∀ L : List Str, L.length ≤ l.length → tot L ≤ tot l → ansF cfg 51 [.lst none 1 (strA (L.map numS))] [] = some (.str (Lib.join (L.map numS) [32]), []) := fun L h1 h2 => by
    have := nums_tot L
    exact ansJoinR none 1 (L.map numS) (fun _ => rfl) (by omega)
  by_cases h1 : 1 < l.length
  · obtain ⟨a, b, r, rfl⟩ : ∃ a b r, l = a :: b :: r := by
      match l, h1 with
      | a :: b :: r, _ => exact ⟨a, b, r, rfl⟩
    have g0 : (strA (a :: b :: r))[0]? = some (.str a) := rfl
    cases ha : artB a with
    | true =>
      have hd : dropArt (a :: b :: r) = b :: r := by simp [dropArt, ha]
      rw [hd]
      rw [← art_iff] at ha
      have hLd : (strA (a :: b :: r)).tail = strA (b :: r) := rfl
      have hTk : List.take (a :: b :: r).length (strA (a :: b :: r)) = strA (a :: b :: r) := by rw [← strA_len, List.take_length]
      have hJ := fits (b :: r) (by simp) (by simp [tot])
      have hLm : ∀ w ∈ b :: r, w.length < 1000000 := fun w h => htm w (.tail _ h)
      have hLb : (b :: r).length < 1000000 := by simp at htl h1 ⊢; omega
      clear fits htm
      generalize a :: b :: r = l at *
      generalize b :: r = L at *
      generalize strA l = Al at *
      simp (config := { maxSteps := 1000000 }) (disch := omega) [-List.map_replicate, -List.map_set, -List.getD_eq_getElem?_getD, -getElem?_pos, -getElem?_neg, om, ir16, hW, h1, hl0, g0, ha, hTk, hLd]
      refine Wp.loopM (fun (i : Nat) => L.length - i) (fun i => [none, none, some (.lst none 1 (strA L)), some (.osl 0 i), some (.int .i64 i), none, none, none, none, none, none, none, none]) (fun i => [.sl ⟨false, some 9⟩ 1 (strA ((L.take i).map numS))]) (fun i => i ≤ L.length) ?_ 0 (Nat.zero_le _) (by simp) (by simp [strA])
      intro i hi
      have hLA := strA_len L
      by_cases h4 : i < L.length
      · have hg := get_strA L h4
        have hN := ansNumberR (L.getD i []) (hLm _ (by
          rw [List.getD_eq_getElem?_getD, List.getElem?_eq_getElem h4]
          exact List.getElem_mem h4))
        have hOl : (strA ((L.take i).map numS)).length = i := by rw [strA_len, List.length_map, List.length_take]; omega
        have hst : strA ((L.take (i + 1)).map numS) = strA ((L.take i).map numS) ++ [.str (numS (L.getD i []))] := by
          rw [List.take_add_one, List.getElem?_eq_getElem h4, List.map_append, strA_app]
          simp [List.getD_eq_getElem?_getD, h4, strA]
        generalize L.getD i [] = w at *
        generalize hOA : strA ((L.take i).map numS) = OA at *
        simp (config := { maxSteps := 1000000 }) (disch := omega) [-List.map_replicate, -List.map_set, -List.getD_eq_getElem?_getD, -getElem?_pos, -getElem?_neg, om, h4, hg, hN, hOl, hLA]
        exact ⟨i + 1, by omega, by omega, ⟨rfl, by simp⟩, by rw [← List.map_take, hst]⟩
      · obtain rfl : i = L.length := by omega
        rw [List.take_length]
        have hOl : (strA (L.map numS)).length = L.length := by rw [strA_len, List.length_map]
        generalize hOA : strA (L.map numS) = OA at *
        simp (config := { maxSteps := 1000000 }) (disch := omega) [-List.map_replicate, -List.map_set, -List.getD_eq_getElem?_getD, -getElem?_pos, -getElem?_neg, om, h4, hLA, hOl, hJ]
    | false =>
      have hd : dropArt (a :: b :: r) = a :: b :: r := by simp [dropArt, ha]
      rw [hd]
      rw [← art_iff] at ha
      have hJ := fits (a :: b :: r) (Nat.le_refl _) (Nat.le_refl _)
      generalize a :: b :: r = L at *
      simp (config := { maxSteps := 1000000 }) (disch := omega) [-List.map_replicate, -List.map_set, -List.getD_eq_getElem?_getD, -getElem?_pos, -getElem?_neg, om, ir16, hW, h1, hl0, g0, ha]
      refine Wp.loopM (fun (i : Nat) => L.length - i) (fun i => [none, none, some (.lst none 1 (strA L)), some (.osl 0 i), some (.int .i64 i), none, none, none, none, none, none, none, none]) (fun i => [.sl ⟨false, some 9⟩ 1 (strA ((L.take i).map numS))]) (fun i => i ≤ L.length) ?_ 0 (Nat.zero_le _) (by simp) (by simp [strA])
      intro i hi
      have hLA := strA_len L
      by_cases h4 : i < L.length
      · have hg := get_strA L h4
        have hN := ansNumberR (L.getD i []) (htm _ (by
          rw [List.getD_eq_getElem?_getD, List.getElem?_eq_getElem h4]
          exact List.getElem_mem h4))
        have hOl : (strA ((L.take i).map numS)).length = i := by rw [strA_len, List.length_map, List.length_take]; omega
        have hst : strA ((L.take (i + 1)).map numS) = strA ((L.take i).map numS) ++ [.str (numS (L.getD i []))] := by
          rw [List.take_add_one, List.getElem?_eq_getElem h4, List.map_append, strA_app]
          simp [List.getD_eq_getElem?_getD, h4, strA]
        generalize L.getD i [] = w at *
        generalize hOA : strA ((L.take i).map numS) = OA at *
        simp (config := { maxSteps := 1000000 }) (disch := omega) [-List.map_replicate, -List.map_set, -List.getD_eq_getElem?_getD, -getElem?_pos, -getElem?_neg, om, h4, hg, hN, hOl, hLA]
        exact ⟨i + 1, by omega, by omega, ⟨rfl, by simp⟩, by rw [← List.map_take, hst]⟩
      · obtain rfl : i = L.length := by omega
        rw [List.take_length]
        have hOl : (strA (L.map numS)).length = L.length := by rw [strA_len, List.length_map]
        generalize hOA : strA (L.map numS) = OA at *
        simp (config := { maxSteps := 1000000 }) (disch := omega) [-List.map_replicate, -List.map_set, -List.getD_eq_getElem?_getD, -getElem?_pos, -getElem?_neg, om, h4, hLA, hOl, hJ]
  · have hd : dropArt l = l := by
      match l, h1 with
      | [], _ => rfl
      | [a], _ => rfl
      | a :: b :: r, h => simp at h
    rw [hd]
    have hJ := fits l (Nat.le_refl _) (Nat.le_refl _)
    simp (config := { maxSteps := 1000000 }) (disch := omega) [-List.map_replicate, -List.map_set, -List.getD_eq_getElem?_getD, -getElem?_pos, -getElem?_neg, om, ir16, hW, h1, hl0]
    refine Wp.loopM (fun (i : Nat) => l.length - i) (fun i => [none, none, some (.lst none 1 (strA l)), some (.osl 0 i), some (.int .i64 i), none, none, none, none, none, none, none, none]) (fun i => [.sl ⟨false, some 9⟩ 1 (strA ((l.take i).map numS))]) (fun i => i ≤ l.length) ?_ 0 (Nat.zero_le _) (by simp) (by simp [strA])
    intro i hi
    have hLA := strA_len l
    by_cases h4 : i < l.length
    · have hg := get_strA l h4
      have hN := ansNumberR (l.getD i []) (htm _ (by
        rw [List.getD_eq_getElem?_getD, List.getElem?_eq_getElem h4]
        exact List.getElem_mem h4))
      have hOl : (strA ((l.take i).map numS)).length = i := by rw [strA_len, List.length_map, List.length_take]; omega
      have hst : strA ((l.take (i + 1)).map numS) = strA ((l.take i).map numS) ++ [.str (numS (l.getD i []))] := by
        rw [List.take_add_one, List.getElem?_eq_getElem h4, List.map_append, strA_app]
        simp [List.getD_eq_getElem?_getD, h4, strA]
      generalize l.getD i [] = w at *
      generalize hOA : strA ((l.take i).map numS) = OA at *
      simp (config := { maxSteps := 1000000 }) (disch := omega) [-List.map_replicate, -List.map_set, -List.getD_eq_getElem?_getD, -getElem?_pos, -getElem?_neg, om, h4, hg, hN, hOl, hLA]
      exact ⟨i + 1, by omega, by omega, ⟨rfl, by simp⟩, by rw [← List.map_take, hst]⟩
    · obtain rfl : i = l.length := by omega
      rw [List.take_length]
      have hOl : (strA (l.map numS)).length = l.length := by rw [strA_len, List.length_map]
      generalize hOA : strA (l.map numS) = OA at *
      simp (config := { maxSteps := 1000000 }) (disch := omega) [-List.map_replicate, -List.map_set, -List.getD_eq_getElem?_getD, -getElem?_pos, -getElem?_neg, om, h4, hLA, hOl, hJ]
def longB (l : List Str) : Bool := l.any fun s => decide (300 < s.length)
theorem ansLong1 (s : Str) : ansF cfg 48 [.str s] [] = some (.bool (decide (300 < s.length)), []) := by
  refine ans_of_wp fn48 low48 ?_
  by_cases h : 300 < s.length
  · simp (config := { maxSteps := 1000000 }) (disch := omega) [-List.map_replicate, -List.map_set, -List.getD_eq_getElem?_getD, -getElem?_pos, -getElem?_neg, om, ir48, h]
  · simp (config := { maxSteps := 1000000 }) (disch := omega) [-List.map_replicate, -List.map_set, -List.getD_eq_getElem?_getD, -getElem?_pos, -getElem?_neg, om, ir48, h]
def idxG : List Str → Nat → Int
  | [], _ => -1
  | w :: r, i => if decide (300 < w.length) = true then (i : Int) else idxG r (i + 1)
theorem idxG_any : ∀ (L : List Str) (i : Nat), decide (0 ≤ idxG L i) = longB L
  | [], i => rfl
  | a :: r, i => by
    have ih := idxG_any r (i + 1)
    unfold longB at ih ⊢
    simp only [List.any_cons]
    unfold idxG
    by_cases he : decide (300 < a.length) = true
    · simp only [he, if_true, Bool.true_or]; simp
    · rw [Bool.not_eq_true] at he
      simp only [he, Bool.false_or, Bool.false_eq_true, if_false]
      exact ih
theorem ansLong (nl : Option Bool) (l : List Str) (hl : l.length < 1000000) : ansF cfg 12 [.lst nl 1 (strA l)] [] = some (.bool (longB l), []) := by
  have hA := strA_len l
  have hpl : plainAll (strA l) = true := by
    clear hl hA
    induction l with
    | nil => rfl
    | cons a r ih => simp [strA, plainAll, AV.plain] at ih ⊢; exact ih
  have h : ansF cfg 97 [.lst nl 1 (strA l), .fn 48 [] []] [] = some (.int .i64 (idxG l 0), []) := by
    refine ans_of_wp fn97 low97 ?_
    simp (config := { maxSteps := 1000000 }) (disch := omega) [-List.map_replicate, -List.map_set, -List.getD_eq_getElem?_getD, -getElem?_pos, -getElem?_neg, om, ir97, hA]
    refine Wp.loopM (fun (i : Nat) => l.length - i) (fun i => [some (.lst nl 1 (strA l)), some (.fn 48 [] []), none, none, some (.int .i64 l.length), some (.int .i64 i), none, none]) (fun _ => []) (fun i => idxG l 0 = idxG (l.drop i) i) ?_ 0 rfl (by simp) rfl
    intro i hr
    rw [hr]
    by_cases h1 : i < l.length
    · have hg := get_strA l h1
      have hs := ansLong1 (l.getD i [])
      rw [dropL l h1] at hr ⊢
      simp only [idxG] at hr ⊢
      generalize l.getD i [] = a at *
      cases h2 : decide (300 < a.length) with
      | true =>
        rw [h2] at hs
        simp (config := { maxSteps := 1000000 }) (disch := omega) [-List.map_replicate, -List.map_set, -List.getD_eq_getElem?_getD, -getElem?_pos, -getElem?_neg, om, h1, hg, hs, hA]
      | false =>
        rw [h2] at hs hr
        simp (config := { maxSteps := 1000000 }) (disch := omega) [-List.map_replicate, -List.map_set, -List.getD_eq_getElem?_getD, -getElem?_pos, -getElem?_neg, om, h1, hg, hs, hA]
        exact ⟨i + 1, by simpa using rfl, by omega, by simp⟩
    · rw [List.drop_eq_nil_of_le (by omega)]
      simp (config := { maxSteps := 1000000 }) (disch := omega) [-List.map_replicate, -List.map_set, -List.getD_eq_getElem?_getD, -getElem?_pos, -getElem?_neg, om, h1, idxG]
  have h2 : ansF cfg 47 [.lst nl 1 (strA l), .fn 48 [] []] [] = some (.bool (longB l), []) := by
    refine ans_of_wp fn47 low47 ?_
    rw [← idxG_any l 0]
    by_cases h4 : 0 ≤ idxG l 0
    · simp (config := { maxSteps := 1000000 }) (disch := omega) [-List.map_replicate, -List.map_set, -List.getD_eq_getElem?_getD, -getElem?_pos, -getElem?_neg, om, ir47, h, h4, hpl]
    · simp (config := { maxSteps := 1000000 }) (disch := omega) [-List.map_replicate, -List.map_set, -List.getD_eq_getElem?_getD, -getElem?_pos, -getElem?_neg, om, ir47, h, h4, hpl]
  refine ans_of_wp fn12 low12 ?_
  simp (config := { maxSteps := 1000000 }) (disch := omega) [-List.map_replicate, -List.map_set, -List.getD_eq_getElem?_getD, -getElem?_pos, -getElem?_neg, om, ir12, h2, hpl]
theorem long_not {l : List Str} (h : longB l = false) : ∀ s ∈ l, s.length ≤ 300 := fun s hs => by
  have := List.any_eq_false.1 h s hs
  simpa using this
end Go.Proofs.YtlolhkjjbgpfbaaGreatDoor
