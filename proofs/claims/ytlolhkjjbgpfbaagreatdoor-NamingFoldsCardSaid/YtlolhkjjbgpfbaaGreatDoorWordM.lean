/-
  Strings as lists of bytes. Words of a text: bytes, the iterator over them, Collect, Fold of the program. The iterator over the words of a text, for whatever takes them.
-/
import Derived.Test.YtlolhkjjbgpfbaaGreatDoorIrs
set_option linter.all false
namespace Go.Proofs.YtlolhkjjbgpfbaaGreatDoor
abbrev Str := List UInt8
end Go.Proofs.YtlolhkjjbgpfbaaGreatDoor
namespace Go.Proofs.YtlolhkjjbgpfbaaGreatDoor
open Go.Am
set_option maxRecDepth 10000
set_option maxHeartbeats 4000000
def lowB (c : UInt8) : UInt8 := if 65 ≤ c.toNat ∧ c.toNat ≤ 90 then UInt8.ofNat (c.toNat + 32) else c
def digB (c : UInt8) : Bool := decide (48 ≤ c.toNat ∧ c.toNat ≤ 57)
def partB (c : UInt8) : Bool := digB (lowB c) || decide (97 ≤ (lowB c).toNat ∧ (lowB c).toNat ≤ 122)
theorem lowB_nat (c : UInt8) : (lowB c).toNat = if 65 ≤ c.toNat ∧ c.toNat ≤ 90 then c.toNat + 32 else c.toNat := by
  unfold lowB
  split
  · simp only [UInt8.toNat_ofNat']; omega
  · rfl
theorem ansLower (c : UInt8) : ansF cfg 101 [.int .u8 (c.toNat : Int)] [] = some (.int .u8 ((lowB c).toNat : Int), []) := by
  refine ans_of_wp fn101 low101 ?_
  have hc := c.toNat_lt
  rw [lowB_nat]
  by_cases h1 : 65 ≤ c.toNat
  · by_cases h2 : c.toNat ≤ 90
    · simp (config := { maxSteps := 1000000 }) (disch := omega) [-List.map_replicate, -List.map_set, -List.getD_eq_getElem?_getD, -getElem?_pos, -getElem?_neg, om, ir101, h1, h2, wrap_u8]
    · simp (config := { maxSteps := 1000000 }) (disch := omega) [-List.map_replicate, -List.map_set, -List.getD_eq_getElem?_getD, -getElem?_pos, -getElem?_neg, om, ir101, h1, h2, wrap_u8]
  · simp (config := { maxSteps := 1000000 }) (disch := omega) [-List.map_replicate, -List.map_set, -List.getD_eq_getElem?_getD, -getElem?_pos, -getElem?_neg, om, ir101, h1, wrap_u8]
theorem ansDigit (c : UInt8) : ansF cfg 104 [.int .u8 (c.toNat : Int)] [] = some (.bool (digB c), []) := by
  refine ans_of_wp fn104 low104 ?_
  unfold digB
  by_cases h1 : 48 ≤ c.toNat
  · by_cases h2 : c.toNat ≤ 57
    · simp (config := { maxSteps := 1000000 }) (disch := omega) [-List.map_replicate, -List.map_set, -List.getD_eq_getElem?_getD, -getElem?_pos, -getElem?_neg, om, ir104, h1, h2]
    · simp (config := { maxSteps := 1000000 }) (disch := omega) [-List.map_replicate, -List.map_set, -List.getD_eq_getElem?_getD, -getElem?_pos, -getElem?_neg, om, ir104, h1, h2]
  · simp (config := { maxSteps := 1000000 }) (disch := omega) [-List.map_replicate, -List.map_set, -List.getD_eq_getElem?_getD, -getElem?_pos, -getElem?_neg, om, ir104, h1]
theorem ansPart (c : UInt8) : ansF cfg 100 [.int .u8 (c.toNat : Int)] [] = some (.bool (partB c), []) := by
  refine ans_of_wp fn100 low100 ?_
  have hl := ansLower c
  unfold partB
  generalize lowB c = d at *
  have hd := ansDigit d
  by_cases h1 : 97 ≤ d.toNat
  · by_cases h2 : d.toNat ≤ 122
    · simp (config := { maxSteps := 1000000 }) (disch := omega) [-List.map_replicate, -List.map_set, -List.getD_eq_getElem?_getD, -getElem?_pos, -getElem?_neg, om, ir100, hl, hd, h1, h2]
    · simp (config := { maxSteps := 1000000 }) (disch := omega) [-List.map_replicate, -List.map_set, -List.getD_eq_getElem?_getD, -getElem?_pos, -getElem?_neg, om, ir100, hl, hd, h1, h2]
  · simp (config := { maxSteps := 1000000 }) (disch := omega) [-List.map_replicate, -List.map_set, -List.getD_eq_getElem?_getD, -getElem?_pos, -getElem?_neg, om, ir100, hl, hd, h1]
def wordsGo : Str → Str → List Str
  | [], w => if w = [] then [] else [w]
  | c :: r, w => if partB c = true then wordsGo r (w ++ [lowB c]) else if w = [] then wordsGo r [] else w :: wordsGo r []
def wordsL (s : Str) : List Str := wordsGo s []
theorem ansWords (s : Str) (bs : List Box) : ansF cfg 50 [.str s] bs = some (.fn 99 [] [.ptr bs.length 0], bs ++ [.var 9 [.str s]]) := by
  refine ans_of_wp fn50 low50 ?_
  simp (config := { maxSteps := 1000000 }) (disch := omega) [-List.map_replicate, -List.map_set, -List.getD_eq_getElem?_getD, -getElem?_pos, -getElem?_neg, om, ir50]
theorem ansWords0 (s : Str) : ansF cfg 50 [.str s] [] = some (.fn 99 [] [.ptr 0 0], [.var 9 [.str s]]) := ansWords s []
def runW {σ : Type} (ok : σ → Str → Bool) (nx : σ → Str → σ) : List Str → σ → σ
  | [], a => a
  | w :: r, a => if ok a w = true then runW ok nx r (nx a w) else nx a w
theorem get_str (s : Str) {i : Nat} (h : i < s.length) : s[i]? = some (s.getD i 0) := by
  simp [List.getD_eq_getElem?_getD, h]
theorem drop_get (s : Str) {i : Nat} (h : i < s.length) : s.drop i = s.getD i 0 :: s.drop (i + 1) := by
  rw [List.drop_eq_getElem_cons h]
  simp [List.getD_eq_getElem?_getD, h]
end Go.Proofs.YtlolhkjjbgpfbaaGreatDoor
namespace Go.Proofs.YtlolhkjjbgpfbaaGreatDoor
open Go.Am
set_option maxRecDepth 10000
set_option maxHeartbeats 4000000
theorem shut_app (n : Nat) : ∀ (l m : List Box), shut n (l ++ m) = (shut n l && shut n m)
  | [], m => rfl
  | .var ty cs :: l, m => by simp only [List.cons_append, shut, shut_app n l m, Bool.and_assoc]
  | .sl _ _ _ :: l, m => by simp only [List.cons_append, shut, shut_app n l m]
  | .dead :: l, m => by simp only [List.cons_append, shut, shut_app n l m]
  | .loop _ :: l, m => by simp only [List.cons_append, shut, shut_app n l m]
  | .mp _ _ :: l, m => by simp only [List.cons_append, shut, shut_app n l m]
  | .gone :: l, m => by simp only [List.cons_append, shut, shut_app n l m]
  | .iter _ :: l, m => by simp only [List.cons_append, shut, shut_app n l m]
theorem shut_le {m n : Nat} (h : m ≤ n) : ∀ {bs : List Box}, shut m bs = true → shut n bs = true
  | [], _ => rfl
  | .var ty cs :: l, hs => by
    simp only [shut, Bool.and_eq_true] at hs ⊢
    exact ⟨underAll_le h cs hs.1, shut_le h hs.2⟩
  | .sl _ _ _ :: l, hs => by simp only [shut] at hs ⊢; exact shut_le h hs
  | .dead :: l, hs => by simp only [shut] at hs ⊢; exact shut_le h hs
  | .loop _ :: l, hs => by simp only [shut] at hs ⊢; exact shut_le h hs
  | .mp _ _ :: l, hs => by simp only [shut] at hs ⊢; exact shut_le h hs
  | .gone :: l, hs => by simp only [shut] at hs ⊢; exact shut_le h hs
  | .iter _ :: l, hs => by simp only [shut] at hs ⊢; exact shut_le h hs
def Bare (J : List Box) : Prop := ∀ n, shut n J = true
theorem Bare.app {J K : List Box} (h : Bare J) (k : Bare K) : Bare (J ++ K) := fun n => by rw [shut_app, h n, k n]; rfl
theorem shut_set1 {n : Nat} : ∀ {bs : List Box} (k : Nat) {x : Box}, shut n bs = true → shut n [x] = true → shut n (bs.set k x) = true
  | [], _, _, _, _ => rfl
  | b :: r, 0, x, h, hx => by
    cases x <;> cases b <;> simp_all [shut]
  | b :: r, k + 1, x, h, hx => by
    have := fun (h : shut n r = true) => shut_set1 (bs := r) k h hx
    cases b <;> simp_all [shut]
theorem Bare.set {J : List Box} (h : Bare J) (k : Nat) {x : Box} (hx : Bare [x]) : Bare (J.set k x) := fun n => shut_set1 k (h n) (hx n)
def Wd (N : Nat) (J : List Box) (w : Str) (vw : AV) : Prop :=
  (∃ j, j < J.length ∧ vw = .osl (N + j) w.length ∧ Box.at J j = .sl ⟨false, some 5⟩ 1 (w.map ofByte)) ∨
  (w = [] ∧ ∃ j es, j < J.length ∧ vw = .osv (N + j) es.length 0 0 ∧ Box.at J j = .sl ⟨false, some 5⟩ 1 es)
theorem wordsRun {σ : Type} (s : Str) (hs : s.length < 1000000) (N ks kk : Nat) (st : Site) (env : List AV) (B : σ → List Box) (ok : σ → Str → Bool) (nx : σ → Str → σ) (cnt : σ → Nat) (hcn : ∀ a w, cnt (nx a w) ≤ cnt a + 1) (live : σ → Prop) (hlv : ∀ a w, live a → ok a w = true → live (nx a w))
    (hN : ∀ a, (B a).length = N) (hks : ∀ a, Box.at (B a) ks = .var 9 [.str s]) (hsl : ks < N) (hkk : kk < N) (hsh : ∀ a, shut N (B a) = true) (henv : underAll N env = true)
    (hy : ∀ a w J, w.length < 1000000 → cnt a < 1000000 → live a → Bare J → ansT cfg (.yld kk st env) [.str w] (B a ++ J) = some (.bool (ok a w), B (nx a w) ++ J)) (a0 : σ) (hc0 : cnt a0 = 0) (hl0 : live a0) :
    ansF cfg 99 [.yld kk st env, .ptr ks 0] (B a0) = some (.tup [], B (runW ok nx (wordsL s) a0)) := by
  refine ans_of_wp fn99 low99 ?_
  simp (config := { maxSteps := 1000000 }) (disch := omega) [-List.map_replicate, -List.map_set, -List.getD_eq_getElem?_getD, -getElem?_pos, -getElem?_neg, om, ir99, hN]
  refine Wp.loopM (fun (a : Nat × Str × AV × σ × List Box × Option AV × Option AV) => s.length + 1 - a.1)
    (fun a => [some (.yld kk st env), some (.ptr ks 0), some (a.2.2.1), some (.int .i64 a.1), none, none, a.2.2.2.2.2.1, none, none, none, none, none, a.2.2.2.2.2.2, none, none]) (fun a => B a.2.2.2.1 ++ a.2.2.2.2.1)
    (fun a => a.1 ≤ s.length + 1 ∧ a.2.1.length ≤ a.1 ∧ Bare a.2.2.2.2.1 ∧ Wd N a.2.2.2.2.1 a.2.1 a.2.2.1 ∧ runW ok nx (wordsL s) a0 = runW ok nx (wordsGo (s.drop a.1) a.2.1) a.2.2.2.1 ∧ (s.length < a.1 → a.2.1 = []) ∧ cnt a.2.2.2.1 ≤ a.1 ∧ live a.2.2.2.1)
    ?_ (0, [], .osl N 0, a0, [.sl ⟨false, some 5⟩ 1 []], none, none) ?_ (by simp (config := { maxSteps := 1000000 }) (disch := omega) [-List.map_replicate, -List.map_set, -List.getD_eq_getElem?_getD, -getElem?_pos, -getElem?_neg, om, hN]) (by simp (config := { maxSteps := 1000000 }) (disch := omega) [-List.map_replicate, -List.map_set, -List.getD_eq_getElem?_getD, -getElem?_pos, -getElem?_neg, om, hN])
  case refine_2 => exact ⟨by simp, by simp, fun n => rfl, .inl ⟨0, by simp, by simp, rfl⟩, by simp [wordsL], by simp, by simp only; omega, hl0⟩
  rintro ⟨i, w, vw, a, J, o1, o2⟩ ⟨hi, hwl, hB, hW, hr, hlast, hct, hlive⟩
  simp only at hi hwl hB hW hr hlast hct hlive ⊢
  have hbl : (B a ++ J).length = N + J.length := by simp [hN]
  have hJ : 0 < J.length := by rcases hW with ⟨j, hj, _⟩ | ⟨_, j, es, hj, _⟩ <;> omega
  have e1 : ∀ l, Box.at (B a ++ J ++ l) ks = .var 9 [.str s] := fun l => by
    rw [List.append_assoc, at_app_l _ _ (by rw [hN]; exact hsl), hks]
  have e0 : Box.at (B a ++ J) ks = .var 9 [.str s] := by have := e1 []; simpa using this
  rw [hr]
  by_cases hex : s.length < i
  · have hw0 := hlast hex
    subst hw0
    have hd : s.drop i = [] := List.drop_eq_nil_of_le (by omega)
    rw [hd]
    have htk : (B a ++ J).take N = B a := List.take_left' (hN a)
    have hmp := shut_map (Nat.le_refl N) (hsh a)
    simp (config := { maxSteps := 1000000 }) (disch := omega) [-List.map_replicate, -List.map_set, -List.getD_eq_getElem?_getD, -getElem?_pos, -getElem?_neg, om, e0, hbl, wordsGo, runW, htk, hmp]
  have hbs : shut (B a ++ J).length (B a ++ J) = true := by rw [hbl, shut_app, shut_le (Nat.le_add_right _ _) (hsh a), hB]; rfl
  have under : underAll (B a ++ J).length env = true := underAll_le (by omega) env henv
  have hu2 : ∀ n, underV [4, 5, 7, 8, 9, 10, 11, 13, 14, 1002] n 12 [o2, none, none] = true := fun n => by cases o2 <;> simp [underV]
  have hkl : kk < (B a ++ J).length := by omega
  have hksl : ks < (B a ++ J).length := by omega
  -- the word's box written anew
  have wset : ∀ j (es : List AV), j < J.length → (∀ l, (B a ++ J ++ l).set (N + j) (.sl ⟨false, some 5⟩ 1 es) = B a ++ J.set j (.sl ⟨false, some 5⟩ 1 es) ++ l) ∧
      (B a ++ J.set j (.sl ⟨false, some 5⟩ 1 es)).map (forgetBox (B a ++ J).length) = B a ++ J.set j (.sl ⟨false, some 5⟩ 1 es) ∧
      (∀ l, (B a ++ J.set j (.sl ⟨false, some 5⟩ 1 es) ++ l).take (B a ++ J).length = B a ++ J.set j (.sl ⟨false, some 5⟩ 1 es)) ∧ (B a ++ J.set j (.sl ⟨false, some 5⟩ 1 es)).length = (B a ++ J).length := fun j es hj => by
    refine ⟨fun l => ?_, ?_, fun l => List.take_left' (by simp), by simp⟩
    · rw [List.set_append_left _ _ (by omega), List.set_append_right _ _ (by rw [hN]; omega), hN]
      simp
    · exact shut_map (Nat.le_refl _) (by rw [hbl, shut_app, shut_le (Nat.le_add_right _ _) (hsh a), hB.set j (fun n => rfl)]; rfl)
  by_cases hpart : i < s.length ∧ partB (s.getD i 0) = true
  · obtain ⟨h1, h2⟩ := hpart
    have hg := get_str s h1
    have hP := ansPart (s.getD i 0)
    have hL := ansLower (s.getD i 0)
    have hdr : wordsGo (s.drop i) w = wordsGo (s.drop (i + 1)) (w ++ [lowB (s.getD i 0)]) := by
      rw [drop_get s h1]
      simp only [wordsGo, h2, if_true]
    rw [h2] at hP
    rw [hdr]
    generalize s.getD i 0 = c at *
    rcases hW with ⟨j, hj, rfl, hw⟩ | ⟨rfl, j, es, hj, rfl, hw⟩
    · have hjb : Box.at (B a ++ J) (N + j) = .sl ⟨false, some 5⟩ 1 (w.map ofByte) := by rw [← hN a, at_app_r]; exact hw
      have hjl : N + j < (B a ++ J).length := by omega
      have e2 : ∀ l, Box.at (B a ++ J ++ l) (N + j) = .sl ⟨false, some 5⟩ 1 (w.map ofByte) := fun l => by rw [at_app_l _ _ hjl, hjb]
      obtain ⟨s2, hm, ht, hl2⟩ := wset j (w.map ofByte ++ [ofByte (lowB c)]) hj
      have fin : ∃ C, C = B a ++ J.set j (.sl ⟨false, some 5⟩ 1 (w.map ofByte ++ [ofByte (lowB c)])) := ⟨_, rfl⟩
      obtain ⟨C, hC⟩ := fin
      rw [← hC] at s2 hm ht hl2
      generalize hbse : B a ++ J = bs at *
      have of1 : AV.int .u8 ((lowB c).toNat : Int) = ofByte (lowB c) := rfl
      simp (config := { maxSteps := 1000000 }) (disch := omega) [-List.map_replicate, -List.map_set, -List.getD_eq_getElem?_getD, -getElem?_pos, -getElem?_neg, om, e0, e1, e2, s2, hg, hP, hL, h1, under, of1, hm, ht, hl2, hu2]
      refine ⟨i + 1, w ++ [lowB c], .osl (N + j) (w.length + 1), a, J.set j (.sl ⟨false, some 5⟩ 1 (w.map ofByte ++ [ofByte (lowB c)])), ⟨by omega, by simp; omega, hB.set j (fun n => rfl), .inl ⟨j, by simpa using hj, by simp, ?_⟩, rfl, fun h => by omega, by omega, hlive⟩, by omega, ⟨rfl, by simp⟩, hC⟩
      rw [at_set _ _ _ hj, if_pos rfl]
      simp
    · have hjb : Box.at (B a ++ J) (N + j) = .sl ⟨false, some 5⟩ 1 es := by rw [← hN a, at_app_r]; exact hw
      have hjl : N + j < (B a ++ J).length := by omega
      have e2 : ∀ l, Box.at (B a ++ J ++ l) (N + j) = .sl ⟨false, some 5⟩ 1 es := fun l => by rw [at_app_l _ _ hjl, hjb]
      have s2 : ∀ l, (B a ++ J ++ l).set (N + j) .gone = B a ++ J.set j .gone ++ l := fun l => by
        rw [List.set_append_left _ _ (by omega), List.set_append_right _ _ (by rw [hN]; omega), hN]
        simp
      have hl2 : (B a ++ J.set j .gone).length = (B a ++ J).length := by simp
      have hl3 : (B a ++ J).length = N + J.length := hbl
      obtain ⟨C, hC⟩ : ∃ C, C = B a ++ J.set j .gone := ⟨_, rfl⟩
      rw [← hC] at s2 hl2
      have hg2 : ∀ l m, (C ++ l)[(B a ++ J).length + m]? = l[m]? := fun l m => by rw [← hl2]; exact get_app_r _ _ _
      have hs2 : ∀ l m x, (C ++ l).set ((B a ++ J).length + m) x = C ++ l.set m x := fun l m x => by rw [← hl2]; exact set_app_r _ _ _ _
      generalize hbse : B a ++ J = bs at *
      have of1 : AV.int .u8 ((lowB c).toNat : Int) = ofByte (lowB c) := rfl
      simp (config := { maxSteps := 1000000 }) (disch := omega) [-List.map_replicate, -List.map_set, -List.getD_eq_getElem?_getD, -getElem?_pos, -getElem?_neg, om, e0, e1, e2, s2, hg, hP, hL, h1, under, of1, hl2, hu2, hg2, hs2]
      refine ⟨i + 1, [lowB c], .osl (bs.length + 1) 1, a, J.set j .gone ++ [.sl ⟨false, some 5⟩ 1 [ofByte (lowB c)], .sl ⟨false, some 5⟩ 1 [ofByte (lowB c)]], ⟨by omega, by simp, (hB.set j (fun n => rfl)).app (fun n => rfl), .inl ⟨J.length + 1, by simp, by rw [hl3]; simp; omega, ?_⟩, rfl, fun h => by omega, by omega, hlive⟩, by omega, ⟨rfl, by simp⟩, by rw [hC, List.append_assoc]⟩
      have e9 : J.length = (J.set j Box.gone).length := by simp
      rw [e9, at_app_r]
      rfl
  -- no byte of a word
  have hP : (decide (i < s.length) = true → ansF cfg 100 [.int .u8 ((s.getD i 0).toNat : Int)] [] = some (.bool false, [])) := fun h1 => by
    have := ansPart (s.getD i 0)
    rw [show partB (s.getD i 0) = false by
      cases hp : partB (s.getD i 0) with
      | false => rfl
      | true => exact absurd ⟨by simpa using h1, hp⟩ hpart] at this
    exact this
  have hdr : wordsGo (s.drop i) w = if w = [] then wordsGo (s.drop (i + 1)) [] else w :: wordsGo (s.drop (i + 1)) [] := by
    by_cases h1 : i < s.length
    · rw [drop_get s h1]
      have h2 : ¬ partB (s.getD i 0) = true := fun h => hpart ⟨h1, h⟩
      simp only [wordsGo, h2]
      rfl
    · rw [List.drop_eq_nil_of_le (by omega), List.drop_eq_nil_of_le (by omega)]
      simp only [wordsGo]
      rfl
  rw [hdr]
  have hg := fun h1 : i < s.length => get_str s h1
  generalize s.getD i 0 = c at *
  have hmb : (B a ++ J).map (forgetBox (B a ++ J).length) = B a ++ J := shut_map (Nat.le_refl _) hbs
  have htb : ∀ l, (B a ++ J ++ l).take (B a ++ J).length = B a ++ J := fun l => List.take_left' rfl
  by_cases hw0 : w = []
  · subst hw0
    rw [if_pos rfl]
    have fin : ∀ o1 o2 : Option AV, ∃ a_1 a_2 a_3 a_4 a_5, (a_1 ≤ s.length + 1 ∧ List.length a_2 ≤ a_1 ∧ Bare a_5 ∧ Wd N a_5 a_2 a_3 ∧ runW ok nx (wordsGo (s.drop (i + 1)) []) a = runW ok nx (wordsGo (s.drop a_1) a_2) a_4 ∧ (s.length < a_1 → a_2 = []) ∧ cnt a_4 ≤ a_1 ∧ live a_4) ∧
        s.length + 1 - a_1 < s.length + 1 - i ∧ (vw = a_3 ∧ (i : Int) + 1 = (a_1 : Int)) ∧ B a ++ J = B a_4 ++ a_5 := fun o1 o2 =>
      ⟨i + 1, [], vw, a, J, ⟨by omega, by simp, hB, hW, rfl, fun _ => rfl, by omega, hlive⟩, by omega, ⟨rfl, by simp⟩, rfl⟩
    rcases hW with ⟨j, hj, rfl, hw⟩ | ⟨_, j, es, hj, rfl, hw⟩
    · have hjb : Box.at (B a ++ J) (N + j) = .sl ⟨false, some 5⟩ 1 [] := by rw [← hN a, at_app_r]; exact hw
      have hjl : N + j < (B a ++ J).length := by omega
      have e2 : ∀ l, Box.at (B a ++ J ++ l) (N + j) = .sl ⟨false, some 5⟩ 1 [] := fun l => by rw [at_app_l _ _ hjl, hjb]
      generalize hbse : B a ++ J = bs at *
      by_cases h1 : i < s.length
      · have hg := hg h1
        have hP := hP (by simpa using h1)
        simp (config := { maxSteps := 1000000 }) (disch := omega) [-List.map_replicate, -List.map_set, -List.getD_eq_getElem?_getD, -getElem?_pos, -getElem?_neg, om, e0, e1, e2, hg, hP, h1, hjb, under, hu2, hmb, htb, Cfg.descOf, bytesOf]
        exact fin none none
      · simp (config := { maxSteps := 1000000 }) (disch := omega) [-List.map_replicate, -List.map_set, -List.getD_eq_getElem?_getD, -getElem?_pos, -getElem?_neg, om, e0, e1, e2, h1, hjb, under, hu2, hmb, htb, Cfg.descOf, bytesOf]
        exact fin none none
    · have hjb : Box.at (B a ++ J) (N + j) = .sl ⟨false, some 5⟩ 1 es := by rw [← hN a, at_app_r]; exact hw
      have hjl : N + j < (B a ++ J).length := by omega
      have e2 : ∀ l, Box.at (B a ++ J ++ l) (N + j) = .sl ⟨false, some 5⟩ 1 es := fun l => by rw [at_app_l _ _ hjl, hjb]
      generalize hbse : B a ++ J = bs at *
      by_cases h1 : i < s.length
      · have hg := hg h1
        have hP := hP (by simpa using h1)
        simp (config := { maxSteps := 1000000 }) (disch := omega) [-List.map_replicate, -List.map_set, -List.getD_eq_getElem?_getD, -getElem?_pos, -getElem?_neg, om, e0, e1, e2, hg, hP, h1, hjb, under, hu2, hmb, htb, Cfg.descOf, bytesOf]
        exact fin none none
      · simp (config := { maxSteps := 1000000 }) (disch := omega) [-List.map_replicate, -List.map_set, -List.getD_eq_getElem?_getD, -getElem?_pos, -getElem?_neg, om, e0, e1, e2, h1, hjb, under, hu2, hmb, htb, Cfg.descOf, bytesOf]
        exact fin none none
  · rw [if_neg hw0]
    rcases hW with ⟨j, hj, rfl, hw⟩ | ⟨h0, _⟩
    case inr => exact absurd h0 hw0
    have hwpos := List.length_pos_iff.2 hw0
    have hwl2 : w.length < 1000000 := by omega
    have hyy := hy a w (J ++ [.dead]) hwl2 (by omega) hlive (hB.app (fun n => rfl))
    rw [← List.append_assoc, ← List.append_assoc] at hyy
    have hjb : Box.at (B a ++ J) (N + j) = .sl ⟨false, some 5⟩ 1 (w.map ofByte) := by rw [← hN a, at_app_r]; exact hw
    have hjl : N + j < (B a ++ J).length := by omega
    have e2 : ∀ l, Box.at (B a ++ J ++ l) (N + j) = .sl ⟨false, some 5⟩ 1 (w.map ofByte) := fun l => by rw [at_app_l _ _ hjl, hjb]
    have hjb2 : Box.at (B (nx a w) ++ J) (N + j) = .sl ⟨false, some 5⟩ 1 (w.map ofByte) := by rw [← hN (nx a w), at_app_r]; exact hw
    have hl2 : (B (nx a w) ++ J).length = (B a ++ J).length := by simp [hN]
    have e3 : ∀ l, Box.at (B (nx a w) ++ J ++ l) (N + j) = .sl ⟨false, some 5⟩ 1 (w.map ofByte) := fun l => by rw [at_app_l _ _ (by omega), hjb2]
    have hbs2 : shut (B a ++ J).length (B (nx a w) ++ J) = true := by rw [hbl, shut_app, shut_le (Nat.le_add_right _ _) (hsh _), hB]; rfl
    have hmb2 : (B (nx a w) ++ J).map (forgetBox (B a ++ J).length) = B (nx a w) ++ J := shut_map (Nat.le_refl _) hbs2
    have htb2 : ∀ l, (B (nx a w) ++ J ++ l).take (B a ++ J).length = B (nx a w) ++ J := fun l => List.take_left' hl2
    have hmN : (B (nx a w)).map (forgetBox N) = B (nx a w) := shut_map (Nat.le_refl N) (hsh _)
    have htN : ∀ l, ((B (nx a w) ++ J ++ l).map (forgetBox N)).take N = B (nx a w) := fun l => by
      rw [List.append_assoc, List.map_append, List.take_left' (by rw [List.length_map, hN]), hmN]
    have hNl : N ≤ (B a ++ J).length := by omega
    have hNl2 : N < (B a ++ J).length := by omega
    have hrun : runW ok nx (w :: wordsGo (s.drop (i + 1)) []) a = if ok a w = true then runW ok nx (wordsGo (s.drop (i + 1)) []) (nx a w) else nx a w := rfl
    rw [hrun]
    have fin : live (nx a w) → ∀ o1 o2 : Option AV, ∃ a_1 a_2 a_3 a_4 a_5, (a_1 ≤ s.length + 1 ∧ List.length a_2 ≤ a_1 ∧ Bare a_5 ∧ Wd N a_5 a_2 a_3 ∧ runW ok nx (wordsGo (s.drop (i + 1)) []) (nx a w) = runW ok nx (wordsGo (s.drop a_1) a_2) a_4 ∧ (s.length < a_1 → a_2 = []) ∧ cnt a_4 ≤ a_1 ∧ live a_4) ∧
        s.length + 1 - a_1 < s.length + 1 - i ∧ (AV.osv (N + j) w.length 0 0 = a_3 ∧ (i : Int) + 1 = (a_1 : Int)) ∧ B (nx a w) ++ J = B a_4 ++ a_5 := fun hlw o1 o2 =>
      ⟨i + 1, [], .osv (N + j) w.length 0 0, nx a w, J, ⟨by omega, by simp, hB, .inr ⟨rfl, j, w.map ofByte, hj, by simp, hw⟩, rfl, fun _ => rfl, by have := hcn a w; omega, hlw⟩, by omega, ⟨rfl, by simp⟩, rfl⟩
    generalize hBse : B (nx a w) ++ J = bs2 at *
    generalize hbse : B a ++ J = bs at *
    cases hok : ok a w with
    | true =>
      rw [hok] at hyy
      rw [if_pos rfl]
      by_cases h1 : i < s.length
      · have hg := hg h1
        have hP := hP (by simpa using h1)
        simp (config := { maxSteps := 1000000 }) (disch := omega) [-List.map_replicate, -List.map_set, -List.getD_eq_getElem?_getD, -getElem?_pos, -getElem?_neg, om, e0, e1, e2, hg, hP, h1, hjb, under, hu2, Cfg.descOf, bytesOf_ofByte, hyy, e3, hmb2, htb2, hl2]
        exact fin (hlv a w hlive hok) none none
      · simp (config := { maxSteps := 1000000 }) (disch := omega) [-List.map_replicate, -List.map_set, -List.getD_eq_getElem?_getD, -getElem?_pos, -getElem?_neg, om, e0, e1, e2, h1, hjb, under, hu2, Cfg.descOf, bytesOf_ofByte, hyy, e3, hmb2, htb2, hl2]
        exact fin (hlv a w hlive hok) none none
    | false =>
      rw [hok] at hyy
      rw [if_neg (by simp)]
      by_cases h1 : i < s.length
      · have hg := hg h1
        have hP := hP (by simpa using h1)
        simp (config := { maxSteps := 1000000 }) (disch := omega) [-List.map_replicate, -List.map_set, -List.getD_eq_getElem?_getD, -getElem?_pos, -getElem?_neg, om, e0, e1, e2, hg, hP, h1, hjb, under, hu2, Cfg.descOf, bytesOf_ofByte, hyy, e3, hl2]
        simpa [forgetBox] using htN [.dead]
      · simp (config := { maxSteps := 1000000 }) (disch := omega) [-List.map_replicate, -List.map_set, -List.getD_eq_getElem?_getD, -getElem?_pos, -getElem?_neg, om, e0, e1, e2, h1, hjb, under, hu2, Cfg.descOf, bytesOf_ofByte, hyy, e3, hl2]
        simpa [forgetBox] using htN [.dead]
end Go.Proofs.YtlolhkjjbgpfbaaGreatDoor
