/-
  Print of markup: program and reference.
-/
import Derived.Test.YtibakcohkdfnoaaDoorEscM
import Derived.Test.YtibakcohkdfnoaaDoorNodeM
set_option linter.unusedSimpArgs false
set_option linter.unusedVariables false
namespace Go.Proofs.YtibakcohkdfnoaaDoor
open Go.Am
set_option maxRecDepth 10000
set_option maxHeartbeats 4000000

/-! ### strings.Builder -/

theorem ansCopyCheck (a : AV) (ha : a = .nilp ∨ a = .ptr 0 0) (n : Nat) (es : List AV) (d : Int) (t u : Str) :
    ansF cfg 56 [.ptr 0 0] [.var 62 [a, .osl 1 n], .sl ⟨false, some 5⟩ 1 es, .var 40 [.int .i64 d, .str t, .str u]] =
      some (.tup [], [.var 62 [.ptr 0 0, .osl 1 n], .sl ⟨false, some 5⟩ 1 es, .var 40 [.int .i64 d, .str t, .str u]]) := by
  refine ans_of_wp fn56 low56 ?_
  rcases ha with rfl | rfl
  · simp (config := { maxSteps := 1000000 }) (disch := omega) [-List.map_replicate, -List.map_set, -List.getD_eq_getElem?_getD, -getElem?_pos, -getElem?_neg, wrap_i64, le_strLim, le_sliceLim, le_buildLim, le_sliceLimI, Int.tmod_eq_emod_of_nonneg, Int.tdiv_eq_ediv_of_nonneg, omLe, omLeN, omLt, omLtN, omEq, omEqN, onLe, onLeN, onLt, onLtN, onEq, onEqN, ir56, sameG, splice, Cfg.descOf]
  · simp (config := { maxSteps := 1000000 }) (disch := omega) [-List.map_replicate, -List.map_set, -List.getD_eq_getElem?_getD, -getElem?_pos, -getElem?_neg, wrap_i64, le_strLim, le_sliceLim, le_buildLim, le_sliceLimI, Int.tmod_eq_emod_of_nonneg, Int.tdiv_eq_ediv_of_nonneg, omLe, omLeN, omLt, omLtN, omEq, omEqN, onLe, onLeN, onLt, onLtN, onEq, onEqN, ir56, Cfg.descOf]

theorem ansWriteString (a : AV) (ha : a = .nilp ∨ a = .ptr 0 0) (s x : Str) (hl : s.length < 100000000) (hx : x.length < 1000000) (d : Int) (t u : Str) :
    ansF cfg 42 [.ptr 0 0, .str x] [.var 62 [a, .osl 1 s.length], .sl ⟨false, some 5⟩ 1 (s.map ofByte), .var 40 [.int .i64 d, .str t, .str u]] =
      some (.tup [.int .i64 x.length, .unk], [.var 62 [.ptr 0 0, .osl 1 (s ++ x).length], .sl ⟨false, some 5⟩ 1 ((s ++ x).map ofByte), .var 40 [.int .i64 d, .str t, .str u]]) := by
  have hc := ansCopyCheck a ha s.length (s.map ofByte) d t u
  refine ans_of_wp fn42 low42 ?_
  simp (config := { maxSteps := 1000000 }) (disch := omega) [-List.map_replicate, -List.map_set, -List.getD_eq_getElem?_getD, -getElem?_pos, -getElem?_neg, wrap_i64, le_strLim, le_sliceLim, le_buildLim, le_sliceLimI, Int.tmod_eq_emod_of_nonneg, Int.tdiv_eq_ediv_of_nonneg, omLe, omLeN, omLt, omLtN, omEq, omEqN, onLe, onLeN, onLt, onLtN, onEq, onEqN, ir42, hc, splice]

theorem ansWriteByte (a : AV) (ha : a = .nilp ∨ a = .ptr 0 0) (s : Str) (x : UInt8) (hl : s.length < 100000000) (d : Int) (t u : Str) :
    ansF cfg 44 [.ptr 0 0, .int .u8 (x.toNat : Int)] [.var 62 [a, .osl 1 s.length], .sl ⟨false, some 5⟩ 1 (s.map ofByte), .var 40 [.int .i64 d, .str t, .str u]] =
      some (.unk, [.var 62 [.ptr 0 0, .osl 1 (s ++ [x]).length], .sl ⟨false, some 5⟩ 1 ((s ++ [x]).map ofByte), .var 40 [.int .i64 d, .str t, .str u]]) := by
  have hc := ansCopyCheck a ha s.length (s.map ofByte) d t u
  refine ans_of_wp fn44 low44 ?_
  simp (config := { maxSteps := 1000000 }) (disch := omega) [-List.map_replicate, -List.map_set, -List.getD_eq_getElem?_getD, -getElem?_pos, -getElem?_neg, wrap_i64, le_strLim, le_sliceLim, le_buildLim, le_sliceLimI, Int.tmod_eq_emod_of_nonneg, Int.tdiv_eq_ediv_of_nonneg, omLe, omLeN, omLt, omLtN, omEq, omEqN, onLe, onLeN, onLt, onLtN, onEq, onEqN, ir44, hc, splice, ofByte]

theorem ansString (a : AV) (s : Str) (ha : a = .nilp ∨ a = .ptr 0 0) (hl : s.length < 100000000) (h0 : s = [] → a = .nilp) :
    ansF cfg 45 [.ptr 0 0] [.var 62 [a, .osl 1 s.length], .sl ⟨false, some 5⟩ 1 (s.map ofByte)] =
      some (.str s, [.var 62 [a, .osl 1 s.length], .sl ⟨false, none⟩ 1 (s.map ofByte)]) := by
  have hu : a.under 2 = true := by rcases ha with rfl | rfl <;> rfl
  cases s with
  | nil =>
    obtain rfl := h0 rfl
    refine ans_of_wp fn45 low45 ?_
    simp (config := { maxSteps := 1000000 }) (disch := omega) [-List.map_replicate, -List.map_set, -List.getD_eq_getElem?_getD, -getElem?_pos, -getElem?_neg, wrap_i64, le_strLim, le_sliceLim, le_buildLim, le_sliceLimI, Int.tmod_eq_emod_of_nonneg, Int.tdiv_eq_ediv_of_nonneg, omLe, omLeN, omLt, omLtN, omEq, omEqN, onLe, onLeN, onLt, onLtN, onEq, onEqN, ir45, bytesN_ofByte, Cfg.descOf]
  | cons c s =>
    refine ans_of_wp fn45 low45 ?_
    simp only [List.length_cons] at hl
    have hb := bytesN_ofByte (c :: s)
    simp only [List.map_cons] at hb
    simp (config := { maxSteps := 1000000 }) (disch := omega) [-List.map_replicate, -List.map_set, -List.getD_eq_getElem?_getD, -getElem?_pos, -getElem?_neg, wrap_i64, le_strLim, le_sliceLim, le_buildLim, le_sliceLimI, Int.tmod_eq_emod_of_nonneg, Int.tdiv_eq_ediv_of_nonneg, omLe, omLeN, omLt, omLtN, omEq, omEqN, onLe, onLeN, onLt, onLtN, onEq, onEqN, ir45, hb, Cfg.descOf, hu]

/-! ### Documents without errors -/

def NdFine (n : Nd) : Prop := 0 ≤ n.d ∧ n.d ≤ 12 ∧ tagOk n.tag = true ∧ n.text.length ≤ 4096
theorem findErr_fine : ∀ (l : List Nd) (i : Nat) (b : Int), (findErr i b l).2 = 0 → (findErr i b l).1 = -1 ∧ ∀ n ∈ l, NdFine n
  | [], _, _, _ => ⟨rfl, fun _ h => by cases h⟩
  | n :: l, i, b, h => by
    simp only [findErr] at h ⊢
    split at h
    · rename_i h1; exact absurd h h1
    · rename_i h1
      rw [if_neg h1]
      have h2 := nodeErr_zero (by simpa using h1)
      obtain ⟨h3, h4⟩ := findErr_fine l (i + 1) n.d h
      refine ⟨h3, fun m hm => ?_⟩
      rcases List.mem_cons.1 hm with rfl | hm
      · exact ⟨h2.1, h2.2.2.1, h2.2.2.2.1, h2.2.2.2.2⟩
      · exact h4 m hm
theorem fault_fine {l : List Nd} (h : (faultOf l).2 = 0) : (faultOf l).1 = -1 ∧ l.length ≤ 512 ∧ ∀ n ∈ l, NdFine n := by
  unfold faultOf at h ⊢
  split at h
  · cases h
  · rename_i h1
    rw [if_neg h1]
    obtain ⟨h2, h3⟩ := findErr_fine _ _ _ h
    exact ⟨h2, by omega, h3⟩

def textOf (t : Str) : Str := if t = [] then [] else 32 :: esc t
def lineOf (n : Nd) : Str := List.replicate n.d.toNat 9 ++ n.tag ++ textOf n.text ++ [10]
def printOf (l : List Nd) : Str := l.flatMap lineOf
theorem tag_len {s : Str} (h : tagOk s = true) : 1 ≤ s.length ∧ s.length ≤ 16 ∧ s.all low = true := by
  simp only [tagOk, Bool.and_eq_true, decide_eq_true_eq] at h
  exact ⟨h.1.1, h.1.2, h.2⟩
theorem line_len {n : Nd} (h : NdFine n) : 1 ≤ (lineOf n).length ∧ (lineOf n).length ≤ 17000 := by
  obtain ⟨h1, h2, h3, h4⟩ := h
  have := tag_len h3
  have he := esc_length n.text
  have ht : (textOf n.text).length ≤ 1 + 4 * n.text.length := by
    unfold textOf; split
    · simp
    · simp; omega
  simp only [lineOf, List.length_append, List.length_replicate, List.length_singleton]
  omega
theorem print_len : ∀ {l : List Nd}, (∀ n ∈ l, NdFine n) → (printOf l).length ≤ 17000 * l.length ∧ l.length ≤ (printOf l).length
  | [], _ => ⟨by simp [printOf], by simp [printOf]⟩
  | n :: l, h => by
    have h1 := line_len (h n List.mem_cons_self)
    have h2 := print_len (fun m hm => h m (List.mem_cons_of_mem _ hm) : ∀ m ∈ l, NdFine m)
    simp only [printOf, List.flatMap_cons, List.length_append, List.length_cons] at h2 ⊢
    omega
theorem print_succ {l : List Nd} {i : Nat} (h : i < l.length) : printOf (l.take (i + 1)) = printOf (l.take i) ++ lineOf l[i] := by
  unfold printOf
  rw [List.take_add_one, List.getElem?_eq_getElem h, List.flatMap_append]
  simp

theorem repeatL_one (c : UInt8) (n : Nat) : Lib.repeatL [c] n = List.replicate n c := by
  induction n with
  | zero => rfl
  | succ n ih => simp [Lib.repeatL, ih, List.replicate_succ]

def printA (l : List Nd) : AV := if (faultOf l).2 = 0 then .tup [.str (printOf l), .int .i64 0] else .tup [.str [], .int .i64 (faultOf l).2]

theorem ansPrintP (nl : Option Bool) (z : Nat) (l : List Nd) (hz : l ≠ [] → z = 3) (hl : ∀ n ∈ l, NdOk n) (hlen : l.length < 1000000000) : ansF cfg 19 [.lst nl z (l.map ndA)] [] = some (printA l, []) := by
  refine ans_of_wp fn19 low19 ?_
  have hc := ansCheckP nl z l hz hl hlen
  unfold printA
  by_cases h0 : (faultOf l).2 = 0
  · obtain ⟨_, hn, hfine⟩ := fault_fine h0
    rw [if_pos h0]
    rw [h0] at hc
    simp (config := { maxSteps := 1000000 }) (disch := omega) [-List.map_replicate, -List.map_set, -List.getD_eq_getElem?_getD, -getElem?_pos, -getElem?_neg, wrap_i64, le_strLim, le_sliceLim, le_buildLim, le_sliceLimI, Int.tmod_eq_emod_of_nonneg, Int.tdiv_eq_ediv_of_nonneg, omLe, omLeN, omLt, omLtN, omEq, omEqN, onLe, onLeN, onLt, onLtN, onEq, onEqN, ir19, hc]
    refine Wp.loopM (fun (i : Nat) => l.length - i) (fun i => [none, none, none, none, some (.ptr 0 0), none, none, none, some (.lst nl z (l.map ndA)), some (.int .i64 l.length), some (.int .i64 i), none, none, none, none, none, none])
      (fun i => [.var 62 [if i = 0 then .nilp else .ptr 0 0, .osl 1 (printOf (l.take i)).length], .sl ⟨false, some 5⟩ 1 ((printOf (l.take i)).map ofByte)]) (fun i => i ≤ l.length) ?_ 0 (by omega) (by simp) (by simp [printOf])
    intro i hi
    have hpl : (printOf (l.take i)).length ≤ 17000 * 512 ∧ i ≤ (printOf (l.take i)).length := by
      have := print_len (l := l.take i) (fun n hn => hfine n (List.mem_of_mem_take hn))
      simp only [List.length_take] at this
      omega
    have ha : (if i = 0 then AV.nilp else AV.ptr 0 0) = .nilp ∨ (if i = 0 then AV.nilp else AV.ptr 0 0) = .ptr 0 0 := by split <;> simp
    have ha0 : printOf (l.take i) = [] → (if i = 0 then AV.nilp else AV.ptr 0 0) = .nilp := fun h => by rw [h] at hpl; simp at hpl; simp [hpl]
    by_cases h1 : i < l.length
    · have hg : l[i]? = some l[i] := List.getElem?_eq_getElem h1
      obtain rfl : z = 3 := hz (by intro h; rw [h] at h1; simp at h1)
      have hP := print_succ h1
      obtain ⟨f1, f2, f3, f4⟩ := hfine _ (List.getElem_mem h1)
      have hline : lineOf l[i] = List.replicate l[i].d.toNat 9 ++ l[i].tag ++ textOf l[i].text ++ [10] := rfl
      rw [hline] at hP
      generalize (if i = 0 then AV.nilp else AV.ptr 0 0) = a at ha ha0
      generalize printOf (l.take i) = E at *
      generalize l[i] = n at *
      obtain ⟨d, tag, text⟩ := n
      simp only at f1 f2 f3 f4 hP
      have tl := tag_len f3
      have el := esc_length text
      obtain ⟨k, rfl⟩ := Int.eq_ofNat_of_zero_le f1
      have w1 := ansWriteString a ha E (List.replicate k 9) (by omega) (by simp; omega) k tag text
      obtain ⟨E1, hE1⟩ : ∃ E1, E ++ List.replicate k 9 = E1 := ⟨_, rfl⟩
      have l1 : E1.length = E.length + k := by rw [← hE1]; simp
      have w2 := ansWriteString (.ptr 0 0) (.inr rfl) E1 tag (by omega) (by omega) k tag text
      obtain ⟨E2, hE2⟩ : ∃ E2, E1 ++ tag = E2 := ⟨_, rfl⟩
      have l2 : E2.length = E1.length + tag.length := by rw [← hE2]; simp
      simp only [Int.toNat_natCast, ← List.append_assoc] at hP
      rw [hE1] at w1 hP
      rw [hE2] at w2 hP
      have he := ansEscP text (by omega)
      have t10 : (((10 : UInt8).toNat : Nat) : Int) = 10 := rfl
      by_cases h2 : text = []
      · subst h2
        have w3 := ansWriteByte (.ptr 0 0) (.inr rfl) E2 10 (by omega) k tag []
        have hP' : E2 ++ [10] = printOf (l.take (i + 1)) := by rw [hP]; simp [textOf]
        rw [hP', t10] at w3
        simp (config := { maxSteps := 1000000 }) (disch := omega) [-List.map_replicate, -List.map_set, -List.getD_eq_getElem?_getD, -getElem?_pos, -getElem?_neg, wrap_i64, le_strLim, le_sliceLim, le_buildLim, le_sliceLimI, Int.tmod_eq_emod_of_nonneg, Int.tdiv_eq_ediv_of_nonneg, omLe, omLeN, omLt, omLtN, omEq, omEqN, onLe, onLeN, onLt, onLtN, onEq, onEqN, hg, repeatG, repeatL_one, w1, w2, w3, splice]
        exact ⟨i + 1, by omega, by omega, by omega, ⟨by omega, rfl⟩, rfl⟩
      · have w3 := ansWriteString (.ptr 0 0) (.inr rfl) E2 (32 :: esc text) (by omega) (by simp; omega) k tag text
        obtain ⟨E4, hE4⟩ : ∃ E4, E2 ++ (32 :: esc text) = E4 := ⟨_, rfl⟩
        have l4 : E4.length = E2.length + (esc text).length + 1 := by rw [← hE4]; simp; omega
        have w4 := ansWriteByte (.ptr 0 0) (.inr rfl) E4 10 (by omega) k tag text
        have hP' : E4 ++ [10] = printOf (l.take (i + 1)) := by rw [hP, ← hE4]; simp [textOf, h2]
        rw [hE4] at w3
        rw [hP', t10] at w4
        simp (config := { maxSteps := 1000000 }) (disch := omega) [-List.map_replicate, -List.map_set, -List.getD_eq_getElem?_getD, -getElem?_pos, -getElem?_neg, wrap_i64, le_strLim, le_sliceLim, le_buildLim, le_sliceLimI, Int.tmod_eq_emod_of_nonneg, Int.tdiv_eq_ediv_of_nonneg, omLe, omLeN, omLt, omLtN, omEq, omEqN, onLe, onLeN, onLt, onLtN, onEq, onEqN, hg, repeatG, repeatL_one, w1, w2, w3, w4, he, h2, splice]
        exact ⟨i + 1, by omega, by omega, by omega, ⟨by omega, rfl⟩, rfl⟩
    · obtain rfl : i = l.length := by omega
      rw [List.take_length] at hpl ha0 ⊢
      have hs := ansString _ _ ha (by omega) ha0
      generalize (if l.length = 0 then AV.nilp else AV.ptr 0 0) = a at *
      simp (config := { maxSteps := 1000000 }) (disch := omega) [-List.map_replicate, -List.map_set, -List.getD_eq_getElem?_getD, -getElem?_pos, -getElem?_neg, wrap_i64, le_strLim, le_sliceLim, le_buildLim, le_sliceLimI, Int.tmod_eq_emod_of_nonneg, Int.tdiv_eq_ediv_of_nonneg, omLe, omLeN, omLt, omLtN, omEq, omEqN, onLe, onLeN, onLt, onLtN, onEq, onEqN, hs]
  · rw [if_neg h0]
    simp (config := { maxSteps := 1000000 }) (disch := omega) [-List.map_replicate, -List.map_set, -List.getD_eq_getElem?_getD, -getElem?_pos, -getElem?_neg, wrap_i64, le_strLim, le_sliceLim, le_buildLim, le_sliceLimI, Int.tmod_eq_emod_of_nonneg, Int.tdiv_eq_ediv_of_nonneg, omLe, omLeN, omLt, omLtN, omEq, omEqN, onLe, onLeN, onLt, onLtN, onEq, onEqN, ir19, hc, h0]

/-! ### The reference -/

theorem ansLine (n : Nd) (hn : NdFine n) : ansF cfg 47 [.agg [.int .i64 n.d, .str n.tag, .str n.text]] [] = some (.str (lineOf n), []) := by
  refine ans_of_wp fn47 low47 ?_
  obtain ⟨f1, f2, f3, f4⟩ := hn
  obtain ⟨d, tag, text⟩ := n
  simp only at f1 f2 f3 f4
  have tl := tag_len f3
  have el := esc_length text
  have he := ansEscR text (by omega)
  obtain ⟨k, rfl⟩ := Int.eq_ofNat_of_zero_le f1
  unfold lineOf textOf
  simp only [Int.toNat_natCast]
  simp (config := { maxSteps := 1000000 }) (disch := omega) [-List.map_replicate, -List.map_set, -List.getD_eq_getElem?_getD, -getElem?_pos, -getElem?_neg, wrap_i64, le_strLim, le_sliceLim, le_buildLim, le_sliceLimI, Int.tmod_eq_emod_of_nonneg, Int.tdiv_eq_ediv_of_nonneg, omLe, omLeN, omLt, omLtN, omEq, omEqN, onLe, onLeN, onLt, onLtN, onEq, onEqN, ir47]
  refine Wp.loopM (fun (i : Nat) => k - i) (fun i => [none, some (.ptr 0 0), none, some (.str (List.replicate i 9)), some (.int .i64 i), none, none, none]) (fun i => [.var 40 [.int .i64 k, .str tag, .str text]]) (fun i => i ≤ k) ?_ 0 (by omega) (by simp) (by simp)
  intro i hi
  by_cases h1 : i < k
  · simp (config := { maxSteps := 1000000 }) (disch := omega) [-List.map_replicate, -List.map_set, -List.getD_eq_getElem?_getD, -getElem?_pos, -getElem?_neg, wrap_i64, le_strLim, le_sliceLim, le_buildLim, le_sliceLimI, Int.tmod_eq_emod_of_nonneg, Int.tdiv_eq_ediv_of_nonneg, omLe, omLeN, omLt, omLtN, omEq, omEqN, onLe, onLeN, onLt, onLtN, onEq, onEqN]
    exact ⟨i + 1, by omega, by omega, by rw [List.replicate_succ'], by omega⟩
  · obtain rfl : i = k := by omega
    by_cases h2 : text = []
    · simp (config := { maxSteps := 1000000 }) (disch := omega) [-List.map_replicate, -List.map_set, -List.getD_eq_getElem?_getD, -getElem?_pos, -getElem?_neg, wrap_i64, le_strLim, le_sliceLim, le_buildLim, le_sliceLimI, Int.tmod_eq_emod_of_nonneg, Int.tdiv_eq_ediv_of_nonneg, omLe, omLeN, omLt, omLtN, omEq, omEqN, onLe, onLeN, onLt, onLtN, onEq, onEqN, h2]
    · simp (config := { maxSteps := 1000000 }) (disch := omega) [-List.map_replicate, -List.map_set, -List.getD_eq_getElem?_getD, -getElem?_pos, -getElem?_neg, wrap_i64, le_strLim, le_sliceLim, le_buildLim, le_sliceLimI, Int.tmod_eq_emod_of_nonneg, Int.tdiv_eq_ediv_of_nonneg, omLe, omLeN, omLt, omLtN, omEq, omEqN, onLe, onLeN, onLt, onLtN, onEq, onEqN, h2, he]

theorem ansPrintR (nl : Option Bool) (z : Nat) (l : List Nd) (hz : l ≠ [] → z = 3) (hl : ∀ n ∈ l, NdOk n) (hlen : l.length < 1000000000) : ansF cfg 27 [.lst nl z (l.map ndA)] [] = some (printA l, []) := by
  refine ans_of_wp fn27 low27 ?_
  have hc := ansCheckR nl z l hz hl hlen
  unfold printA
  by_cases h0 : (faultOf l).2 = 0
  · obtain ⟨_, hn, hfine⟩ := fault_fine h0
    rw [if_pos h0]
    rw [h0] at hc
    simp (config := { maxSteps := 1000000 }) (disch := omega) [-List.map_replicate, -List.map_set, -List.getD_eq_getElem?_getD, -getElem?_pos, -getElem?_neg, wrap_i64, le_strLim, le_sliceLim, le_buildLim, le_sliceLimI, Int.tmod_eq_emod_of_nonneg, Int.tdiv_eq_ediv_of_nonneg, omLe, omLeN, omLt, omLtN, omEq, omEqN, onLe, onLeN, onLt, onLtN, onEq, onEqN, ir27, hc]
    refine Wp.loopM (fun (i : Nat) => l.length - i) (fun i => [some (.lst nl z (l.map ndA)), none, none, none, some (.str (printOf (l.take i))), some (.int .i64 i), none, none, none, none]) (fun i => []) (fun i => i ≤ l.length) ?_ 0 (by omega) (by simp [printOf]) rfl
    intro i hi
    by_cases h1 : i < l.length
    · have hpl := print_len (l := l.take i) (fun n hn => hfine n (List.mem_of_mem_take hn))
      simp only [List.length_take] at hpl
      have hpl2 : (printOf (l.take i)).length ≤ 17000 * 512 := by omega
      have hg : l[i]? = some l[i] := List.getElem?_eq_getElem h1
      obtain rfl : z = 3 := hz (by intro h; rw [h] at h1; simp at h1)
      have hP := print_succ h1
      have hL := ansLine _ (hfine _ (List.getElem_mem h1))
      have ll := line_len (hfine _ (List.getElem_mem h1))
      generalize l[i] = n at *
      obtain ⟨d, tag, text⟩ := n
      simp only at hL
      generalize lineOf ⟨d, tag, text⟩ = L at *
      simp (config := { maxSteps := 1000000 }) (disch := omega) [-List.map_replicate, -List.map_set, -List.getD_eq_getElem?_getD, -getElem?_pos, -getElem?_neg, wrap_i64, le_strLim, le_sliceLim, le_buildLim, le_sliceLimI, Int.tmod_eq_emod_of_nonneg, Int.tdiv_eq_ediv_of_nonneg, omLe, omLeN, omLt, omLtN, omEq, omEqN, onLe, onLeN, onLt, onLtN, onEq, onEqN, hg, hL]
      exact ⟨i + 1, by omega, by omega, by rw [hP], by omega⟩
    · obtain rfl : i = l.length := by omega
      rw [List.take_length]
      simp (config := { maxSteps := 1000000 }) (disch := omega) [-List.map_replicate, -List.map_set, -List.getD_eq_getElem?_getD, -getElem?_pos, -getElem?_neg, wrap_i64, le_strLim, le_sliceLim, le_buildLim, le_sliceLimI, Int.tmod_eq_emod_of_nonneg, Int.tdiv_eq_ediv_of_nonneg, omLe, omLeN, omLt, omLtN, omEq, omEqN, onLe, onLeN, onLt, onLtN, onEq, onEqN]
  · rw [if_neg h0]
    simp (config := { maxSteps := 1000000 }) (disch := omega) [-List.map_replicate, -List.map_set, -List.getD_eq_getElem?_getD, -getElem?_pos, -getElem?_neg, wrap_i64, le_strLim, le_sliceLim, le_buildLim, le_sliceLimI, Int.tmod_eq_emod_of_nonneg, Int.tdiv_eq_ediv_of_nonneg, omLe, omLeN, omLt, omLtN, omEq, omEqN, onLe, onLeN, onLt, onLtN, onEq, onEqN, ir27, hc, h0]
end Go.Proofs.YtibakcohkdfnoaaDoor
