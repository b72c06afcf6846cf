/-
  Entries as values; fits, seal and Check of the program. Copies of events and of journals; equal events, equal journals; events that are few. Copies of journals: slices of one's own. Equal events, equal journals; events that are few. Equal journals; events that are few. Append of the program, and journals that are built by it. Journals that are built by appending events; a few events. A few events.
-/
import Derived.Test.YtfhfnehoaiegcaaGreatDoorDecM
set_option linter.all false
namespace Go.Proofs.YtfhfnehoaiegcaaGreatDoor
open Go.Am
set_option maxRecDepth 10000
set_option maxHeartbeats 4000000

/-- an entry as a value -/
structure En where
  e : Ev
  d : Str
def En.c (x : En) : EntC := ⟨x.e.c, x.d⟩
theorem En.c_c (x : En) : x.c.c = x.e.c := rfl
theorem En.c_d (x : En) : x.c.d = x.d := rfl
def enA (x : En) : AV := .agg (x.e.cells ++ [.str x.d])
/-- its slices are not known to be nil -/
def Ev.nn (e : Ev) : Prop := (e.nl == some true) = false ∧ (e.nl2 == some true) = false
structure En.ok (x : En) : Prop where
  e : x.e.ok
  n : x.e.nn
  d : x.d.length < 100000
def ensA (l : List En) : List AV := l.map enA
@[simp] theorem ensA_length (l : List En) : (ensA l).length = l.length := by simp [ensA]
@[simp] theorem ensA_nil (l : List En) : ensA l = [] ↔ l = [] := by simp [ensA]
@[simp] theorem ensA_get (l : List En) (i : Nat) : (ensA l)[i]? = (l[i]?).map enA := by simp [ensA]
@[simp] theorem ensA_plain (l : List En) : plainAll (ensA l) = true := plainAll_map (fun x => by simp [enA, Ev.cells, AV.plain, plainAll]) l
theorem ensA_take (l : List En) (i : Nat) : (ensA l).take i = ensA (l.take i) := by simp [ensA]

/-- the last entry -/
def lastL (l : List En) : Option EntC := lastE none (l.map En.c)
theorem lastL_nil : lastL [] = none := rfl
theorem lastL_snoc (l : List En) (x : En) : lastL (l ++ [x]) = some x.c := by
  unfold lastL
  rw [List.map_append, lastE_app]
  rfl
theorem list_end {α : Type} (l : List α) : l = [] ∨ ∃ m x, l = m ++ [x] := by
  rcases List.eq_nil_or_concat l with h | ⟨m, x, h⟩
  · exact .inl h
  · exact .inr ⟨m, x, by simpa using h⟩

def fitA (p : Option EntC) (c : EvC) : AV := .tup [.str (if fitE p c = 0 then encT c else []), .int .i64 (fitE p c)]

theorem ansFitsP (nl : Option Bool) (z : Nat) (l : List En) (hz : l ≠ [] → z = 6) (hl : ∀ x ∈ l, x.ok) (hlen : l.length < 100000) (e : Ev) (ok : e.ok) : ansF cfg 60 [.lst nl z (ensA l), evA e] [] = some (fitA (lastL l) e.c, []) := by
  refine ans_of_wp fn60 low60 ?_
  have hE := ansEncP e ok
  have hA : evA e = .agg [.int .i64 e.c.id, .int .i64 e.c.day, .int .i64 e.c.kind, .lst e.nl e.z (intsA e.c.nums), .lst e.nl2 e.z2 (strsA e.c.texts)] := rfl
  unfold encA at hE
  unfold fitA fitE
  by_cases h0 : encE e.c = 0
  · simp only [h0, if_true, ne_eq, not_true_eq_false, if_false] at hE ⊢
    rw [hA] at hE ⊢
    rcases list_end l with rfl | ⟨m, y, rfl⟩
    · rw [lastL_nil]
      simp (config := { maxSteps := 1000000 }) (disch := omega) [-List.map_replicate, -List.map_set, -List.getD_eq_getElem?_getD, -getElem?_pos, -getElem?_neg, wrap_i64, le_strLim, le_sliceLim, le_buildLim, le_sliceLimI, Int.tmod_eq_emod_of_nonneg, Int.tdiv_eq_ediv_of_nonneg, omLe, omLeN, omLt, omLtN, omEq, omEqN, onLe, onLeN, onLt, onLtN, onEq, onEqN, ir60, hE, late, ensA]
    · obtain rfl : z = 6 := hz (by simp)
      have hy := hl y (by simp)
      have hn := hy.n
      have hlm : (m ++ [y]).length = m.length + 1 := by simp
      rw [hlm] at hlen
      have hg : (m ++ [y])[m.length]? = some y := by simp
      have hi : (((m.length + 1 : Nat) : Int) - 1).toNat = m.length := by omega
      rw [lastL_snoc]
      simp only [late, En.c]
      generalize m ++ [y] = L at *
      unfold Ev.nn at hn
      by_cases q1 : e.c.id ≤ y.e.c.id
      · simp (config := { maxSteps := 1000000 }) (disch := omega) [-List.map_replicate, -List.map_set, -List.getD_eq_getElem?_getD, -getElem?_pos, -getElem?_neg, wrap_i64, le_strLim, le_sliceLim, le_buildLim, le_sliceLimI, Int.tmod_eq_emod_of_nonneg, Int.tdiv_eq_ediv_of_nonneg, omLe, omLeN, omLt, omLtN, omEq, omEqN, onLe, onLeN, onLt, onLtN, onEq, onEqN, ir60, hE, hlm, hg, hi, enA, Ev.cells, hn, splice, q1]
      · by_cases q2 : e.c.day < y.e.c.day
        · simp (config := { maxSteps := 1000000 }) (disch := omega) [-List.map_replicate, -List.map_set, -List.getD_eq_getElem?_getD, -getElem?_pos, -getElem?_neg, wrap_i64, le_strLim, le_sliceLim, le_buildLim, le_sliceLimI, Int.tmod_eq_emod_of_nonneg, Int.tdiv_eq_ediv_of_nonneg, omLe, omLeN, omLt, omLtN, omEq, omEqN, onLe, onLeN, onLt, onLtN, onEq, onEqN, ir60, hE, hlm, hg, hi, enA, Ev.cells, hn, splice, q1, q2]
        · simp (config := { maxSteps := 1000000 }) (disch := omega) [-List.map_replicate, -List.map_set, -List.getD_eq_getElem?_getD, -getElem?_pos, -getElem?_neg, wrap_i64, le_strLim, le_sliceLim, le_buildLim, le_sliceLimI, Int.tmod_eq_emod_of_nonneg, Int.tdiv_eq_ediv_of_nonneg, omLe, omLeN, omLt, omLtN, omEq, omEqN, onLe, onLeN, onLt, onLtN, onEq, onEqN, ir60, hE, hlm, hg, hi, enA, Ev.cells, hn, splice, q1, q2]
  · simp only [h0, if_false, ne_eq, not_false_eq_true, if_true] at hE ⊢
    rw [hA] at hE ⊢
    simp (config := { maxSteps := 1000000 }) (disch := omega) [-List.map_replicate, -List.map_set, -List.getD_eq_getElem?_getD, -getElem?_pos, -getElem?_neg, wrap_i64, le_strLim, le_sliceLim, le_buildLim, le_sliceLimI, Int.tmod_eq_emod_of_nonneg, Int.tdiv_eq_ediv_of_nonneg, omLe, omLeN, omLt, omLtN, omEq, omEqN, onLe, onLeN, onLt, onLtN, onEq, onEqN, ir60, hE, h0]

theorem zeros_bytes : bytesOf (List.replicate 32 (AV.int .u8 0)) = some zeros := by rfl

theorem ansSealP (nl : Option Bool) (z : Nat) (l : List En) (hz : l ≠ [] → z = 6) (hl : ∀ x ∈ l, x.ok) (hlen : l.length < 100000) (text : Str) (ht : text.length < 100000) : ansF cfg 61 [.lst nl z (ensA l), .str text] [] = some (.str (sealT (lastL l) text), []) := by
  refine ans_of_wp fn61 low61 ?_
  unfold sealT prevD
  rcases list_end l with rfl | ⟨m, y, rfl⟩
  · have hzl : zeros.length = 32 := rfl
    have hS : ansF cfg 30 [.str (0 :: 0 :: 0 :: 0 :: 0 :: 0 :: 0 :: 0 :: 0 :: 0 :: 0 :: 0 :: 0 :: 0 :: 0 :: 0 :: 0 :: 0 :: 0 :: 0 :: 0 :: 0 :: 0 :: 0 :: 0 :: 0 :: 0 :: 0 :: 0 :: 0 :: 0 :: 0 :: text)] [] = some (.str (sumP (zeros ++ text)), []) := ansSumP (zeros ++ text) (by simp only [List.length_append]; omega)
    rw [lastL_nil]
    simp (config := { maxSteps := 1000000 }) (disch := omega) [-List.map_replicate, -List.map_set, -List.getD_eq_getElem?_getD, -getElem?_pos, -getElem?_neg, wrap_i64, le_strLim, le_sliceLim, le_buildLim, le_sliceLimI, Int.tmod_eq_emod_of_nonneg, Int.tdiv_eq_ediv_of_nonneg, omLe, omLeN, omLt, omLtN, omEq, omEqN, onLe, onLeN, onLt, onLtN, onEq, onEqN, ir61, ensA, zeros_bytes, hzl, hS, Cfg.descOf]
  · obtain rfl : z = 6 := hz (by simp)
    have hy := hl y (by simp)
    have hyd := hy.d
    have hlm : (m ++ [y]).length = m.length + 1 := by simp
    rw [hlm] at hlen
    have hg : (m ++ [y])[m.length]? = some y := by simp
    have hi : (((m.length + 1 : Nat) : Int) - 1).toNat = m.length := by omega
    have hS := ansSumP (y.d ++ text) (by simp only [List.length_append]; omega)
    rw [lastL_snoc]
    simp only [En.c]
    generalize m ++ [y] = L at *
    simp (config := { maxSteps := 1000000 }) (disch := omega) [-List.map_replicate, -List.map_set, -List.getD_eq_getElem?_getD, -getElem?_pos, -getElem?_neg, wrap_i64, le_strLim, le_sliceLim, le_buildLim, le_sliceLimI, Int.tmod_eq_emod_of_nonneg, Int.tdiv_eq_ediv_of_nonneg, omLe, omLeN, omLt, omLtN, omEq, omEqN, onLe, onLeN, onLt, onLtN, onEq, onEqN, ir61, zeros_bytes, hlm, hg, hi, enA, Ev.cells, hS, Cfg.descOf]

theorem ent_0 {p : Option EntC} {x : EntC} (f0 : fitE p x.c = 0) (d0 : x.d = sealT p (encT x.c)) : entE p x = 0 := by simp [entE, f0, ← d0]
theorem ent_14 {p : Option EntC} {x : EntC} (f0 : fitE p x.c = 0) (d0 : ¬ x.d = sealT p (encT x.c)) : entE p x = 14 := by simp [entE, f0, d0]
theorem ent_f {p : Option EntC} {x : EntC} (f0 : ¬ fitE p x.c = 0) : entE p x = fitE p x.c := by simp [entE, f0]

/-- Check's answer -/
def chkA (L : List EntC) : AV := if 1024 < L.length then .tup [.int .i64 (-1), .int .i64 8] else .tup [.int .i64 (chk none 0 L).1, .int .i64 (chk none 0 L).2]

theorem fit_range (p : Option EntC) (c : EvC) : fitE p c = 0 ∨ fitE p c = 2 ∨ fitE p c = 8 ∨ fitE p c = 5 := by
  unfold fitE
  rcases encE_range c with h | h | h <;> simp [h]
  split <;> simp

theorem ansChkP (nl : Option Bool) (z : Nat) (l : List En) (hz : l ≠ [] → z = 6) (hl : ∀ x ∈ l, x.ok) (hlen : l.length < 100000) : ansF cfg 29 [.lst nl z (ensA l)] [] = some (chkA (l.map En.c), []) := by
  refine ans_of_wp fn29 low29 ?_
  by_cases hbig : 1024 < l.length
  · have h2 : 1024 < (l.map En.c).length := by simpa using hbig
    unfold chkA
    rw [if_pos h2]
    simp (config := { maxSteps := 1000000 }) (disch := omega) [-List.map_replicate, -List.map_set, -List.getD_eq_getElem?_getD, -getElem?_pos, -getElem?_neg, wrap_i64, le_strLim, le_sliceLim, le_buildLim, le_sliceLimI, Int.tmod_eq_emod_of_nonneg, Int.tdiv_eq_ediv_of_nonneg, omLe, omLeN, omLt, omLtN, omEq, omEqN, onLe, onLeN, onLt, onLtN, onEq, onEqN, ir29, hbig]
  have h2 : ¬ 1024 < (l.map En.c).length := by simpa using hbig
  have hA : chkA (l.map En.c) = .tup [.int .i64 (chk none 0 (l.map En.c)).1, .int .i64 (chk none 0 (l.map En.c)).2] := by
    unfold chkA; rw [if_neg h2]
  rw [hA]
  simp (config := { maxSteps := 1000000 }) (disch := omega) [-List.map_replicate, -List.map_set, -List.getD_eq_getElem?_getD, -getElem?_pos, -getElem?_neg, wrap_i64, le_strLim, le_sliceLim, le_buildLim, le_sliceLimI, Int.tmod_eq_emod_of_nonneg, Int.tdiv_eq_ediv_of_nonneg, omLe, omLeN, omLt, omLtN, omEq, omEqN, onLe, onLeN, onLt, onLtN, onEq, onEqN, ir29, hbig]
  refine Wp.loopM (fun (a : Nat × Option AV × Option AV) => l.length - a.1) (fun a => [some (.lst nl z (ensA l)), none, none, none, none, none, none, none, some (.lst nl z (ensA l)), some (.int .i64 l.length), some (.int .i64 a.1), none, none, none, none, none, a.2.1, a.2.2, none, none])
    (fun _ => []) (fun a => (a.1 ≤ l.length ∧ ∀ k i r, underV k 0 i (a.2.1 :: a.2.2 :: r) = underV k 0 (i + 2) r) ∧ chk none 0 (l.map En.c) = chk (lastL (l.take a.1)) a.1 ((l.drop a.1).map En.c)) ?_ (0, none, none) ⟨⟨by simp, fun k i r => rfl⟩, rfl⟩ (by simp) rfl
  rintro ⟨i, o1, o2⟩ ⟨⟨hi, hu⟩, hc⟩
  simp only at hi hu hc ⊢
  by_cases k : i < l.length
  · have hg : l[i]? = some l[i] := List.getElem?_eq_getElem k
    obtain rfl : z = 6 := hz (by intro h; rw [h] at k; simp at k)
    have hx := hl _ (List.getElem_mem k)
    have hd : l.drop i = l[i] :: l.drop (i + 1) := List.drop_eq_getElem_cons k
    have htk : lastL (l.take (i + 1)) = some l[i].c := by rw [take_succ k, lastL_snoc]
    have hlt : ∀ x ∈ l.take i, x.ok := fun x h => hl x (List.mem_of_mem_take h)
    have hf := ansFitsP nl 6 (l.take i) (fun _ => rfl) hlt (by simp; omega) l[i].e hx.e
    have hs := fun (h : encE l[i].e.c = 0) => ansSealP nl 6 (l.take i) (fun _ => rfl) hlt (by simp; omega) (encT l[i].e.c) (by have := (enc_fine h).2.2.2.2; omega)
    rw [hd] at hc
    simp only [List.map_cons, chk] at hc
    generalize l[i] = x at *
    have hi2 : i + 1 ≤ l.length := k
    unfold fitA evA Ev.cells at hf
    have hE0 : fitE (lastL (l.take i)) x.e.c = 0 → encE x.e.c = 0 := fun h => by
      unfold fitE at h
      split at h
      · rename_i h1; exact absurd h h1
      · rename_i h1; simpa using h1
    have hn := hx.n
    unfold Ev.nn at hn
    by_cases f0 : fitE (lastL (l.take i)) x.e.c = 0
    · have hs := hs (hE0 f0)
      by_cases d0 : x.d = sealT (lastL (l.take i)) (encT x.e.c)
      · have he : entE (lastL (l.take i)) x.c = 0 := ent_0 f0 d0
        rw [he] at hc
        simp only [if_true] at hc
        simp only [f0, if_true] at hf
        rw [← d0] at hs
        simp (config := { maxSteps := 1000000 }) (disch := omega) [-List.map_replicate, -List.map_set, -List.getD_eq_getElem?_getD, -getElem?_pos, -getElem?_neg, wrap_i64, le_strLim, le_sliceLim, le_buildLim, le_sliceLimI, Int.tmod_eq_emod_of_nonneg, Int.tdiv_eq_ediv_of_nonneg, omLe, omLeN, omLt, omLtN, omEq, omEqN, onLe, onLeN, onLt, onLtN, onEq, onEqN, hg, ensA_take, hf, hs, enA, Ev.cells, hn, splice]
        refine ⟨i + 1, _, _, ⟨⟨hi2, fun k i r => ?_⟩, ?_⟩, by omega, by omega, rfl, rfl⟩
        · simp [underV, AV.under]
        · rw [hc, htk, List.map_drop]
      · have he : entE (lastL (l.take i)) x.c = 14 := ent_14 f0 d0
        have d1 : (x.d == sealT (lastL (l.take i)) (encT x.e.c)) = false := by rw [beq_eq_false_iff_ne]; exact d0
        rw [he] at hc
        rw [hc]
        simp only [f0, if_true] at hf
        simp (config := { maxSteps := 1000000 }) (disch := omega) [-List.map_replicate, -List.map_set, -List.getD_eq_getElem?_getD, -getElem?_pos, -getElem?_neg, wrap_i64, le_strLim, le_sliceLim, le_buildLim, le_sliceLimI, Int.tmod_eq_emod_of_nonneg, Int.tdiv_eq_ediv_of_nonneg, omLe, omLeN, omLt, omLtN, omEq, omEqN, onLe, onLeN, onLt, onLtN, onEq, onEqN, hg, ensA_take, hf, hs, enA, Ev.cells, hn, splice, d0, d1]
    · have he : entE (lastL (l.take i)) x.c = fitE (lastL (l.take i)) x.e.c := ent_f f0
      have f1 : (fitE (lastL (l.take i)) x.e.c == 0) = false := by rw [beq_eq_false_iff_ne]; exact f0
      rw [he] at hc
      simp only [f0, if_false] at hc hf
      rw [hc]
      simp (config := { maxSteps := 1000000 }) (disch := omega) [-List.map_replicate, -List.map_set, -List.getD_eq_getElem?_getD, -getElem?_pos, -getElem?_neg, wrap_i64, le_strLim, le_sliceLim, le_buildLim, le_sliceLimI, Int.tmod_eq_emod_of_nonneg, Int.tdiv_eq_ediv_of_nonneg, omLe, omLeN, omLt, omLtN, omEq, omEqN, onLe, onLeN, onLt, onLtN, onEq, onEqN, hg, ensA_take, hf, enA, Ev.cells, hn, splice, f0, f1]
  · obtain rfl : i = l.length := by omega
    rw [List.drop_length] at hc
    rw [hc]
    simp (config := { maxSteps := 1000000 }) (disch := omega) [-List.map_replicate, -List.map_set, -List.getD_eq_getElem?_getD, -getElem?_pos, -getElem?_neg, wrap_i64, le_strLim, le_sliceLim, le_buildLim, le_sliceLimI, Int.tmod_eq_emod_of_nonneg, Int.tdiv_eq_ediv_of_nonneg, omLe, omLeN, omLt, omLtN, omEq, omEqN, onLe, onLeN, onLt, onLtN, onEq, onEqN, chk]
end Go.Proofs.YtfhfnehoaiegcaaGreatDoor

namespace Go.Proofs.YtfhfnehoaiegcaaGreatDoor
open Go.Am
set_option maxRecDepth 10000
set_option maxHeartbeats 4000000

def cpN {α : Type} : List α → Option Bool
  | [] => some false
  | _ => none
def cpZ {α : Type} : List α → Nat
  | [] => 0
  | _ => 1
/-- a copy of an event -/
def evCp (c : EvC) : Ev := ⟨c, cpN c.nums, cpZ c.nums, cpN c.texts, cpZ c.texts⟩
def enCp (x : EntC) : En := ⟨evCp x.c, x.d⟩
def cps (L : List EntC) : List En := L.map enCp
theorem cpN_nn {α : Type} (l : List α) : (cpN l == some true) = false := by cases l <;> rfl
theorem evCp_ok {c : EvC} (h1 : c.nums.length < 1000000) (h2 : c.texts.length < 1000000) : (evCp c).ok where
  hz h := by unfold evCp at *; simp only at h ⊢; cases hc : c.nums with
    | nil => exact absurd hc h
    | cons a l => rfl
  hz2 h := by unfold evCp at *; simp only at h ⊢; cases hc : c.texts with
    | nil => exact absurd hc h
    | cons a l => rfl
  hn := h1
  ht := h2
theorem evCp_nn (c : EvC) : (evCp c).nn := ⟨cpN_nn _, cpN_nn _⟩
@[simp] theorem cps_length (L : List EntC) : (cps L).length = L.length := by simp [cps]
theorem cps_c (L : List EntC) : (cps L).map En.c = L := by
  simp only [cps, List.map_map]
  conv => rhs; rw [← List.map_id L]
  rfl

theorem ansCopyEv (e : Ev) (ok : e.ok) : ansF cfg 13 [evA e] [] = some (evA (evCp e.c), []) := by
  refine ans_of_wp fn13 low13 ?_
  obtain ⟨⟨id, day, kind, nums, texts⟩, nl, z, nl2, z2⟩ := e
  obtain ⟨hz, hz2, hn, ht⟩ := ok
  simp only at hz hz2 hn ht
  unfold evA evCp Ev.cells
  simp only
  cases nums with
  | nil => cases texts with
    | nil => simp (config := { maxSteps := 1000000 }) (disch := omega) [-List.map_replicate, -List.map_set, -List.getD_eq_getElem?_getD, -getElem?_pos, -getElem?_neg, wrap_i64, le_strLim, le_sliceLim, le_buildLim, le_sliceLimI, Int.tmod_eq_emod_of_nonneg, Int.tdiv_eq_ediv_of_nonneg, omLe, omLeN, omLt, omLtN, omEq, omEqN, onLe, onLeN, onLt, onLtN, onEq, onEqN, ir13, cpN, cpZ, intsA, strsA, splice]
    | cons t ts =>
      obtain rfl : z2 = 1 := hz2 (by simp)
      simp only [List.length_cons] at ht
      simp (config := { maxSteps := 1000000 }) (disch := omega) [-List.map_replicate, -List.map_set, -List.getD_eq_getElem?_getD, -getElem?_pos, -getElem?_neg, wrap_i64, le_strLim, le_sliceLim, le_buildLim, le_sliceLimI, Int.tmod_eq_emod_of_nonneg, Int.tdiv_eq_ediv_of_nonneg, omLe, omLeN, omLt, omLtN, omEq, omEqN, onLe, onLeN, onLt, onLtN, onEq, onEqN, ir13, cpN, cpZ, intsA, strsA, splice]
  | cons n ns =>
    obtain rfl : z = 1 := hz (by simp)
    simp only [List.length_cons] at hn
    cases texts with
    | nil =>
      simp (config := { maxSteps := 1000000 }) (disch := omega) [-List.map_replicate, -List.map_set, -List.getD_eq_getElem?_getD, -getElem?_pos, -getElem?_neg, wrap_i64, le_strLim, le_sliceLim, le_buildLim, le_sliceLimI, Int.tmod_eq_emod_of_nonneg, Int.tdiv_eq_ediv_of_nonneg, omLe, omLeN, omLt, omLtN, omEq, omEqN, onLe, onLeN, onLt, onLtN, onEq, onEqN, ir13, cpN, cpZ, intsA, strsA, splice]
    | cons t ts =>
      obtain rfl : z2 = 1 := hz2 (by simp)
      simp only [List.length_cons] at ht
      simp (config := { maxSteps := 1000000 }) (disch := omega) [-List.map_replicate, -List.map_set, -List.getD_eq_getElem?_getD, -getElem?_pos, -getElem?_neg, wrap_i64, le_strLim, le_sliceLim, le_buildLim, le_sliceLimI, Int.tmod_eq_emod_of_nonneg, Int.tdiv_eq_ediv_of_nonneg, omLe, omLeN, omLt, omLtN, omEq, omEqN, onLe, onLeN, onLt, onLtN, onEq, onEqN, ir13, cpN, cpZ, intsA, strsA, splice]
end Go.Proofs.YtfhfnehoaiegcaaGreatDoor

namespace Go.Proofs.YtfhfnehoaiegcaaGreatDoor
open Go.Am
set_option maxRecDepth 10000
set_option maxHeartbeats 4000000

theorem ansCopyW (nl : Option Bool) (z : Nat) (l : List En) (hz : l ≠ [] → z = 6) (hl : ∀ x ∈ l, x.e.ok) (hlen : l.length < 100000) : ansF cfg 20 [.lst nl z (ensA l)] [] = some (.osl 0 l.length, [.sl ⟨false, some 52⟩ 6 (ensA (cps (l.map En.c)))]) := by
  refine ans_of_wp fn20 low20 ?_
  simp (config := { maxSteps := 1000000 }) (disch := omega) [-List.map_replicate, -List.map_set, -List.getD_eq_getElem?_getD, -getElem?_pos, -getElem?_neg, wrap_i64, le_strLim, le_sliceLim, le_buildLim, le_sliceLimI, Int.tmod_eq_emod_of_nonneg, Int.tdiv_eq_ediv_of_nonneg, omLe, omLeN, omLt, omLtN, omEq, omEqN, onLe, onLeN, onLt, onLtN, onEq, onEqN, ir20]
  refine Wp.loopM (fun (i : Nat) => l.length - i) (fun i => [some (.lst nl z (ensA l)), none, some (.osl 0 i), some (.int .i64 i), none, none, none, none, none])
    (fun i => [.sl ⟨false, some 52⟩ 6 (ensA (cps ((l.take i).map En.c)))]) (fun i => i ≤ l.length) ?_ 0 (by omega) (by simp) (by simp [cps, ensA])
  intro i hi
  have hcl : (ensA (cps ((l.take i).map En.c))).length = i := by simp; omega
  by_cases k : i < l.length
  · have hg : l[i]? = some l[i] := List.getElem?_eq_getElem k
    obtain rfl : z = 6 := hz (by intro h; rw [h] at k; simp at k)
    have hx := hl _ (List.getElem_mem k)
    have hsn : ensA (cps ((l.take (i + 1)).map En.c)) = ensA (cps ((l.take i).map En.c)) ++ [enA (enCp l[i].c)] := by
      rw [take_succ k]
      unfold cps ensA
      rw [List.map_append, List.map_append, List.map_append]
      rfl
    have hc := ansCopyEv l[i].e hx
    generalize l[i] = x at *
    generalize ensA (cps ((l.take i).map En.c)) = A at *
    have hi2 : i + 1 ≤ l.length := k
    unfold evA Ev.cells at hc
    simp (config := { maxSteps := 1000000 }) (disch := omega) [-List.map_replicate, -List.map_set, -List.getD_eq_getElem?_getD, -getElem?_pos, -getElem?_neg, wrap_i64, le_strLim, le_sliceLim, le_buildLim, le_sliceLimI, Int.tmod_eq_emod_of_nonneg, Int.tdiv_eq_ediv_of_nonneg, omLe, omLeN, omLt, omLtN, omEq, omEqN, onLe, onLeN, onLt, onLtN, onEq, onEqN, hg, enA, Ev.cells, hc, hcl, splice]
    refine ⟨i + 1, hi2, by omega, by omega, ?_⟩
    rw [← List.map_take, hsn]
    rfl
  · obtain rfl : i = l.length := by omega
    rw [List.take_length] at hcl ⊢
    simp (config := { maxSteps := 1000000 }) (disch := omega) [-List.map_replicate, -List.map_set, -List.getD_eq_getElem?_getD, -getElem?_pos, -getElem?_neg, wrap_i64, le_strLim, le_sliceLim, le_buildLim, le_sliceLimI, Int.tmod_eq_emod_of_nonneg, Int.tdiv_eq_ediv_of_nonneg, omLe, omLeN, omLt, omLtN, omEq, omEqN, onLe, onLeN, onLt, onLtN, onEq, onEqN, hcl]
theorem ansCopyL (nl : Option Bool) (z : Nat) (l : List En) (hz : l ≠ [] → z = 6) (hl : ∀ x ∈ l, x.ok) (hlen : l.length < 100000) : ansF cfg 20 [.lst nl z (ensA l)] [] = some (.osl 0 l.length, [.sl ⟨false, some 52⟩ 6 (ensA (cps (l.map En.c)))]) :=
  ansCopyW nl z l hz (fun x h => (hl x h).e) hlen
end Go.Proofs.YtfhfnehoaiegcaaGreatDoor

namespace Go.Proofs.YtfhfnehoaiegcaaGreatDoor
open Go.Am
set_option maxRecDepth 10000
set_option maxHeartbeats 8000000

theorem take_step {α : Type} {l m : List α} {i : Nat} (h : l.take i = m.take i) (hl : i < l.length) (hm : i < m.length) (he : l[i] = m[i]) : l.take (i + 1) = m.take (i + 1) := by
  rw [take_succ hl, take_succ hm, h, he]

theorem ansSameEv (a b : Ev) (oka : a.ok) (okb : b.ok) : ansF cfg 17 [evA a, evA b] [] = some (.bool (decide (a.c = b.c)), []) := by
  refine ans_of_wp fn17 low17 ?_
  obtain ⟨⟨id, day, kind, nums, texts⟩, nl, z, nl2, z2⟩ := a
  obtain ⟨⟨id', day', kind', nums', texts'⟩, nl', z', nl2', z2'⟩ := b
  obtain ⟨hz, hz2, hn, ht⟩ := oka
  obtain ⟨hz', hz2', hn', ht'⟩ := okb
  simp only at hz hz2 hn ht hz' hz2' hn' ht'
  unfold evA Ev.cells
  simp only [EvC.mk.injEq]
  by_cases k1 : id = id'
  case neg =>
    have k1' : (id == id') = false := by rw [beq_eq_false_iff_ne]; exact k1
    simp (config := { maxSteps := 1000000 }) (disch := omega) [-List.map_replicate, -List.map_set, -List.getD_eq_getElem?_getD, -getElem?_pos, -getElem?_neg, wrap_i64, le_strLim, le_sliceLim, le_buildLim, le_sliceLimI, Int.tmod_eq_emod_of_nonneg, Int.tdiv_eq_ediv_of_nonneg, omLe, omLeN, omLt, omLtN, omEq, omEqN, onLe, onLeN, onLt, onLtN, onEq, onEqN, ir17, k1, k1']
  subst k1
  by_cases k2 : day = day'
  case neg =>
    have k2' : (day == day') = false := by rw [beq_eq_false_iff_ne]; exact k2
    simp (config := { maxSteps := 1000000 }) (disch := omega) [-List.map_replicate, -List.map_set, -List.getD_eq_getElem?_getD, -getElem?_pos, -getElem?_neg, wrap_i64, le_strLim, le_sliceLim, le_buildLim, le_sliceLimI, Int.tmod_eq_emod_of_nonneg, Int.tdiv_eq_ediv_of_nonneg, omLe, omLeN, omLt, omLtN, omEq, omEqN, onLe, onLeN, onLt, onLtN, onEq, onEqN, ir17, k2, k2']
  subst k2
  by_cases k3 : kind = kind'
  case neg =>
    have k3' : (kind == kind') = false := by rw [beq_eq_false_iff_ne]; exact k3
    simp (config := { maxSteps := 1000000 }) (disch := omega) [-List.map_replicate, -List.map_set, -List.getD_eq_getElem?_getD, -getElem?_pos, -getElem?_neg, wrap_i64, le_strLim, le_sliceLim, le_buildLim, le_sliceLimI, Int.tmod_eq_emod_of_nonneg, Int.tdiv_eq_ediv_of_nonneg, omLe, omLeN, omLt, omLtN, omEq, omEqN, onLe, onLeN, onLt, onLtN, onEq, onEqN, ir17, k3, k3']
  subst k3
  by_cases k4 : nums.length = nums'.length
  case neg =>
    have k4' : ((nums.length : Int) == (nums'.length : Int)) = false := by rw [beq_eq_false_iff_ne]; omega
    have k4'' : nums ≠ nums' := fun h => k4 (by rw [h])
    simp (config := { maxSteps := 1000000 }) (disch := omega) [-List.map_replicate, -List.map_set, -List.getD_eq_getElem?_getD, -getElem?_pos, -getElem?_neg, wrap_i64, le_strLim, le_sliceLim, le_buildLim, le_sliceLimI, Int.tmod_eq_emod_of_nonneg, Int.tdiv_eq_ediv_of_nonneg, omLe, omLeN, omLt, omLtN, omEq, omEqN, onLe, onLeN, onLt, onLtN, onEq, onEqN, ir17, k4', k4'']
  by_cases k5 : texts.length = texts'.length
  case neg =>
    have k5' : ((texts.length : Int) == (texts'.length : Int)) = false := by rw [beq_eq_false_iff_ne]; omega
    have k5'' : texts ≠ texts' := fun h => k5 (by rw [h])
    simp (config := { maxSteps := 1000000 }) (disch := omega) [-List.map_replicate, -List.map_set, -List.getD_eq_getElem?_getD, -getElem?_pos, -getElem?_neg, wrap_i64, le_strLim, le_sliceLim, le_buildLim, le_sliceLimI, Int.tmod_eq_emod_of_nonneg, Int.tdiv_eq_ediv_of_nonneg, omLe, omLeN, omLt, omLtN, omEq, omEqN, onLe, onLeN, onLt, onLtN, onEq, onEqN, ir17, k4, k5', k5'']
  simp only [true_and]
  have e4 : ((nums.length : Int) == (nums'.length : Int)) = true := by rw [beq_iff_eq]; omega
  have e5 : ((texts.length : Int) == (texts'.length : Int)) = true := by rw [beq_iff_eq]; omega
  simp (config := { maxSteps := 1000000 }) (disch := omega) [-List.map_replicate, -List.map_set, -List.getD_eq_getElem?_getD, -getElem?_pos, -getElem?_neg, wrap_i64, le_strLim, le_sliceLim, le_buildLim, le_sliceLimI, Int.tmod_eq_emod_of_nonneg, Int.tdiv_eq_ediv_of_nonneg, omLe, omLeN, omLt, omLtN, omEq, omEqN, onLe, onLeN, onLt, onLtN, onEq, onEqN, ir17, e4, e5]
  refine Wp.loopM (fun (i : Nat) => nums.length - i) (fun i => [none, none, some (.ptr 0 0), some (.ptr 1 0), none, some (.int .i64 i), none, none, none, none, none, none])
    (fun _ => [.var 25 [.int .i64 id, .int .i64 day, .int .i64 kind, .lst nl z (intsA nums), .lst nl2 z2 (strsA texts)], .var 25 [.int .i64 id, .int .i64 day, .int .i64 kind, .lst nl' z' (intsA nums'), .lst nl2' z2' (strsA texts')]])
    (fun i => i ≤ nums.length ∧ nums.take i = nums'.take i) ?_ 0 ⟨by omega, by simp⟩ (by simp) (by simp)
  rintro i ⟨hi, hta⟩
  by_cases k : i < nums.length
  · have kb : i < nums'.length := by omega
    have hg : nums[i]? = some nums[i] := List.getElem?_eq_getElem k
    have hg' : nums'[i]? = some nums'[i] := List.getElem?_eq_getElem kb
    obtain rfl : z = 1 := hz (by intro h; rw [h] at k; simp at k)
    obtain rfl : z' = 1 := hz' (by intro h; rw [h] at kb; simp at kb)
    have hst := take_step hta k kb
    have hne : nums[i] ≠ nums'[i] → nums ≠ nums' := fun h e => h (by subst e; rfl)
    generalize nums[i] = n at *
    generalize nums'[i] = n' at *
    have hi2 : i + 1 ≤ nums.length := k
    by_cases e : n = n'
    · subst e
      simp (config := { maxSteps := 1000000 }) (disch := omega) [-List.map_replicate, -List.map_set, -List.getD_eq_getElem?_getD, -getElem?_pos, -getElem?_neg, wrap_i64, le_strLim, le_sliceLim, le_buildLim, le_sliceLimI, Int.tmod_eq_emod_of_nonneg, Int.tdiv_eq_ediv_of_nonneg, omLe, omLeN, omLt, omLtN, omEq, omEqN, onLe, onLeN, onLt, onLtN, onEq, onEqN, hg, hg']
      exact ⟨i + 1, ⟨hi2, hst rfl⟩, by omega, by omega⟩
    · have e' : (n == n') = false := by rw [beq_eq_false_iff_ne]; exact e
      have e2 := hne e
      simp (config := { maxSteps := 1000000 }) (disch := omega) [-List.map_replicate, -List.map_set, -List.getD_eq_getElem?_getD, -getElem?_pos, -getElem?_neg, wrap_i64, le_strLim, le_sliceLim, le_buildLim, le_sliceLimI, Int.tmod_eq_emod_of_nonneg, Int.tdiv_eq_ediv_of_nonneg, omLe, omLeN, omLt, omLtN, omEq, omEqN, onLe, onLeN, onLt, onLtN, onEq, onEqN, hg, hg', e', e2]
  obtain rfl : i = nums.length := by omega
  rw [List.take_length, k4, List.take_length] at hta
  subst hta
  simp (config := { maxSteps := 1000000 }) (disch := omega) [-List.map_replicate, -List.map_set, -List.getD_eq_getElem?_getD, -getElem?_pos, -getElem?_neg, wrap_i64, le_strLim, le_sliceLim, le_buildLim, le_sliceLimI, Int.tmod_eq_emod_of_nonneg, Int.tdiv_eq_ediv_of_nonneg, omLe, omLeN, omLt, omLtN, omEq, omEqN, onLe, onLeN, onLt, onLtN, onEq, onEqN]
  refine Wp.loopM (fun (i : Nat) => texts.length - i) (fun i => [none, none, some (.ptr 0 0), some (.ptr 1 0), none, none, some (.int .i64 i), none, none, none, none, none])
    (fun _ => [.var 25 [.int .i64 id, .int .i64 day, .int .i64 kind, .lst nl z (intsA nums), .lst nl2 z2 (strsA texts)], .var 25 [.int .i64 id, .int .i64 day, .int .i64 kind, .lst nl' z' (intsA nums), .lst nl2' z2' (strsA texts')]])
    (fun i => i ≤ texts.length ∧ texts.take i = texts'.take i) ?_ 0 ⟨by omega, by simp⟩ (by simp) (by simp)
  rintro i ⟨hi, hta⟩
  by_cases k : i < texts.length
  · have kb : i < texts'.length := by omega
    have hg : texts[i]? = some texts[i] := List.getElem?_eq_getElem k
    have hg' : texts'[i]? = some texts'[i] := List.getElem?_eq_getElem kb
    obtain rfl : z2 = 1 := hz2 (by intro h; rw [h] at k; simp at k)
    obtain rfl : z2' = 1 := hz2' (by intro h; rw [h] at kb; simp at kb)
    have hst := take_step hta k kb
    have hne : texts[i] ≠ texts'[i] → texts ≠ texts' := fun h e => h (by subst e; rfl)
    generalize texts[i] = n at *
    generalize texts'[i] = n' at *
    have hi2 : i + 1 ≤ texts.length := k
    by_cases e : n = n'
    · subst e
      simp (config := { maxSteps := 1000000 }) (disch := omega) [-List.map_replicate, -List.map_set, -List.getD_eq_getElem?_getD, -getElem?_pos, -getElem?_neg, wrap_i64, le_strLim, le_sliceLim, le_buildLim, le_sliceLimI, Int.tmod_eq_emod_of_nonneg, Int.tdiv_eq_ediv_of_nonneg, omLe, omLeN, omLt, omLtN, omEq, omEqN, onLe, onLeN, onLt, onLtN, onEq, onEqN, hg, hg']
      exact ⟨i + 1, ⟨hi2, hst rfl⟩, by omega, by omega⟩
    · have e' : (n == n') = false := by rw [beq_eq_false_iff_ne]; exact e
      have e2 := hne e
      simp (config := { maxSteps := 1000000 }) (disch := omega) [-List.map_replicate, -List.map_set, -List.getD_eq_getElem?_getD, -getElem?_pos, -getElem?_neg, wrap_i64, le_strLim, le_sliceLim, le_buildLim, le_sliceLimI, Int.tmod_eq_emod_of_nonneg, Int.tdiv_eq_ediv_of_nonneg, omLe, omLeN, omLt, omLtN, omEq, omEqN, onLe, onLeN, onLt, onLtN, onEq, onEqN, hg, hg', e', e2]
  obtain rfl : i = texts.length := by omega
  rw [List.take_length, k5, List.take_length] at hta
  subst hta
  simp (config := { maxSteps := 1000000 }) (disch := omega) [-List.map_replicate, -List.map_set, -List.getD_eq_getElem?_getD, -getElem?_pos, -getElem?_neg, wrap_i64, le_strLim, le_sliceLim, le_buildLim, le_sliceLimI, Int.tmod_eq_emod_of_nonneg, Int.tdiv_eq_ediv_of_nonneg, omLe, omLeN, omLt, omLtN, omEq, omEqN, onLe, onLeN, onLt, onLtN, onEq, onEqN]
end Go.Proofs.YtfhfnehoaiegcaaGreatDoor

namespace Go.Proofs.YtfhfnehoaiegcaaGreatDoor
open Go.Am
set_option maxRecDepth 10000
set_option maxHeartbeats 8000000

theorem ansSame (nl nl' : Option Bool) (z z' : Nat) (l m : List En) (hz : l ≠ [] → z = 6) (hz' : m ≠ [] → z' = 6) (hl : ∀ x ∈ l, x.ok) (hm : ∀ x ∈ m, x.ok) (hlen : l.length < 100000) (hlen' : m.length < 100000) :
    ansF cfg 26 [.lst nl z (ensA l), .lst nl' z' (ensA m)] [] = some (.bool (decide (l.map En.c = m.map En.c)), []) := by
  refine ans_of_wp fn26 low26 ?_
  by_cases k4 : l.length = m.length
  case neg =>
    have k4' : ((l.length : Int) == (m.length : Int)) = false := by rw [beq_eq_false_iff_ne]; omega
    have k4'' : l.map En.c ≠ m.map En.c := fun h => k4 (by have := congrArg List.length h; simpa using this)
    simp (config := { maxSteps := 1000000 }) (disch := omega) [-List.map_replicate, -List.map_set, -List.getD_eq_getElem?_getD, -getElem?_pos, -getElem?_neg, wrap_i64, le_strLim, le_sliceLim, le_buildLim, le_sliceLimI, Int.tmod_eq_emod_of_nonneg, Int.tdiv_eq_ediv_of_nonneg, omLe, omLeN, omLt, omLtN, omEq, omEqN, onLe, onLeN, onLt, onLtN, onEq, onEqN, ir26, k4', k4'']
  have e4 : ((l.length : Int) == (m.length : Int)) = true := by rw [beq_iff_eq]; omega
  simp (config := { maxSteps := 1000000 }) (disch := omega) [-List.map_replicate, -List.map_set, -List.getD_eq_getElem?_getD, -getElem?_pos, -getElem?_neg, wrap_i64, le_strLim, le_sliceLim, le_buildLim, le_sliceLimI, Int.tmod_eq_emod_of_nonneg, Int.tdiv_eq_ediv_of_nonneg, omLe, omLeN, omLt, omLtN, omEq, omEqN, onLe, onLeN, onLt, onLtN, onEq, onEqN, ir26, e4]
  refine Wp.loopM (fun (i : Nat) => l.length - i) (fun i => [some (.lst nl z (ensA l)), some (.lst nl' z' (ensA m)), none, some (.int .i64 i), none, none, none, none])
    (fun _ => []) (fun i => i ≤ l.length ∧ (l.map En.c).take i = (m.map En.c).take i) ?_ 0 ⟨by omega, by simp⟩ (by simp) rfl
  rintro i ⟨hi, hta⟩
  by_cases k : i < l.length
  · have kb : i < m.length := by omega
    have hg : l[i]? = some l[i] := List.getElem?_eq_getElem k
    have hg' : m[i]? = some m[i] := List.getElem?_eq_getElem kb
    obtain rfl : z = 6 := hz (by intro h; rw [h] at k; simp at k)
    obtain rfl : z' = 6 := hz' (by intro h; rw [h] at kb; simp at kb)
    have hx := hl _ (List.getElem_mem k)
    have hy := hm _ (List.getElem_mem kb)
    have hst : l[i].c = m[i].c → (l.map En.c).take (i + 1) = (m.map En.c).take (i + 1) := fun h => take_step hta (by simpa using k) (by simpa using kb) (by simpa using h)
    have hne : l[i].c ≠ m[i].c → l.map En.c ≠ m.map En.c := fun h e => h (by
      have h1 := congrArg (fun q => q[i]?) e
      simpa [hg, hg'] using h1)
    have hs := ansSameEv l[i].e m[i].e hx.e hy.e
    generalize l[i] = x at *
    generalize m[i] = y at *
    have hi2 : i + 1 ≤ l.length := k
    unfold evA Ev.cells at hs
    by_cases e1 : x.e.c = y.e.c
    · by_cases e2 : x.d = y.d
      · have hc : x.c = y.c := by unfold En.c; rw [e1, e2]
        simp only [e1, decide_true] at hs
        simp (config := { maxSteps := 1000000 }) (disch := omega) [-List.map_replicate, -List.map_set, -List.getD_eq_getElem?_getD, -getElem?_pos, -getElem?_neg, wrap_i64, le_strLim, le_sliceLim, le_buildLim, le_sliceLimI, Int.tmod_eq_emod_of_nonneg, Int.tdiv_eq_ediv_of_nonneg, omLe, omLeN, omLt, omLtN, omEq, omEqN, onLe, onLeN, onLt, onLtN, onEq, onEqN, hg, hg', enA, Ev.cells, e1, hs, e2]
        refine ⟨i + 1, ⟨hi2, ?_⟩, by omega, by omega⟩
        exact hst hc
      · have e2' : (x.d == y.d) = false := by rw [beq_eq_false_iff_ne]; exact e2
        have hc := hne (fun h => e2 (congrArg EntC.d h))
        simp only [e1, decide_true] at hs
        simp (config := { maxSteps := 1000000 }) (disch := omega) [-List.map_replicate, -List.map_set, -List.getD_eq_getElem?_getD, -getElem?_pos, -getElem?_neg, wrap_i64, le_strLim, le_sliceLim, le_buildLim, le_sliceLimI, Int.tmod_eq_emod_of_nonneg, Int.tdiv_eq_ediv_of_nonneg, omLe, omLeN, omLt, omLtN, omEq, omEqN, onLe, onLeN, onLt, onLtN, onEq, onEqN, hg, hg', enA, Ev.cells, e1, hs, e2', hc]
    · have hc := hne (fun h => e1 (congrArg EntC.c h))
      simp only [e1, decide_false] at hs
      simp (config := { maxSteps := 1000000 }) (disch := omega) [-List.map_replicate, -List.map_set, -List.getD_eq_getElem?_getD, -getElem?_pos, -getElem?_neg, wrap_i64, le_strLim, le_sliceLim, le_buildLim, le_sliceLimI, Int.tmod_eq_emod_of_nonneg, Int.tdiv_eq_ediv_of_nonneg, omLe, omLeN, omLt, omLtN, omEq, omEqN, onLe, onLeN, onLt, onLtN, onEq, onEqN, hg, hg', enA, Ev.cells, hs, hc]
  obtain rfl : i = l.length := by omega
  have e5 : l.map En.c = m.map En.c := by
    have h1 : (l.map En.c).take l.length = l.map En.c := List.take_of_length_le (by simp)
    have h2 : (m.map En.c).take l.length = m.map En.c := List.take_of_length_le (by simp; omega)
    rw [h1, h2] at hta
    exact hta
  simp (config := { maxSteps := 1000000 }) (disch := omega) [-List.map_replicate, -List.map_set, -List.getD_eq_getElem?_getD, -getElem?_pos, -getElem?_neg, wrap_i64, le_strLim, le_sliceLim, le_buildLim, le_sliceLimI, Int.tmod_eq_emod_of_nonneg, Int.tdiv_eq_ediv_of_nonneg, omLe, omLeN, omLt, omLtN, omEq, omEqN, onLe, onLeN, onLt, onLtN, onEq, onEqN, e5]

/-! ### Few -/

def many (c : EvC) : Prop := (((40 < c.nums.length ∧ c.nums.length ≤ 1024) ∨ 1025 < c.nums.length) ∨ (10 < c.texts.length ∧ c.texts.length ≤ 256)) ∨ 257 < c.texts.length
instance (c : EvC) : Decidable (many c) := by unfold many; exact inferInstance
def lots (t : Str) : Prop := (100 < t.length ∧ t.length ≤ 4096) ∨ 4097 < t.length
instance (t : Str) : Decidable (lots t) := by unfold lots; exact inferInstance
def fewC (c : EvC) : Bool := !decide (many c) && c.texts.all fun t => !decide (lots t)
theorem few_bounds {c : EvC} (h : fewC c = true) : c.nums.length ≤ 1025 ∧ c.texts.length ≤ 257 ∧ ∀ t ∈ c.texts, t.length ≤ 4097 := by
  simp only [fewC, Bool.and_eq_true, List.all_eq_true] at h
  have h1 : ¬ many c := fun hm => by simp [hm] at h
  have h2 : ∀ t ∈ c.texts, ¬ lots t := fun t ht hl => by have := h.2 t ht; simp [hl] at this
  unfold many at h1
  refine ⟨by omega, by omega, fun t ht => ?_⟩
  have := h2 t ht
  unfold lots at this
  omega

/-- what an event that came in is like -/
structure Ev.wide (e : Ev) : Prop where
  hz : e.c.nums ≠ [] → e.z = 1
  hz2 : e.c.texts ≠ [] → e.z2 = 1
  hn : e.c.nums.length ≤ 9223372036854775807
  ht : e.c.texts.length ≤ 9223372036854775807
theorem Ev.ok.wide {e : Ev} (h : e.ok) : e.wide := ⟨h.hz, h.hz2, by have := h.hn; omega, by have := h.ht; omega⟩
theorem ansFew (e : Ev) (ok : e.wide) : ansF cfg 11 [evA e] [] = some (.bool (fewC e.c), []) := by
  refine ans_of_wp fn11 low11 ?_
  obtain ⟨⟨id, day, kind, nums, texts⟩, nl, z, nl2, z2⟩ := e
  obtain ⟨hz, hz2, hn, ht⟩ := ok
  simp only at hz hz2 hn ht
  unfold evA Ev.cells
  simp only
  by_cases hm : many ⟨id, day, kind, nums, texts⟩
  · have hf : fewC ⟨id, day, kind, nums, texts⟩ = false := by simp [fewC, hm]
    rw [hf]
    unfold many at hm
    simp only at hm
    rcases hm with ((⟨h1, h2⟩ | h1) | ⟨h1, h2⟩) | h1
    · simp (config := { maxSteps := 1000000 }) (disch := omega) [-List.map_replicate, -List.map_set, -List.getD_eq_getElem?_getD, -getElem?_pos, -getElem?_neg, wrap_i64, le_strLim, le_sliceLim, le_buildLim, le_sliceLimI, Int.tmod_eq_emod_of_nonneg, Int.tdiv_eq_ediv_of_nonneg, omLe, omLeN, omLt, omLtN, omEq, omEqN, onLe, onLeN, onLt, onLtN, onEq, onEqN, ir11, h1, h2]
    · simp (config := { maxSteps := 1000000 }) (disch := omega) [-List.map_replicate, -List.map_set, -List.getD_eq_getElem?_getD, -getElem?_pos, -getElem?_neg, wrap_i64, le_strLim, le_sliceLim, le_buildLim, le_sliceLimI, Int.tmod_eq_emod_of_nonneg, Int.tdiv_eq_ediv_of_nonneg, omLe, omLeN, omLt, omLtN, omEq, omEqN, onLe, onLeN, onLt, onLtN, onEq, onEqN, ir11, h1]
    · simp (config := { maxSteps := 1000000 }) (disch := omega) [-List.map_replicate, -List.map_set, -List.getD_eq_getElem?_getD, -getElem?_pos, -getElem?_neg, wrap_i64, le_strLim, le_sliceLim, le_buildLim, le_sliceLimI, Int.tmod_eq_emod_of_nonneg, Int.tdiv_eq_ediv_of_nonneg, omLe, omLeN, omLt, omLtN, omEq, omEqN, onLe, onLeN, onLt, onLtN, onEq, onEqN, ir11, h1, h2]
    · simp (config := { maxSteps := 1000000 }) (disch := omega) [-List.map_replicate, -List.map_set, -List.getD_eq_getElem?_getD, -getElem?_pos, -getElem?_neg, wrap_i64, le_strLim, le_sliceLim, le_buildLim, le_sliceLimI, Int.tmod_eq_emod_of_nonneg, Int.tdiv_eq_ediv_of_nonneg, omLe, omLeN, omLt, omLtN, omEq, omEqN, onLe, onLeN, onLt, onLtN, onEq, onEqN, ir11, h1]
  have hf : fewC ⟨id, day, kind, nums, texts⟩ = texts.all fun t => !decide (lots t) := by simp [fewC, hm]
  rw [hf]
  unfold many at hm
  simp only at hm
  have hc : (40 < (nums.length : Int) ∧ (nums.length : Int) ≤ 1024) = False := by rw [eq_iff_iff, iff_false]; omega
  have hc' : (10 < (texts.length : Int) ∧ (texts.length : Int) ≤ 256) = False := by rw [eq_iff_iff, iff_false]; omega
  simp (config := { maxSteps := 1000000 }) (disch := omega) [-List.map_replicate, -List.map_set, -List.getD_eq_getElem?_getD, -getElem?_pos, -getElem?_neg, wrap_i64, le_strLim, le_sliceLim, le_buildLim, le_sliceLimI, Int.tmod_eq_emod_of_nonneg, Int.tdiv_eq_ediv_of_nonneg, omLe, omLeN, omLt, omLtN, omEq, omEqN, onLe, onLeN, onLt, onLtN, onEq, onEqN, ir11, hc, hc']
  refine Wp.loopM (fun (i : Nat) => texts.length - i) (fun i => [none, some (.ptr 0 0), none, some (.int .i64 i), none, none, none])
    (fun _ => [.var 25 [.int .i64 id, .int .i64 day, .int .i64 kind, .lst nl z (intsA nums), .lst nl2 z2 (strsA texts)]])
    (fun i => i ≤ texts.length ∧ ((texts.all fun t => !decide (lots t)) = ((texts.drop i).all fun t => !decide (lots t)))) ?_ 0 ⟨by omega, rfl⟩ (by simp) (by simp)
  rintro i ⟨hi, ha⟩
  by_cases k : i < texts.length
  · have hg : texts[i]? = some texts[i] := List.getElem?_eq_getElem k
    obtain rfl : z2 = 1 := hz2 (by intro h; rw [h] at k; simp at k)
    rw [List.drop_eq_getElem_cons k, List.all_cons] at ha
    generalize texts[i] = t at *
    have hi2 : i + 1 ≤ texts.length := k
    by_cases hl : lots t
    · have ha2 : (texts.all fun t => !decide (lots t)) = false := by rw [ha]; simp [hl]
      rw [ha2]
      unfold lots at hl
      rcases hl with ⟨h1, h2⟩ | h1
      · simp (config := { maxSteps := 1000000 }) (disch := omega) [-List.map_replicate, -List.map_set, -List.getD_eq_getElem?_getD, -getElem?_pos, -getElem?_neg, wrap_i64, le_strLim, le_sliceLim, le_buildLim, le_sliceLimI, Int.tmod_eq_emod_of_nonneg, Int.tdiv_eq_ediv_of_nonneg, omLe, omLeN, omLt, omLtN, omEq, omEqN, onLe, onLeN, onLt, onLtN, onEq, onEqN, hg, h1, h2]
      · simp (config := { maxSteps := 1000000 }) (disch := omega) [-List.map_replicate, -List.map_set, -List.getD_eq_getElem?_getD, -getElem?_pos, -getElem?_neg, wrap_i64, le_strLim, le_sliceLim, le_buildLim, le_sliceLimI, Int.tmod_eq_emod_of_nonneg, Int.tdiv_eq_ediv_of_nonneg, omLe, omLeN, omLt, omLtN, omEq, omEqN, onLe, onLeN, onLt, onLtN, onEq, onEqN, hg, h1]
    · have ha2 : (texts.all fun t => !decide (lots t)) = ((texts.drop (i + 1)).all fun t => !decide (lots t)) := by rw [ha]; simp [hl]
      rw [ha2]
      unfold lots at hl
      have hc2 : (100 < (t.length : Int) ∧ (t.length : Int) ≤ 4096) = False := by
        rw [eq_iff_iff, iff_false]
        omega
      simp (config := { maxSteps := 1000000 }) (disch := omega) [-List.map_replicate, -List.map_set, -List.getD_eq_getElem?_getD, -getElem?_pos, -getElem?_neg, wrap_i64, le_strLim, le_sliceLim, le_buildLim, le_sliceLimI, Int.tmod_eq_emod_of_nonneg, Int.tdiv_eq_ediv_of_nonneg, omLe, omLeN, omLt, omLtN, omEq, omEqN, onLe, onLeN, onLt, onLtN, onEq, onEqN, hg, hc2]
      exact ⟨i + 1, ⟨hi2, rfl⟩, by omega, by omega⟩
  · obtain rfl : i = texts.length := by omega
    rw [ha, List.drop_length]
    simp (config := { maxSteps := 1000000 }) (disch := omega) [-List.map_replicate, -List.map_set, -List.getD_eq_getElem?_getD, -getElem?_pos, -getElem?_neg, wrap_i64, le_strLim, le_sliceLim, le_buildLim, le_sliceLimI, Int.tmod_eq_emod_of_nonneg, Int.tdiv_eq_ediv_of_nonneg, omLe, omLeN, omLt, omLtN, omEq, omEqN, onLe, onLeN, onLt, onLtN, onEq, onEqN]
end Go.Proofs.YtfhfnehoaiegcaaGreatDoor

namespace Go.Proofs.YtfhfnehoaiegcaaGreatDoor
open Go.Am
set_option maxRecDepth 10000
set_option maxHeartbeats 8000000

/-- where a slice is empty, it is known not to be nil -/
def Ev.fine (e : Ev) : Prop := (e.c.nums = [] → e.nl = some false) ∧ (e.c.texts = [] → e.nl2 = some false)
theorem evCp_fine (c : EvC) : (evCp c).fine := ⟨fun h => by unfold evCp at *; simp only at h ⊢; rw [h]; rfl, fun h => by unfold evCp at *; simp only at h ⊢; rw [h]; rfl⟩

theorem ansCloneI (nl : Option Bool) (z : Nat) (l : List Int) (hz : l ≠ [] → z = 1) (hf : l = [] → nl = some false) (hn : (nl == some true) = false) (hlen : l.length < 1000000) : ansF cfg 85 [.lst nl z (intsA l)] [] = some (.lst (cpN l) (cpZ l) (intsA l), []) := by
  refine ans_of_wp fn85 low85 ?_
  cases l with
  | nil =>
    obtain rfl := hf rfl
    simp (config := { maxSteps := 1000000 }) (disch := omega) [-List.map_replicate, -List.map_set, -List.getD_eq_getElem?_getD, -getElem?_pos, -getElem?_neg, wrap_i64, le_strLim, le_sliceLim, le_buildLim, le_sliceLimI, Int.tmod_eq_emod_of_nonneg, Int.tdiv_eq_ediv_of_nonneg, omLe, omLeN, omLt, omLtN, omEq, omEqN, onLe, onLeN, onLt, onLtN, onEq, onEqN, ir85, cpN, cpZ, intsA]
  | cons n l =>
    obtain rfl : z = 1 := hz (by simp)
    simp only [List.length_cons] at hlen
    match nl, hn with
    | none, _ =>
      have hq : eqCell cfg (.slice 3) (.lst none 1 (.int .i64 n :: l.map (AV.int .i64))) (.lst (some true) 0 []) = some false := rfl
      simp (config := { maxSteps := 1000000 }) (disch := omega) [-List.map_replicate, -List.map_set, -List.getD_eq_getElem?_getD, -getElem?_pos, -getElem?_neg, wrap_i64, le_strLim, le_sliceLim, le_buildLim, le_sliceLimI, Int.tmod_eq_emod_of_nonneg, Int.tdiv_eq_ediv_of_nonneg, omLe, omLeN, omLt, omLtN, omEq, omEqN, onLe, onLeN, onLt, onLtN, onEq, onEqN, ir85, cpN, cpZ, intsA, -eqCell, hq]
    | some false, _ => simp (config := { maxSteps := 1000000 }) (disch := omega) [-List.map_replicate, -List.map_set, -List.getD_eq_getElem?_getD, -getElem?_pos, -getElem?_neg, wrap_i64, le_strLim, le_sliceLim, le_buildLim, le_sliceLimI, Int.tmod_eq_emod_of_nonneg, Int.tdiv_eq_ediv_of_nonneg, omLe, omLeN, omLt, omLtN, omEq, omEqN, onLe, onLeN, onLt, onLtN, onEq, onEqN, ir85, cpN, cpZ, intsA]
theorem ansCloneS (nl : Option Bool) (z : Nat) (l : List Str) (hz : l ≠ [] → z = 1) (hf : l = [] → nl = some false) (hn : (nl == some true) = false) (hlen : l.length < 1000000) : ansF cfg 86 [.lst nl z (strsA l)] [] = some (.lst (cpN l) (cpZ l) (strsA l), []) := by
  refine ans_of_wp fn86 low86 ?_
  cases l with
  | nil =>
    obtain rfl := hf rfl
    simp (config := { maxSteps := 1000000 }) (disch := omega) [-List.map_replicate, -List.map_set, -List.getD_eq_getElem?_getD, -getElem?_pos, -getElem?_neg, wrap_i64, le_strLim, le_sliceLim, le_buildLim, le_sliceLimI, Int.tmod_eq_emod_of_nonneg, Int.tdiv_eq_ediv_of_nonneg, omLe, omLeN, omLt, omLtN, omEq, omEqN, onLe, onLeN, onLt, onLtN, onEq, onEqN, ir86, cpN, cpZ, strsA]
  | cons n l =>
    obtain rfl : z = 1 := hz (by simp)
    simp only [List.length_cons] at hlen
    match nl, hn with
    | none, _ =>
      have hq : eqCell cfg (.slice 9) (.lst none 1 (.str n :: l.map AV.str)) (.lst (some true) 0 []) = some false := rfl
      simp (config := { maxSteps := 1000000 }) (disch := omega) [-List.map_replicate, -List.map_set, -List.getD_eq_getElem?_getD, -getElem?_pos, -getElem?_neg, wrap_i64, le_strLim, le_sliceLim, le_buildLim, le_sliceLimI, Int.tmod_eq_emod_of_nonneg, Int.tdiv_eq_ediv_of_nonneg, omLe, omLeN, omLt, omLtN, omEq, omEqN, onLe, onLeN, onLt, onLtN, onEq, onEqN, ir86, cpN, cpZ, strsA, -eqCell, hq]
    | some false, _ => simp (config := { maxSteps := 1000000 }) (disch := omega) [-List.map_replicate, -List.map_set, -List.getD_eq_getElem?_getD, -getElem?_pos, -getElem?_neg, wrap_i64, le_strLim, le_sliceLim, le_buildLim, le_sliceLimI, Int.tmod_eq_emod_of_nonneg, Int.tdiv_eq_ediv_of_nonneg, omLe, omLeN, omLt, omLtN, omEq, omEqN, onLe, onLeN, onLt, onLtN, onEq, onEqN, ir86, cpN, cpZ, strsA]

theorem ansEvent (e : Ev) (ok : e.ok) (hn : e.nn) (hf : e.fine) : ansF cfg 65 [evA e] [] = some (evA (evCp e.c), []) := by
  refine ans_of_wp fn65 low65 ?_
  have h1 := ansCloneI e.nl e.z e.c.nums ok.hz hf.1 hn.1 ok.hn
  have h2 := ansCloneS e.nl2 e.z2 e.c.texts ok.hz2 hf.2 hn.2 ok.ht
  unfold evA evCp Ev.cells
  simp only
  simp (config := { maxSteps := 1000000 }) (disch := omega) [-List.map_replicate, -List.map_set, -List.getD_eq_getElem?_getD, -getElem?_pos, -getElem?_neg, wrap_i64, le_strLim, le_sliceLim, le_buildLim, le_sliceLimI, Int.tmod_eq_emod_of_nonneg, Int.tdiv_eq_ediv_of_nonneg, omLe, omLeN, omLt, omLtN, omEq, omEqN, onLe, onLeN, onLt, onLtN, onEq, onEqN, ir65, h1, h2, splice]

structure En.good (x : En) : Prop where
  ok : x.ok
  fine : x.e.fine

def appE (L : List EntC) (c : EvC) : Int := if 1024 < L.length ∨ ¬ (chk none 0 L).2 = 0 then 1 else if ¬ fitE (lastE none L) c = 0 then fitE (lastE none L) c else if L.length = 1024 then 12 else 0
def appN (L : List EntC) (c : EvC) : List EntC := L ++ [⟨c, sealT (lastE none L) (encT c)⟩]
def appA (L : List EntC) (c : EvC) : AV := .tup [if appE L c = 0 then .lst none 6 (ensA (cps (appN L c))) else .lst (some true) 0 [], .int .i64 (appE L c)]

theorem ansAppP (nl : Option Bool) (z : Nat) (l : List En) (hz : l ≠ [] → z = 6) (hl : ∀ x ∈ l, x.good) (hlen : l.length < 100000) (e : Ev) (ok : e.ok) (hn : e.nn) (hf : e.fine) :
    ansF cfg 31 [.lst nl z (ensA l), evA e] [] = some (appA (l.map En.c) e.c, []) := by
  refine ans_of_wp fn31 low31 ?_
  have hC := ansChkP nl z l hz (fun x h => (hl x h).ok) hlen
  have hF := ansFitsP nl z l hz (fun x h => (hl x h).ok) hlen e ok
  have hev := ansEvent e ok hn hf
  have hll : (l.map En.c).length = l.length := by simp
  have hlast : lastE none (l.map En.c) = lastL l := rfl
  unfold evA Ev.cells at hF hev
  unfold evA Ev.cells appA appE
  rw [hlast, hll]
  unfold chkA at hC
  rw [hll] at hC
  unfold fitA at hF
  by_cases b0 : 1024 < l.length
  · simp only [b0, if_true, true_or] at hC ⊢
    simp (config := { maxSteps := 1000000 }) (disch := omega) [-List.map_replicate, -List.map_set, -List.getD_eq_getElem?_getD, -getElem?_pos, -getElem?_neg, wrap_i64, le_strLim, le_sliceLim, le_buildLim, le_sliceLimI, Int.tmod_eq_emod_of_nonneg, Int.tdiv_eq_ediv_of_nonneg, omLe, omLeN, omLt, omLtN, omEq, omEqN, onLe, onLeN, onLt, onLtN, onEq, onEqN, ir31, hC, splice]
  simp only [b0, if_false, false_or] at hC ⊢
  by_cases b1 : (chk none 0 (l.map En.c)).2 = 0
  case neg =>
    have b1' : ((chk none 0 (l.map En.c)).2 == 0) = false := by rw [beq_eq_false_iff_ne]; exact b1
    simp only [b1, not_false_eq_true, if_true]
    simp (config := { maxSteps := 1000000 }) (disch := omega) [-List.map_replicate, -List.map_set, -List.getD_eq_getElem?_getD, -getElem?_pos, -getElem?_neg, wrap_i64, le_strLim, le_sliceLim, le_buildLim, le_sliceLimI, Int.tmod_eq_emod_of_nonneg, Int.tdiv_eq_ediv_of_nonneg, omLe, omLeN, omLt, omLtN, omEq, omEqN, onLe, onLeN, onLt, onLtN, onEq, onEqN, ir31, hC, b1, b1', splice]
  simp only [b1, not_true_eq_false, if_false] at hC ⊢
  by_cases b2 : fitE (lastL l) e.c = 0
  case neg =>
    have b2' : (fitE (lastL l) e.c == 0) = false := by rw [beq_eq_false_iff_ne]; exact b2
    simp only [b2, if_false, not_false_eq_true, if_true] at hF ⊢
    simp (config := { maxSteps := 1000000 }) (disch := omega) [-List.map_replicate, -List.map_set, -List.getD_eq_getElem?_getD, -getElem?_pos, -getElem?_neg, wrap_i64, le_strLim, le_sliceLim, le_buildLim, le_sliceLimI, Int.tmod_eq_emod_of_nonneg, Int.tdiv_eq_ediv_of_nonneg, omLe, omLeN, omLt, omLtN, omEq, omEqN, onLe, onLeN, onLt, onLtN, onEq, onEqN, ir31, hC, hF, b2, b2', splice]
  simp only [b2, if_true, not_true_eq_false, if_false] at hF ⊢
  by_cases b3 : l.length = 1024
  · simp only [b3, if_true] at hC hF ⊢
    simp (config := { maxSteps := 1000000 }) (disch := omega) [-List.map_replicate, -List.map_set, -List.getD_eq_getElem?_getD, -getElem?_pos, -getElem?_neg, wrap_i64, le_strLim, le_sliceLim, le_buildLim, le_sliceLimI, Int.tmod_eq_emod_of_nonneg, Int.tdiv_eq_ediv_of_nonneg, omLe, omLeN, omLt, omLtN, omEq, omEqN, onLe, onLeN, onLt, onLtN, onEq, onEqN, ir31, hC, hF, b3, splice]
  simp only [b3, if_false, if_true]
  have hE0 : encE e.c = 0 := by
    unfold fitE at b2
    split at b2
    · rename_i h1; exact absurd b2 h1
    · rename_i h1; simpa using h1
  have hS := ansSealP nl z l hz (fun x h => (hl x h).ok) hlen (encT e.c) (by have := (enc_fine hE0).2.2.2.2; omega)
  simp (config := { maxSteps := 1000000 }) (disch := omega) [-List.map_replicate, -List.map_set, -List.getD_eq_getElem?_getD, -getElem?_pos, -getElem?_neg, wrap_i64, le_strLim, le_sliceLim, le_buildLim, le_sliceLimI, Int.tmod_eq_emod_of_nonneg, Int.tdiv_eq_ediv_of_nonneg, omLe, omLeN, omLt, omLtN, omEq, omEqN, onLe, onLeN, onLt, onLtN, onEq, onEqN, ir31, hC, hF, b3, splice]
  refine Wp.loopM (fun (i : Nat) => l.length - i) (fun i => [some (.lst nl z (ensA l)), none, some (.ptr 0 0), none, none, none, some (.str (encT e.c)), none, some (.osl 1 i), none, none, none, none, none, none, some (.lst nl z (ensA l)), some (.int .i64 l.length), some (.int .i64 i), none, none, none, none, none, none, none, none, none, none, none])
    (fun i => [.var 25 [.int .i64 e.c.id, .int .i64 e.c.day, .int .i64 e.c.kind, .lst e.nl e.z (intsA e.c.nums), .lst e.nl2 e.z2 (strsA e.c.texts)], .sl ⟨false, some 52⟩ 6 (ensA (cps ((l.take i).map En.c)))]) (fun i => i ≤ l.length) ?_ 0 (by omega) (by simp) (by simp [cps, ensA])
  intro i hi
  have hcl : (ensA (cps ((l.take i).map En.c))).length = i := by simp; omega
  by_cases k : i < l.length
  · have hg : l[i]? = some l[i] := List.getElem?_eq_getElem k
    obtain rfl : z = 6 := hz (by intro h; rw [h] at k; simp at k)
    have hx := hl _ (List.getElem_mem k)
    have hsn : ensA (cps ((l.take (i + 1)).map En.c)) = ensA (cps ((l.take i).map En.c)) ++ [enA (enCp l[i].c)] := by
      rw [take_succ k]
      unfold cps ensA
      rw [List.map_append, List.map_append, List.map_append]
      rfl
    have hc := ansEvent l[i].e hx.ok.e hx.ok.n hx.fine
    generalize l[i] = x at *
    generalize ensA (cps ((l.take i).map En.c)) = A at *
    have hi2 : i + 1 ≤ l.length := k
    unfold evA Ev.cells at hc
    simp (config := { maxSteps := 1000000 }) (disch := omega) [-List.map_replicate, -List.map_set, -List.getD_eq_getElem?_getD, -getElem?_pos, -getElem?_neg, wrap_i64, le_strLim, le_sliceLim, le_buildLim, le_sliceLimI, Int.tmod_eq_emod_of_nonneg, Int.tdiv_eq_ediv_of_nonneg, omLe, omLeN, omLt, omLtN, omEq, omEqN, onLe, onLeN, onLt, onLtN, onEq, onEqN, hg, enA, Ev.cells, hc, hcl, splice]
    refine ⟨i + 1, hi2, by omega, by omega, ?_⟩
    rw [← List.map_take, hsn]
    rfl
  · obtain rfl : i = l.length := by omega
    rw [List.take_length] at hcl ⊢
    have hfin : ensA (cps (appN (l.map En.c) e.c)) = ensA (cps (l.map En.c)) ++ [enA (enCp ⟨e.c, sealT (lastL l) (encT e.c)⟩)] := by
      unfold cps ensA appN
      rw [List.map_append, List.map_append]
      rfl
    rw [hfin]
    generalize ensA (cps (l.map En.c)) = A at *
    simp (config := { maxSteps := 1000000 }) (disch := omega) [-List.map_replicate, -List.map_set, -List.getD_eq_getElem?_getD, -getElem?_pos, -getElem?_neg, wrap_i64, le_strLim, le_sliceLim, le_buildLim, le_sliceLimI, Int.tmod_eq_emod_of_nonneg, Int.tdiv_eq_ediv_of_nonneg, omLe, omLeN, omLt, omLtN, omEq, omEqN, onLe, onLeN, onLt, onLtN, onEq, onEqN, hcl, hev, hS, enA, enCp, Ev.cells, splice]
end Go.Proofs.YtfhfnehoaiegcaaGreatDoor

namespace Go.Proofs.YtfhfnehoaiegcaaGreatDoor
open Go.Am
set_option maxRecDepth 10000
set_option maxHeartbeats 8000000

def evsA (l : List Ev) : List AV := l.map evA
@[simp] theorem evsA_length (l : List Ev) : (evsA l).length = l.length := by simp [evsA]
@[simp] theorem evsA_nil (l : List Ev) : evsA l = [] ↔ l = [] := by simp [evsA]
@[simp] theorem evsA_get (l : List Ev) (i : Nat) : (evsA l)[i]? = (l[i]?).map evA := by simp [evsA]
@[simp] theorem evsA_plain (l : List Ev) : plainAll (evsA l) = true := plainAll_map (fun x => by simp [evA, Ev.cells, AV.plain, plainAll]) l

/-- one event more, if it can be appended -/
def bld1 (L : List EntC) (c : EvC) : List EntC := if appE L c = 0 then appN L c else L
def bldF (L : List EntC) (es : List EvC) : List EntC := es.foldl bld1 L

theorem appE_ok {L : List EntC} {c : EvC} (h : appE L c = 0) : L.length < 1024 ∧ right none L ∧ fitE (lastE none L) c = 0 := by
  unfold appE at h
  split at h
  · cases h
  · rename_i h1
    split at h
    · rename_i h2; exact absurd h h2
    · rename_i h2
      split at h
      · cases h
      · rename_i h3
        simp only [not_or, Decidable.not_not] at h1 h2
        exact ⟨by omega, chk_right.1 h1.2, h2⟩
theorem appN_right {L : List EntC} {c : EvC} (h : appE L c = 0) : right none (appN L c) := by
  obtain ⟨_, h2, h3⟩ := appE_ok h
  unfold appN
  rw [right_app]
  exact ⟨h2, ent_0 h3 rfl, trivial⟩
theorem bld1_right {L : List EntC} (h : right none L) (c : EvC) : right none (bld1 L c) := by
  unfold bld1
  split
  · rename_i h1; exact appN_right h1
  · exact h
theorem bldF_right : ∀ (es : List EvC) {L : List EntC}, right none L → right none (bldF L es)
  | [], L, h => h
  | c :: es, L, h => bldF_right es (bld1_right h c)
theorem bld1_len (L : List EntC) (c : EvC) : (bld1 L c).length ≤ L.length + 1 := by
  unfold bld1 appN
  split <;> simp
theorem bldF_len : ∀ (es : List EvC) (L : List EntC), (bldF L es).length ≤ L.length + es.length
  | [], L => by simp [bldF]
  | c :: es, L => by
    have h1 := bldF_len es (bld1 L c)
    have h2 := bld1_len L c
    have e : bldF L (c :: es) = bldF (bld1 L c) es := rfl
    rw [e]
    simp only [List.length_cons]
    omega

theorem sum_length (t : Str) : (sumP t).length = 32 := by
  unfold sumP Hash.sum
  have : ∀ s n, (outN s n).length = n := by
    intro s n
    induction n with
    | zero => rfl
    | succ n ih => simp [outN, ih]
  exact this _ 32
/-- what a right journal's entries are bounded by -/
theorem right_good : ∀ {L : List EntC} {p : Option EntC}, right p L → ∀ x ∈ cps L, x.good
  | [], _, _, x, hx => by simp [cps] at hx
  | y :: L, p, h, x, hx => by
    have e : cps (y :: L) = enCp y :: cps L := rfl
    rw [e] at hx
    rcases List.mem_cons.1 hx with rfl | hx
    · obtain ⟨h1, _, h3⟩ := ent_fine h.1
      have hf := enc_fine h1
      refine ⟨⟨evCp_ok (by omega) (by omega), evCp_nn _, ?_⟩, evCp_fine _⟩
      show y.d.length < 100000
      rw [h3]
      unfold sealT
      rw [sum_length]
      omega
    · exact right_good h.2 x hx
def bN {α : Type} : List α → Option Bool
  | [] => some true
  | _ => none
def bZ {α : Type} : List α → Nat
  | [] => 0
  | _ => 6
theorem bZ_ne {α : Type} {l : List α} (h : l ≠ []) : bZ l = 6 := by cases l with
  | nil => exact absurd rfl h
  | cons a l => rfl
theorem evCp_c (c : EvC) : (evCp c).c = c := rfl
theorem intsA_0 : intsA [] = [] := rfl
theorem strsA_0 : strsA [] = [] := rfl
theorem bNZ_app (L : List EntC) (c : EvC) : bN (appN L c) = none ∧ bZ (appN L c) = 6 := by
  unfold appN
  cases L <;> exact ⟨rfl, rfl⟩

theorem ansBuild (nl : Option Bool) (z : Nat) (l : List Ev) (hz : l ≠ [] → z = 5) (hl : ∀ x ∈ l, x.ok) (hlen : l.length < 1000) :
    ansF cfg 28 [.lst nl z (evsA l)] [] = some (.lst (bN (bldF [] (l.map (·.c)))) (bZ (bldF [] (l.map (·.c)))) (ensA (cps (bldF [] (l.map (·.c))))), []) := by
  refine ans_of_wp fn28 low28 ?_
  simp (config := { maxSteps := 1000000 }) (disch := omega) [-List.map_replicate, -List.map_set, -List.getD_eq_getElem?_getD, -getElem?_pos, -getElem?_neg, wrap_i64, le_strLim, le_sliceLim, le_buildLim, le_sliceLimI, Int.tmod_eq_emod_of_nonneg, Int.tdiv_eq_ediv_of_nonneg, omLe, omLeN, omLt, omLtN, omEq, omEqN, onLe, onLeN, onLt, onLtN, onEq, onEqN, ir28]
  refine Wp.loopM (fun (a : Nat × List EntC) => l.length - a.1) (fun a => [none, none, some (.lst (bN a.2) (bZ a.2) (ensA (cps a.2))), none, none, none, some (.lst nl z (evsA l)), some (.int .i64 l.length), some (.int .i64 a.1), none, none, none, none, none, none])
    (fun _ => []) (fun a => (a.1 ≤ l.length ∧ right none a.2 ∧ a.2.length ≤ a.1) ∧ bldF [] (l.map (·.c)) = bldF a.2 ((l.map (·.c)).drop a.1)) ?_ (0, []) ⟨⟨by simp, trivial, by simp⟩, rfl⟩ (by simp [bN, bZ, cps, ensA]) rfl
  rintro ⟨i, L⟩ ⟨⟨hi, hr, hL⟩, hb⟩
  simp only at hi hr hL hb ⊢
  by_cases k : i < l.length
  · have hg : l[i]? = some l[i] := List.getElem?_eq_getElem k
    obtain rfl : z = 5 := hz (by intro h; rw [h] at k; simp at k)
    have hx := hl _ (List.getElem_mem k)
    have hd : (l.map (·.c)).drop i = l[i].c :: (l.map (·.c)).drop (i + 1) := by
      rw [List.drop_eq_getElem_cons (by simpa using k)]
      simp
    rw [hd] at hb
    have hgood := right_good hr
    have hcp := ansCopyL (bN L) (bZ L) (cps L) (fun h => bZ_ne (by intro e; rw [e] at h; exact h rfl)) (fun x h => (hgood x h).ok) (by simp; omega)
    rw [cps_c] at hcp
    generalize l[i] = x at *
    have hce := fun nl z nl2 z2 (h : (⟨x.c, nl, z, nl2, z2⟩ : Ev).ok) => ansCopyEv ⟨x.c, nl, z, nl2, z2⟩ h
    have hok := evCp_ok (c := x.c) hx.hn hx.ht
    have ha := ansAppP none 6 (cps L) (fun _ => rfl) hgood (by simp; omega) (evCp x.c) hok (evCp_nn _) (evCp_fine _)
    rw [cps_c] at ha
    have hstep : bldF L (x.c :: (l.map (·.c)).drop (i + 1)) = bldF (bld1 L x.c) ((l.map (·.c)).drop (i + 1)) := rfl
    rw [hstep] at hb
    have hr2 := bld1_right hr x.c
    have hl2 := bld1_len L x.c
    have hi2 : i + 1 ≤ l.length := k
    have hnz := bNZ_app L x.c
    unfold appA at ha
    unfold bld1 at hb hr2 hl2
    obtain ⟨⟨id, day, kind, nums, texts⟩, xn, xz, xn2, xz2⟩ := x
    obtain ⟨q1, q2, q3, q4⟩ := hx
    simp only at q1 q2 q3 q4 hce ha hb hr2 hl2
    unfold evA Ev.cells at hce ha
    simp only [evCp_c] at hce ha
    by_cases A : xn = some true ∧ nums = []
    · obtain ⟨rfl, rfl⟩ := A
      by_cases B : xn2 = some true ∧ texts = []
      · obtain ⟨rfl, rfl⟩ := B
        have hc := hce none 1 none 1 ⟨fun h => absurd rfl h, fun h => absurd rfl h, by simp, by simp⟩
        try simp only [intsA_0, strsA_0] at hc ha
        by_cases ap : appE L ⟨id, day, kind, [], []⟩ = 0
        · simp only [ap, if_true] at ha hb hr2 hl2
          simp (config := { maxSteps := 1000000 }) (disch := omega) [-List.map_replicate, -List.map_set, -List.getD_eq_getElem?_getD, -getElem?_pos, -getElem?_neg, wrap_i64, le_strLim, le_sliceLim, le_buildLim, le_sliceLimI, Int.tmod_eq_emod_of_nonneg, Int.tdiv_eq_ediv_of_nonneg, omLe, omLeN, omLt, omLtN, omEq, omEqN, onLe, onLeN, onLt, onLtN, onEq, onEqN, hg, evA, Ev.cells, hcp, hc, ha, splice, intsA_nil]
          refine ⟨i + 1, _, ⟨⟨hi2, hr2, by omega⟩, hb⟩, by omega, ?_⟩
          simp [hnz]
        · simp only [ap, if_false] at ha hb hr2 hl2
          have ap' : (appE L ⟨id, day, kind, [], []⟩ == 0) = false := by rw [beq_eq_false_iff_ne]; exact ap
          simp (config := { maxSteps := 1000000 }) (disch := omega) [-List.map_replicate, -List.map_set, -List.getD_eq_getElem?_getD, -getElem?_pos, -getElem?_neg, wrap_i64, le_strLim, le_sliceLim, le_buildLim, le_sliceLimI, Int.tmod_eq_emod_of_nonneg, Int.tdiv_eq_ediv_of_nonneg, omLe, omLeN, omLt, omLtN, omEq, omEqN, onLe, onLeN, onLt, onLtN, onEq, onEqN, hg, evA, Ev.cells, hcp, hc, ha, splice, ap, ap', intsA_nil]
          refine ⟨i + 1, _, ⟨⟨hi2, hr2, by omega⟩, hb⟩, by omega, ?_⟩
          simp
      · have hc := hce none 1 xn2 xz2 ⟨fun h => absurd rfl h, q2, by simp, q4⟩
        try simp only [intsA_0, strsA_0] at hc ha
        by_cases ap : appE L ⟨id, day, kind, [], texts⟩ = 0
        · simp only [ap, if_true] at ha hb hr2 hl2
          simp (config := { maxSteps := 1000000 }) (disch := omega) [-List.map_replicate, -List.map_set, -List.getD_eq_getElem?_getD, -getElem?_pos, -getElem?_neg, wrap_i64, le_strLim, le_sliceLim, le_buildLim, le_sliceLimI, Int.tmod_eq_emod_of_nonneg, Int.tdiv_eq_ediv_of_nonneg, omLe, omLeN, omLt, omLtN, omEq, omEqN, onLe, onLeN, onLt, onLtN, onEq, onEqN, hg, evA, Ev.cells, hcp, hc, ha, splice, intsA_nil, B]
          refine ⟨i + 1, _, ⟨⟨hi2, hr2, by omega⟩, hb⟩, by omega, ?_⟩
          simp [hnz]
        · simp only [ap, if_false] at ha hb hr2 hl2
          have ap' : (appE L ⟨id, day, kind, [], texts⟩ == 0) = false := by rw [beq_eq_false_iff_ne]; exact ap
          simp (config := { maxSteps := 1000000 }) (disch := omega) [-List.map_replicate, -List.map_set, -List.getD_eq_getElem?_getD, -getElem?_pos, -getElem?_neg, wrap_i64, le_strLim, le_sliceLim, le_buildLim, le_sliceLimI, Int.tmod_eq_emod_of_nonneg, Int.tdiv_eq_ediv_of_nonneg, omLe, omLeN, omLt, omLtN, omEq, omEqN, onLe, onLeN, onLt, onLtN, onEq, onEqN, hg, evA, Ev.cells, hcp, hc, ha, splice, ap, ap', intsA_nil, B]
          refine ⟨i + 1, _, ⟨⟨hi2, hr2, by omega⟩, hb⟩, by omega, ?_⟩
          simp
    · by_cases B : xn2 = some true ∧ texts = []
      · obtain ⟨rfl, rfl⟩ := B
        have hc := hce xn xz none 1 ⟨q1, fun h => absurd rfl h, q3, by simp⟩
        try simp only [intsA_0, strsA_0] at hc ha
        by_cases ap : appE L ⟨id, day, kind, nums, []⟩ = 0
        · simp only [ap, if_true] at ha hb hr2 hl2
          simp (config := { maxSteps := 1000000 }) (disch := omega) [-List.map_replicate, -List.map_set, -List.getD_eq_getElem?_getD, -getElem?_pos, -getElem?_neg, wrap_i64, le_strLim, le_sliceLim, le_buildLim, le_sliceLimI, Int.tmod_eq_emod_of_nonneg, Int.tdiv_eq_ediv_of_nonneg, omLe, omLeN, omLt, omLtN, omEq, omEqN, onLe, onLeN, onLt, onLtN, onEq, onEqN, hg, evA, Ev.cells, hcp, hc, ha, splice, intsA_nil, A]
          refine ⟨i + 1, _, ⟨⟨hi2, hr2, by omega⟩, hb⟩, by omega, ?_⟩
          simp [hnz]
        · simp only [ap, if_false] at ha hb hr2 hl2
          have ap' : (appE L ⟨id, day, kind, nums, []⟩ == 0) = false := by rw [beq_eq_false_iff_ne]; exact ap
          simp (config := { maxSteps := 1000000 }) (disch := omega) [-List.map_replicate, -List.map_set, -List.getD_eq_getElem?_getD, -getElem?_pos, -getElem?_neg, wrap_i64, le_strLim, le_sliceLim, le_buildLim, le_sliceLimI, Int.tmod_eq_emod_of_nonneg, Int.tdiv_eq_ediv_of_nonneg, omLe, omLeN, omLt, omLtN, omEq, omEqN, onLe, onLeN, onLt, onLtN, onEq, onEqN, hg, evA, Ev.cells, hcp, hc, ha, splice, ap, ap', intsA_nil, A]
          refine ⟨i + 1, _, ⟨⟨hi2, hr2, by omega⟩, hb⟩, by omega, ?_⟩
          simp
      · have hc := hce xn xz xn2 xz2 ⟨q1, q2, q3, q4⟩
        try simp only [intsA_0, strsA_0] at hc ha
        by_cases ap : appE L ⟨id, day, kind, nums, texts⟩ = 0
        · simp only [ap, if_true] at ha hb hr2 hl2
          simp (config := { maxSteps := 1000000 }) (disch := omega) [-List.map_replicate, -List.map_set, -List.getD_eq_getElem?_getD, -getElem?_pos, -getElem?_neg, wrap_i64, le_strLim, le_sliceLim, le_buildLim, le_sliceLimI, Int.tmod_eq_emod_of_nonneg, Int.tdiv_eq_ediv_of_nonneg, omLe, omLeN, omLt, omLtN, omEq, omEqN, onLe, onLeN, onLt, onLtN, onEq, onEqN, hg, evA, Ev.cells, hcp, hc, ha, splice, intsA_nil, A, B]
          refine ⟨i + 1, _, ⟨⟨hi2, hr2, by omega⟩, hb⟩, by omega, ?_⟩
          simp [hnz]
        · simp only [ap, if_false] at ha hb hr2 hl2
          have ap' : (appE L ⟨id, day, kind, nums, texts⟩ == 0) = false := by rw [beq_eq_false_iff_ne]; exact ap
          simp (config := { maxSteps := 1000000 }) (disch := omega) [-List.map_replicate, -List.map_set, -List.getD_eq_getElem?_getD, -getElem?_pos, -getElem?_neg, wrap_i64, le_strLim, le_sliceLim, le_buildLim, le_sliceLimI, Int.tmod_eq_emod_of_nonneg, Int.tdiv_eq_ediv_of_nonneg, omLe, omLeN, omLt, omLtN, omEq, omEqN, onLe, onLeN, onLt, onLtN, onEq, onEqN, hg, evA, Ev.cells, hcp, hc, ha, splice, ap, ap', intsA_nil, A, B]
          refine ⟨i + 1, _, ⟨⟨hi2, hr2, by omega⟩, hb⟩, by omega, ?_⟩
          simp
  · obtain rfl : i = l.length := by omega
    rw [List.drop_of_length_le (by simp)] at hb
    rw [hb]
    simp (config := { maxSteps := 1000000 }) (disch := omega) [-List.map_replicate, -List.map_set, -List.getD_eq_getElem?_getD, -getElem?_pos, -getElem?_neg, wrap_i64, le_strLim, le_sliceLim, le_buildLim, le_sliceLimI, Int.tmod_eq_emod_of_nonneg, Int.tdiv_eq_ediv_of_nonneg, omLe, omLeN, omLt, omLtN, omEq, omEqN, onLe, onLeN, onLt, onLtN, onEq, onEqN, bldF]
end Go.Proofs.YtfhfnehoaiegcaaGreatDoor

namespace Go.Proofs.YtfhfnehoaiegcaaGreatDoor
open Go.Am
set_option maxRecDepth 10000
set_option maxHeartbeats 8000000

theorem ansNotFew (e : Ev) (ok : e.wide) : ansF cfg 59 [evA e] [] = some (.bool (!fewC e.c), []) := by
  refine ans_of_wp fn59 low59 ?_
  have h := ansFew e ok
  unfold evA Ev.cells at *
  simp (config := { maxSteps := 1000000 }) (disch := omega) [-List.map_replicate, -List.map_set, -List.getD_eq_getElem?_getD, -getElem?_pos, -getElem?_neg, wrap_i64, le_strLim, le_sliceLim, le_buildLim, le_sliceLimI, Int.tmod_eq_emod_of_nonneg, Int.tdiv_eq_ediv_of_nonneg, omLe, omLeN, omLt, omLtN, omEq, omEqN, onLe, onLeN, onLt, onLtN, onEq, onEqN, ir59, h]
theorem ansIndexEv (nl : Option Bool) (z : Nat) (l : List Ev) (hz : l ≠ [] → z = 5) (hl : ∀ x ∈ l, x.wide) (hlen : l.length ≤ 9223372036854775807) : ansF cfg 82 [.lst nl z (evsA l), .fn 59 [] []] [] = some (.int .i64 (idxP (fun e : Ev => !fewC e.c) l 0), []) := by
  refine ans_of_wp fn82 low82 ?_
  simp (config := { maxSteps := 1000000 }) (disch := omega) [-List.map_replicate, -List.map_set, -List.getD_eq_getElem?_getD, -getElem?_pos, -getElem?_neg, wrap_i64, le_strLim, le_sliceLim, le_buildLim, le_sliceLimI, Int.tmod_eq_emod_of_nonneg, Int.tdiv_eq_ediv_of_nonneg, omLe, omLeN, omLt, omLtN, omEq, omEqN, onLe, onLeN, onLt, onLtN, onEq, onEqN, ir82]
  refine Wp.loopM (fun (i : Nat) => l.length - i) (fun i => [some (.lst nl z (evsA l)), some (.fn 59 [] []), none, none, some (.int .i64 l.length), some (.int .i64 i), none, none]) (fun _ => []) (fun i => i ≤ l.length ∧ idxP (fun e : Ev => !fewC e.c) l 0 = idxP (fun e : Ev => !fewC e.c) (l.drop i) i) ?_ 0 ⟨by omega, by simp⟩ (by simp) rfl
  rintro i ⟨hi, hx⟩
  by_cases h1 : i < l.length
  · have hg : l[i]? = some l[i] := List.getElem?_eq_getElem h1
    obtain rfl : z = 5 := hz (by intro h; rw [h] at h1; simp at h1)
    have hok := hl _ (List.getElem_mem h1)
    rw [idxP_drop _ h1] at hx
    rw [hx]
    have hf := ansNotFew l[i] hok
    generalize l[i] = n at *
    unfold evA Ev.cells at hf
    have hi2 : i + 1 ≤ l.length := h1
    cases h2 : fewC n.c with
    | false =>
      rw [h2] at hf
      simp (config := { maxSteps := 1000000 }) (disch := omega) [-List.map_replicate, -List.map_set, -List.getD_eq_getElem?_getD, -getElem?_pos, -getElem?_neg, wrap_i64, le_strLim, le_sliceLim, le_buildLim, le_sliceLimI, Int.tmod_eq_emod_of_nonneg, Int.tdiv_eq_ediv_of_nonneg, omLe, omLeN, omLt, omLtN, omEq, omEqN, onLe, onLeN, onLt, onLtN, onEq, onEqN, hg, evA, Ev.cells, hf]
    | true =>
      rw [h2] at hf hx
      simp only [Bool.not_true, Bool.false_eq_true, if_false] at hf hx
      simp (config := { maxSteps := 1000000 }) (disch := omega) [-List.map_replicate, -List.map_set, -List.getD_eq_getElem?_getD, -getElem?_pos, -getElem?_neg, wrap_i64, le_strLim, le_sliceLim, le_buildLim, le_sliceLimI, Int.tmod_eq_emod_of_nonneg, Int.tdiv_eq_ediv_of_nonneg, omLe, omLeN, omLt, omLtN, omEq, omEqN, onLe, onLeN, onLt, onLtN, onEq, onEqN, hg, evA, Ev.cells, hf]
      exact ⟨i + 1, ⟨hi2, rfl⟩, by omega, by omega⟩
  · obtain rfl : i = l.length := by omega
    rw [hx, List.drop_length]
    simp (config := { maxSteps := 1000000 }) (disch := omega) [-List.map_replicate, -List.map_set, -List.getD_eq_getElem?_getD, -getElem?_pos, -getElem?_neg, wrap_i64, le_strLim, le_sliceLim, le_buildLim, le_sliceLimI, Int.tmod_eq_emod_of_nonneg, Int.tdiv_eq_ediv_of_nonneg, omLe, omLeN, omLt, omLtN, omEq, omEqN, onLe, onLeN, onLt, onLtN, onEq, onEqN, idxP]
def fewAll (l : List EvC) : Bool := decide (l.length ≤ 20) && l.all fewC
theorem fewAll_spec {l : List EvC} (h : fewAll l = true) : l.length ≤ 20 ∧ ∀ c ∈ l, fewC c = true := by
  simp only [fewAll, Bool.and_eq_true, decide_eq_true_eq, List.all_eq_true] at h
  exact h
theorem ansFewAll (nl : Option Bool) (z : Nat) (l : List Ev) (hz : l ≠ [] → z = 5) (hl : ∀ x ∈ l, x.wide) (hlen : l.length ≤ 9223372036854775807) : ansF cfg 27 [.lst nl z (evsA l)] [] = some (.bool (fewAll (l.map (·.c))), []) := by
  have h1 : ansF cfg 58 [.lst nl z (evsA l), .fn 59 [] []] [] = some (.bool (l.any fun e : Ev => !fewC e.c), []) := by
    refine ans_of_wp fn58 low58 ?_
    have h := ansIndexEv nl z l hz hl hlen
    obtain ⟨h1, h2, h3⟩ := idxP_any (fun e : Ev => !fewC e.c) l 0
    generalize idxP (fun e : Ev => !fewC e.c) l 0 = k at *
    cases ha : l.any (fun e : Ev => !fewC e.c) with
    | true =>
      have := h1.2 ha
      simp (config := { maxSteps := 1000000 }) (disch := omega) [-List.map_replicate, -List.map_set, -List.getD_eq_getElem?_getD, -getElem?_pos, -getElem?_neg, wrap_i64, le_strLim, le_sliceLim, le_buildLim, le_sliceLimI, Int.tmod_eq_emod_of_nonneg, Int.tdiv_eq_ediv_of_nonneg, omLe, omLeN, omLt, omLtN, omEq, omEqN, onLe, onLeN, onLt, onLtN, onEq, onEqN, ir58, h]
    | false =>
      have : ¬ 0 ≤ k := fun hk => by have := h1.1 hk; rw [ha] at this; cases this
      simp (config := { maxSteps := 1000000 }) (disch := omega) [-List.map_replicate, -List.map_set, -List.getD_eq_getElem?_getD, -getElem?_pos, -getElem?_neg, wrap_i64, le_strLim, le_sliceLim, le_buildLim, le_sliceLimI, Int.tmod_eq_emod_of_nonneg, Int.tdiv_eq_ediv_of_nonneg, omLe, omLeN, omLt, omLtN, omEq, omEqN, onLe, onLeN, onLt, onLtN, onEq, onEqN, ir58, h]
  refine ans_of_wp fn27 low27 ?_
  have hA : fewAll (l.map (·.c)) = (decide (l.length ≤ 20) && !(l.any fun e : Ev => !fewC e.c)) := by
    unfold fewAll
    congr 1
    · simp
    · rw [List.all_map, List.all_eq_not_any_not]
      rfl
  rw [hA]
  by_cases h20 : l.length ≤ 20
  · simp (config := { maxSteps := 1000000 }) (disch := omega) [-List.map_replicate, -List.map_set, -List.getD_eq_getElem?_getD, -getElem?_pos, -getElem?_neg, wrap_i64, le_strLim, le_sliceLim, le_buildLim, le_sliceLimI, Int.tmod_eq_emod_of_nonneg, Int.tdiv_eq_ediv_of_nonneg, omLe, omLeN, omLt, omLtN, omEq, omEqN, onLe, onLeN, onLt, onLtN, onEq, onEqN, ir27, h20, h1]
  · simp (config := { maxSteps := 1000000 }) (disch := omega) [-List.map_replicate, -List.map_set, -List.getD_eq_getElem?_getD, -getElem?_pos, -getElem?_neg, wrap_i64, le_strLim, le_sliceLim, le_buildLim, le_sliceLimI, Int.tmod_eq_emod_of_nonneg, Int.tdiv_eq_ediv_of_nonneg, omLe, omLeN, omLt, omLtN, omEq, omEqN, onLe, onLeN, onLt, onLtN, onEq, onEqN, ir27, h20, h1]
end Go.Proofs.YtfhfnehoaiegcaaGreatDoor
