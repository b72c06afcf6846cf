/-
  Write of the program. Plain laws of journals that are built, written, torn or damaged.
-/
import Derived.Test.YtfhfnehoaiegcaaGreatDoorChkM
set_option linter.all false
namespace Go.Proofs.YtfhfnehoaiegcaaGreatDoor
open Go.Am
set_option maxRecDepth 10000
set_option maxHeartbeats 8000000

theorem u8_wrap (n : Nat) : IntKind.u8.wrap (n : Int) = ((UInt8.ofNat n).toNat : Int) := by
  simp only [IntKind.wrap, IntKind.bits, IntKind.signed, Bool.false_and, Bool.false_eq_true, if_false, UInt8.toNat_ofNat']
  omega
theorem u8_shift (n k : Nat) (hk : k ≤ 24) : IntKind.u8.wrap ((n : Int).fdiv (2 ^ min k IntKind.i64.bits)) = ((UInt8.ofNat (n / 2 ^ k)).toNat : Int) := by
  have e : min k IntKind.i64.bits = k := Nat.min_eq_left (by simp only [IntKind.bits]; omega)
  rw [e, Int.fdiv_eq_ediv_of_nonneg _ (by have : (0 : Int) < 2 ^ k := Int.pow_pos (by decide)
                                          omega)]
  have h : ((n : Int) / 2 ^ k) = ((n / 2 ^ k : Nat) : Int) := by norm_cast
  rw [h]
  exact u8_wrap _
theorem be4_bytes (n : Nat) : (be4 n).map ofByte = [.int .u8 (IntKind.u8.wrap ((n : Int).fdiv (2 ^ min 24 IntKind.i64.bits))), .int .u8 (IntKind.u8.wrap ((n : Int).fdiv (2 ^ min 16 IntKind.i64.bits))), .int .u8 (IntKind.u8.wrap ((n : Int).fdiv (2 ^ min 8 IntKind.i64.bits))), .int .u8 (IntKind.u8.wrap (n : Int))] := by
  rw [u8_shift n 24 (by omega), u8_shift n 16 (by omega), u8_shift n 8 (by omega), u8_wrap]
  rfl

theorem right_take {p : Option EntC} {L : List EntC} (h : right p L) (i : Nat) : right p (L.take i) := by
  rw [← List.take_append_drop i L, right_app] at h
  exact h.1
theorem wr_len : ∀ (L : List EntC) (p : Option EntC), right p L → (∀ x ∈ L, x.d.length ≤ 100) → (wr L).length ≤ L.length * 65640
  | [], _, _, _ => by simp [wr]
  | x :: L, p, h, hd => by
    have ih := wr_len L (some x) h.2 (fun y hy => hd y (List.mem_cons_of_mem _ hy))
    have h1 := (enc_fine (ent_fine h.1).1).2.2.2.2
    have h2 := hd x List.mem_cons_self
    have hb : (be4 (encT x.c).length).length = 4 := rfl
    rw [wr_cons, List.length_append]
    unfold wr1
    simp only [List.length_append, List.length_cons, hb]
    omega

def wrA (L : List EntC) : AV := if 1024 < L.length ∨ ¬ (chk none 0 L).2 = 0 then .tup [.str [], .int .i64 1] else .tup [.str (wr L), .int .i64 0]

theorem ansWrP (nl : Option Bool) (z : Nat) (l : List En) (hz : l ≠ [] → z = 6) (hl : ∀ x ∈ l, x.ok) (hd : ∀ x ∈ l, x.d.length ≤ 100) (hlen : l.length < 100000) : ansF cfg 19 [.lst nl z (ensA l)] [] = some (wrA (l.map En.c), []) := by
  refine ans_of_wp fn19 low19 ?_
  have hC := ansChkP nl z l hz hl hlen
  have hll : (l.map En.c).length = l.length := by simp
  unfold chkA at hC
  unfold wrA
  rw [hll] at hC ⊢
  by_cases b0 : 1024 < l.length
  · simp only [b0, if_true, true_or] at hC ⊢
    simp (config := { maxSteps := 1000000 }) (disch := omega) [-List.map_replicate, -List.map_set, -List.getD_eq_getElem?_getD, -getElem?_pos, -getElem?_neg, wrap_i64, le_strLim, le_sliceLim, le_buildLim, le_sliceLimI, Int.tmod_eq_emod_of_nonneg, Int.tdiv_eq_ediv_of_nonneg, omLe, omLeN, omLt, omLtN, omEq, omEqN, onLe, onLeN, onLt, onLtN, onEq, onEqN, ir19, hC]
  simp only [b0, if_false, false_or] at hC ⊢
  by_cases b1 : (chk none 0 (l.map En.c)).2 = 0
  case neg =>
    have b1' : ((chk none 0 (l.map En.c)).2 == 0) = false := by rw [beq_eq_false_iff_ne]; exact b1
    simp only [b1, not_false_eq_true, if_true]
    simp (config := { maxSteps := 1000000 }) (disch := omega) [-List.map_replicate, -List.map_set, -List.getD_eq_getElem?_getD, -getElem?_pos, -getElem?_neg, wrap_i64, le_strLim, le_sliceLim, le_buildLim, le_sliceLimI, Int.tmod_eq_emod_of_nonneg, Int.tdiv_eq_ediv_of_nonneg, omLe, omLeN, omLt, omLtN, omEq, omEqN, onLe, onLeN, onLt, onLtN, onEq, onEqN, ir19, hC, b1, b1']
  have hr := chk_right.1 b1
  simp only [b1, not_true_eq_false, if_false] at hC ⊢
  simp (config := { maxSteps := 1000000 }) (disch := omega) [-List.map_replicate, -List.map_set, -List.getD_eq_getElem?_getD, -getElem?_pos, -getElem?_neg, wrap_i64, le_strLim, le_sliceLim, le_buildLim, le_sliceLimI, Int.tmod_eq_emod_of_nonneg, Int.tdiv_eq_ediv_of_nonneg, omLe, omLeN, omLt, omLtN, omEq, omEqN, onLe, onLeN, onLt, onLtN, onEq, onEqN, ir19, hC]
  refine Wp.loopM (fun (i : Nat) => l.length - i) (fun i => [none, none, none, none, some (.ptr 0 0), none, none, none, none, none, some (.lst nl z (ensA l)), some (.int .i64 l.length), some (.int .i64 i), none, none, none, none, none])
    (fun i => [.var 69 [if i = 0 then .nilp else .ptr 0 0, .osl 1 (wr ((l.map En.c).take i)).length], .sl ⟨false, some 5⟩ 1 ((wr ((l.map En.c).take i)).map ofByte)]) (fun i => i ≤ l.length) ?_ 0 (by omega) (by simp) (by simp [wr])
  intro i hi
  have hdc : ∀ x ∈ l.map En.c, x.d.length ≤ 100 := fun x hx => by
    obtain ⟨y, hy, rfl⟩ := List.mem_map.1 hx
    exact hd y hy
  have hwl : (wr ((l.map En.c).take i)).length ≤ 1024 * 65640 := by
    have h1 := wr_len _ _ (right_take hr i) (fun x hx => hdc x (List.mem_of_mem_take hx))
    have h2 : ((l.map En.c).take i).length ≤ 1024 := by simp; omega
    exact Nat.le_trans h1 (Nat.mul_le_mul_right 65640 h2)
  have hwl2 : (wr ((l.map En.c).take i)).length < 70000000 := Nat.lt_of_le_of_lt hwl (by decide)
  clear hwl
  have haB : (if i = 0 then AV.nilp else AV.ptr 0 0) = AV.nilp ∨ (if i = 0 then AV.nilp else AV.ptr 0 0) = AV.ptr 0 0 := by split <;> simp
  by_cases k : i < l.length
  · have hg : l[i]? = some l[i] := List.getElem?_eq_getElem k
    obtain rfl : z = 6 := hz (by intro h; rw [h] at k; simp at k)
    have hx := hl _ (List.getElem_mem k)
    have hxd := hd _ (List.getElem_mem k)
    have hcg : (l.map En.c)[i]? = some l[i].c := by simp [hg]
    have hkc : i < (l.map En.c).length := by simpa using k
    have hsn : wr ((l.map En.c).take (i + 1)) = wr ((l.map En.c).take i) ++ wr1 l[i].c := by
      rw [take_succ hkc, wr_app]
      simp [wr]
    have hri := right_take hr (i + 1)
    rw [take_succ hkc, right_app] at hri
    have he0 : encE l[i].e.c = 0 := by
      have := (ent_fine hri.2.1).1
      simpa [En.c] using this
    have hE := ansEncP l[i].e hx.e
    have hf := (enc_fine he0).2.2.2.2
    have hn := hx.n
    clear hri hcg
    generalize l[i] = x at *
    unfold encA evA Ev.cells at hE
    simp only [he0, if_true] at hE
    generalize wr ((l.map En.c).take i) = S at *
    generalize (if i = 0 then AV.nilp else AV.ptr 0 0) = aB at *
    have hi2 : i + 1 ≤ l.length := k
    have w1 : wr1 x.c = be4 (encT x.e.c).length ++ (encT x.e.c ++ x.d) := rfl
    rw [w1] at hsn
    generalize encT x.e.c = T at *
    have hb4 : (be4 T.length).length = 4 := rfl
    have hBA : Bld [.var 69 [aB, .osl 1 S.length], .sl ⟨false, some 5⟩ 1 (S.map ofByte), .var 52 [.int .i64 x.e.c.id, .int .i64 x.e.c.day, .int .i64 x.e.c.kind, .lst x.e.nl x.e.z (intsA x.e.c.nums), .lst x.e.nl2 x.e.z2 (strsA x.e.c.texts), .str x.d], .dead, .dead, .dead, .dead, .sl ⟨false, some 5⟩ 1 ((be4 T.length).map ofByte)] 0 1 aB S :=
      ⟨rfl, rfl, by decide, haB, by simp, by simp, by rcases haB with h | h <;> simp [h, shut, underAll, AV.under]⟩
    have hw := ansWriteOwn hBA 7 (be4 T.length) ⟨false, some 5⟩ rfl (by decide) (by decide) (by simp) (by omega) (by rw [hb4]; decide)
    simp only [bldSet, List.set_cons_zero, List.set_cons_succ, hb4] at hw
    have hBB : Bld [.var 69 [.ptr 0 0, .osl 1 (S ++ be4 T.length).length], .sl ⟨false, some 5⟩ 1 ((S ++ be4 T.length).map ofByte), .var 52 [.int .i64 x.e.c.id, .int .i64 x.e.c.day, .int .i64 x.e.c.kind, .lst x.e.nl x.e.z (intsA x.e.c.nums), .lst x.e.nl2 x.e.z2 (strsA x.e.c.texts), .str x.d], .dead, .dead, .dead, .dead, .sl ⟨false, some 5⟩ 1 ((be4 T.length).map ofByte)] 0 1 (.ptr 0 0) (S ++ be4 T.length) :=
      ⟨rfl, rfl, by decide, .inr rfl, by simp, by simp, by simp [shut, underAll, AV.under]⟩
    have hw2 := ansWriteStr hBB (T ++ x.d) (by simp only [List.length_append, hb4]; omega) (by simp only [List.length_append]; omega)
    simp only [bldSet, List.set_cons_zero, List.set_cons_succ] at hw2
    unfold Ev.nn at hn
    have e9 : S ++ be4 T.length ++ (T ++ x.d) = S ++ (be4 T.length ++ (T ++ x.d)) := by simp
    rw [e9, ← hsn] at hw2
    have hbe := be4_bytes T.length
    rw [hbe] at hw hw2
    generalize S ++ be4 T.length = M at *
    simp (config := { maxSteps := 1000000 }) (disch := omega) [-List.map_replicate, -List.map_set, -List.getD_eq_getElem?_getD, -getElem?_pos, -getElem?_neg, wrap_i64, le_strLim, le_sliceLim, le_buildLim, le_sliceLimI, Int.tmod_eq_emod_of_nonneg, Int.tdiv_eq_ediv_of_nonneg, omLe, omLeN, omLt, omLtN, omEq, omEqN, onLe, onLeN, onLt, onLtN, onEq, onEqN, hg, enA, Ev.cells, hE, hn, hw, hw2, splice]
    exact ⟨i + 1, hi2, by omega, by simp⟩
  · obtain rfl : i = l.length := by omega
    have ht : (l.map En.c).take l.length = l.map En.c := List.take_of_length_le (by simp)
    rw [ht] at hwl2 ⊢
    generalize (if l.length = 0 then AV.nilp else AV.ptr 0 0) = aB at *
    have hBA : Bld [.var 69 [aB, .osl 1 (wr (l.map En.c)).length], .sl ⟨false, some 5⟩ 1 ((wr (l.map En.c)).map ofByte)] 0 1 aB (wr (l.map En.c)) :=
      ⟨rfl, rfl, by decide, haB, by simp, by simp, by rcases haB with h | h <;> simp [h, shut, underAll, AV.under]⟩
    generalize wr (l.map En.c) = S at *
    by_cases hS : S = []
    · subst hS
      have hstr := ansStringB0 hBA
      simp only [List.length_nil, List.map_nil, List.set_cons_succ, List.set_cons_zero] at hstr
      simp (config := { maxSteps := 1000000 }) (disch := omega) [-List.map_replicate, -List.map_set, -List.getD_eq_getElem?_getD, -getElem?_pos, -getElem?_neg, wrap_i64, le_strLim, le_sliceLim, le_buildLim, le_sliceLimI, Int.tmod_eq_emod_of_nonneg, Int.tdiv_eq_ediv_of_nonneg, omLe, omLeN, omLt, omLtN, omEq, omEqN, onLe, onLeN, onLt, onLtN, onEq, onEqN, hstr]
    · have hstr := ansStringB hBA (by omega) hS
      simp (config := { maxSteps := 1000000 }) (disch := omega) [-List.map_replicate, -List.map_set, -List.getD_eq_getElem?_getD, -getElem?_pos, -getElem?_neg, wrap_i64, le_strLim, le_sliceLim, le_buildLim, le_sliceLimI, Int.tmod_eq_emod_of_nonneg, Int.tdiv_eq_ediv_of_nonneg, omLe, omLeN, omLt, omLtN, omEq, omEqN, onLe, onLeN, onLt, onLtN, onEq, onEqN, hstr]
end Go.Proofs.YtfhfnehoaiegcaaGreatDoor

namespace Go.Proofs.YtfhfnehoaiegcaaGreatDoor
open Go.Am
set_option maxRecDepth 10000
set_option maxHeartbeats 4000000

/-- what is recovered from a right journal's bytes with a few bytes behind them -/
theorem recF_behind (hs : ∀ t, (sumP t).length = 32) : ∀ (l : List EntC) (p : Option EntC) (k : Nat) (r : Str), right p l → k + l.length ≤ 1024 → r.length < 4 → recF (wr l ++ r) p k = (l, (wr l).length) := by
  intro l
  induction l with
  | nil =>
    intro p k r _ _ hr
    have : wr [] ++ r = r := rfl
    rw [this, recF_none (by unfold stepJ; rw [if_pos hr])]
    rfl
  | cons x l ih =>
    intro p k r h hk hr
    simp only [List.length_cons] at hk
    rw [wr_cons, List.append_assoc, recF_some (by omega) (stepJ_wr1 h.1 hs _), List.drop_left' rfl, ih (some x) (k + 1) r h.2 (by omega) hr]
    simp only [List.length_append]

/-- the entry that ends the agreement of two journals -/
theorem parts {L G : List EntC} (h : ¬ ∃ r, L = G ++ r) : ∃ k, k < G.length ∧ (∀ j, j < k → G[j]? = L[j]?) ∧ G[k]? ≠ L[k]? := by
  induction G generalizing L with
  | nil => exact absurd ⟨L, rfl⟩ h
  | cons g G ih =>
    cases L with
    | nil => exact ⟨0, by simp, fun j hj => by omega, by simp⟩
    | cons a L =>
      by_cases e : g = a
      · subst e
        obtain ⟨k, h1, h2, h3⟩ := ih (L := L) (fun ⟨r, hr⟩ => h ⟨r, by rw [hr]; rfl⟩)
        refine ⟨k + 1, by simp; omega, fun j hj => ?_, by simpa using h3⟩
        cases j with
        | zero => rfl
        | succ j => simpa using h2 j (by omega)
      · exact ⟨0, by simp, fun j hj => by omega, by simpa using e⟩
/-- what a damaged journal gives back: a beginning of it in which the damage is not, or a first entry that it does not have -/
theorem damaged {L : List EntC} (hr : right none L) (hL : L.length ≤ 1024) {bent : Str} {i : Nat} (hlen : bent.length = (wr L).length) (hi : i < bent.length) (hb : bent[i]? ≠ (wr L)[i]?) (heq : ∀ j, j < i → bent[j]? = (wr L)[j]?) :
    ((recF bent none 0).2 ≤ i → ∃ r, L = (recF bent none 0).1 ++ r) ∧
    (i < (recF bent none 0).2 → ∃ k, k < (recF bent none 0).1.length ∧ k < L.length ∧ (∀ j, j < k → (recF bent none 0).1[j]? = L[j]?) ∧ (recF bent none 0).1[k]? ≠ L[k]?) := by
  obtain ⟨s1, s2, s3, s4, s5⟩ := recF_spec bent none 0
  have hself := recF_wr sum_length hr hL
  constructor
  · intro hle
    have ht : bent.take (recF bent none 0).2 = (wr L).take (recF bent none 0).2 := by
      apply List.ext_getElem?
      intro j
      rw [List.getElem?_take, List.getElem?_take]
      split
      · exact heq j (by omega)
      · rfl
    obtain ⟨r, h⟩ := recF_prefix bent (wr L) none 0 ht (by omega)
    rw [hself] at h
    exact ⟨r, h⟩
  · intro hlt
    generalize recF bent none 0 = q at *
    obtain ⟨G, n⟩ := q
    simp only at *
    have hno : ¬ ∃ r, L = G ++ r := by
      rintro ⟨r, rfl⟩
      apply hb
      rw [wr_app]
      have h1 : bent.take n = wr G := s2.symm
      have h2 : bent[i]? = (bent.take n)[i]? := by rw [List.getElem?_take, if_pos hlt]
      rw [h2, h1, List.getElem?_append_left (by omega)]
    obtain ⟨k, k1, k2, k3⟩ := parts hno
    refine ⟨k, k1, ?_, k2, k3⟩
    -- all of L is not a beginning of G
    apply Nat.lt_of_not_le
    intro hk
    have hG : G.take L.length = L := by
      apply List.ext_getElem?
      intro j
      rw [List.getElem?_take]
      split
      · rename_i hj; exact k2 j (by omega)
      · rename_i hj; rw [List.getElem?_eq_none (by omega)]
    have hw : wr G = wr L ++ wr (G.drop L.length) := by
      conv => lhs; rw [← List.take_append_drop L.length G, wr_app, hG]
    have h1 : bent.take n = wr L ++ wr (G.drop L.length) := by rw [← s2, hw]
    apply hb
    have h2 : bent[i]? = (bent.take n)[i]? := by rw [List.getElem?_take, if_pos hlt]
    rw [h2, h1, List.getElem?_append_left (by omega)]
end Go.Proofs.YtfhfnehoaiegcaaGreatDoor
