/-
  Decode of the program.
-/
import Derived.Test.YtfhfnehoaiegcaaGreatDoorEncM
import Derived.Test.YtfhfnehoaiegcaaGreatDoorPlainM
set_option linter.all false
namespace Go.Proofs.YtfhfnehoaiegcaaGreatDoor
open Go.Am
set_option maxRecDepth 10000
set_option maxHeartbeats 4000000

/-- what the machine's table holds of the type error -/
theorem tiErr : cfg.ti 71 = some { desc := .interface (match Tryz.prog.underlying 71 with | some (.interface ms) => ms | _ => #[]), size := 1, bytes := 16, zero := some [.ifc false], agg := false, eq := false, fields := [] } := by kernel_rfl

def zeroC : List AV := [.int .i64 0, .int .i64 0, .int .i64 0, .lst (some true) 0 [], .lst (some true) 0 []]
def evN (c : EvC) : Ev := ⟨c, none, 1, none, 1⟩
def decA (text : Str) : AV := match dec text with
  | none => .tup [.agg zeroC, .int .i64 13]
  | some c => .tup [evA (evN c), .int .i64 0]

/-- an event of numbers and texts -/
def mkC (ns : List Int) (ts : List Str) : EvC := ⟨ns.getD 0 0, ns.getD 1 0, ns.getD 2 0, ns.drop 3, ts⟩
def andC (a : Option (List Int)) (b : Option (List Str)) : Option EvC := match a with
  | none => none
  | some ns => match b with
    | none => none
    | some ts => some (mkC ns ts)
theorem candP_cons {text l0 : Str} {ls : List Str} (h : splitB 10 text = l0 :: ls) : candP text = andC (optL atoiO (splitB 32 l0)) (optL unesc (ls.take (ls.length - 1))) := by
  unfold candP
  rw [h]
  simp only [List.headD_cons]
  have hm : midL (l0 :: ls) = ls.take (ls.length - 1) := by
    unfold midL
    cases ls with
    | nil => rfl
    | cons b r =>
      have : max 1 ((l0 :: b :: r).length - 1) = (b :: r).length - 1 + 1 := by simp
      rw [this]
      simp
  rw [hm]
  unfold andC
  cases optL atoiO (splitB 32 l0) with
  | none => rfl
  | some ns => cases optL unesc (ls.take (ls.length - 1)) <;> rfl

theorem optL_snoc {α β : Type} {f : α → Option β} {l : List α} {r : List β} {i : Nat} (h : optL f (l.take i) = some r) (hi : i < l.length) {b : β} (hb : f l[i] = some b) : optL f (l.take (i + 1)) = some (r ++ [b]) := by
  rw [take_succ hi, optL_app _ h]
  simp [optL, hb]

theorem ansDecP (text : Str) (hl : text.length < 100000) : ansF cfg 15 [.str text] [] = some (decA text, []) := by
  refine ans_of_wp fn15 low15 ?_
  have hd := dec_of_cand (text := text) (f := candP text) (fun c h1 h2 => h2 ▸ cand_enc h1)
  have hs := ansSplitB text 10 (by omega)
  obtain ⟨l0, ls, hls⟩ : ∃ l0 ls, splitB 10 text = l0 :: ls := by
    cases h : splitB 10 text with
    | nil => exact absurd h (splitB_ne _ _)
    | cons a l => exact ⟨a, l, rfl⟩
  have hlen : ls.length ≤ text.length := by
    have := splitB_length 10 text
    rw [hls] at this
    simpa using this
  have hp := splitB_pieces (c := 10) text
  rw [hls] at hp hs
  have hl0 := (hp l0 List.mem_cons_self).2
  have hls2 : ∀ p ∈ ls, p.length ≤ text.length := fun p h => (hp p (List.mem_cons_of_mem _ h)).2
  have hs2 := ansSplitB l0 32 (by omega)
  have hc := candP_cons hls
  have hw : ∀ p ∈ splitB 32 l0, p.length ≤ text.length := fun p h => Nat.le_trans (splitB_pieces l0 p h).2 hl0
  have hwl : (splitB 32 l0).length ≤ text.length + 1 := by
    have := splitB_length 32 l0
    omega
  clear hp hls
  generalize splitB 32 l0 = W at *
  simp only [List.map_cons] at hs
  have hsA : ls.map AV.str = strsA ls := rfl
  have hWA : W.map AV.str = strsA W := rfl
  rw [hsA] at hs
  rw [hWA] at hs2
  simp (config := { maxSteps := 1000000 }) (disch := omega) [-List.map_replicate, -List.map_set, -List.getD_eq_getElem?_getD, -getElem?_pos, -getElem?_neg, wrap_i64, le_strLim, le_sliceLim, le_buildLim, le_sliceLimI, Int.tmod_eq_emod_of_nonneg, Int.tdiv_eq_ediv_of_nonneg, omLe, omLeN, omLt, omLtN, omEq, omEqN, onLe, onLeN, onLt, onLtN, onEq, onEqN, ir15, hs, hs2]
  refine Wp.loopM (fun (ns : List Int) => W.length - ns.length) (fun ns => [some (.str text), some (.ptr 0 0), none, some (.lst none 1 (.str l0 :: strsA ls)), some (.ptr 3 0), none, none, none, none, none, none, none, none, none, none, some (.lst none 1 (strsA W)), some (.int .i64 W.length), some (.int .i64 ns.length), none, none, none, none, none, none, none, none, none, none, none, none, none, none, none, none, none, none, none, none, none, none, none, none, none])
    (fun ns => [.var 25 [.int .i64 0, .int .i64 0, .int .i64 0, .osl 1 0, .osl 2 0], .sl ⟨false, some 3⟩ 1 [], .sl ⟨false, some 9⟩ 1 [], .var 25 [.int .i64 (ns.getD 0 0), .int .i64 (ns.getD 1 0), .int .i64 (ns.getD 2 0), .osl 4 (ns.drop 3).length, .osl 5 0], .sl ⟨false, some 3⟩ 1 (intsA (ns.drop 3)), .sl ⟨false, some 9⟩ 1 []])
    (fun ns => ns.length ≤ W.length ∧ optL atoiO (W.take ns.length) = some ns) ?_ [] ⟨by simp, by simp [optL]⟩ (by simp) (by simp [intsA])
  rintro ns ⟨hn, ho⟩
  by_cases k : ns.length < W.length
  · have hg : W[ns.length]? = some W[ns.length] := List.getElem?_eq_getElem k
    have hwk := hw _ (List.getElem_mem k)
    have bad : atoiO W[ns.length] = none → decA text = .tup [.agg zeroC, .int .i64 13] := fun h => by
      unfold decA
      rw [hd, hc, optL_none (List.getElem_mem k) h]
      rfl
    have good : ∀ v, atoiO W[ns.length] = some v → (ns ++ [v]).length ≤ W.length ∧ optL atoiO (W.take (ns ++ [v]).length) = some (ns ++ [v]) := fun v h => by
      rw [List.length_append]
      exact ⟨k, optL_snoc ho k h⟩
    unfold atoiO at bad good
    generalize W[ns.length] = w at *
    cases ha : Lib.atoiAll w
    case range =>
      rw [ha] at bad
      rw [bad rfl]
      simp (config := { maxSteps := 1000000 }) (disch := omega) [-List.map_replicate, -List.map_set, -List.getD_eq_getElem?_getD, -getElem?_pos, -getElem?_neg, wrap_i64, le_strLim, le_sliceLim, le_buildLim, le_sliceLimI, Int.tmod_eq_emod_of_nonneg, Int.tdiv_eq_ediv_of_nonneg, omLe, omLeN, omLt, omLtN, omEq, omEqN, onLe, onLeN, onLt, onLtN, onEq, onEqN, tiErr, hg, atoiG, ha, zeroC, splice]
    case ok v =>
      have hgd := good v (by rw [ha])
      clear good bad
      have hgl := hgd.1
      rw [List.length_append, List.length_singleton] at hgl
      match ns, hg, hgd, hgl with
      | [], hg, hgd, hgl =>
        change W[0]? = some w at hg
        change 0 + 1 ≤ W.length at hgl
        simp (config := { maxSteps := 1000000 }) (disch := omega) [-List.map_replicate, -List.map_set, -List.getD_eq_getElem?_getD, -getElem?_pos, -getElem?_neg, wrap_i64, le_strLim, le_sliceLim, le_buildLim, le_sliceLimI, Int.tmod_eq_emod_of_nonneg, Int.tdiv_eq_ediv_of_nonneg, omLe, omLeN, omLt, omLtN, omEq, omEqN, onLe, onLeN, onLt, onLtN, onEq, onEqN, tiErr, hg, atoiG, ha, splice]
        exact ⟨[v], hgd, by simp only [List.length_cons, List.length_nil]; omega, by simp, ⟨rfl, rfl, rfl, rfl⟩, rfl⟩
      | [a], hg, hgd, hgl =>
        change W[1]? = some w at hg
        change 1 + 1 ≤ W.length at hgl
        simp (config := { maxSteps := 1000000 }) (disch := omega) [-List.map_replicate, -List.map_set, -List.getD_eq_getElem?_getD, -getElem?_pos, -getElem?_neg, wrap_i64, le_strLim, le_sliceLim, le_buildLim, le_sliceLimI, Int.tmod_eq_emod_of_nonneg, Int.tdiv_eq_ediv_of_nonneg, omLe, omLeN, omLt, omLtN, omEq, omEqN, onLe, onLeN, onLt, onLtN, onEq, onEqN, tiErr, hg, atoiG, ha, splice]
        exact ⟨[a, v], hgd, by simp only [List.length_cons, List.length_nil]; omega, by simp, ⟨rfl, rfl, rfl, rfl⟩, rfl⟩
      | [a, b], hg, hgd, hgl =>
        change W[2]? = some w at hg
        change 2 + 1 ≤ W.length at hgl
        simp (config := { maxSteps := 1000000 }) (disch := omega) [-List.map_replicate, -List.map_set, -List.getD_eq_getElem?_getD, -getElem?_pos, -getElem?_neg, wrap_i64, le_strLim, le_sliceLim, le_buildLim, le_sliceLimI, Int.tmod_eq_emod_of_nonneg, Int.tdiv_eq_ediv_of_nonneg, omLe, omLeN, omLt, omLtN, omEq, omEqN, onLe, onLeN, onLt, onLtN, onEq, onEqN, tiErr, hg, atoiG, ha, splice]
        exact ⟨[a, b, v], hgd, by simp only [List.length_cons, List.length_nil]; omega, by simp, ⟨rfl, rfl, rfl, rfl⟩, rfl⟩
      | a :: b :: c :: r, hg, hgd, hgl =>
        change W[r.length + 1 + 1 + 1]? = some w at hg
        change r.length + 1 + 1 + 1 + 1 ≤ W.length at hgl
        have htn : ((r.length : Int) + 1 + 1 + 1).toNat = r.length + 1 + 1 + 1 := by omega
        simp (config := { maxSteps := 1000000 }) (disch := omega) [-List.map_replicate, -List.map_set, -List.getD_eq_getElem?_getD, -getElem?_pos, -getElem?_neg, wrap_i64, le_strLim, le_sliceLim, le_buildLim, le_sliceLimI, Int.tmod_eq_emod_of_nonneg, Int.tdiv_eq_ediv_of_nonneg, omLe, omLeN, omLt, omLtN, omEq, omEqN, onLe, onLeN, onLt, onLtN, onEq, onEqN, tiErr, htn, hg, atoiG, ha, splice]
        exact ⟨a :: b :: c :: (r ++ [v]), hgd, by simp; omega, by simp, ⟨rfl, rfl, rfl, by simp⟩, by simp [intsA]⟩
    rw [ha] at bad
    rw [bad rfl]
    simp (config := { maxSteps := 1000000 }) (disch := omega) [-List.map_replicate, -List.map_set, -List.getD_eq_getElem?_getD, -getElem?_pos, -getElem?_neg, wrap_i64, le_strLim, le_sliceLim, le_buildLim, le_sliceLimI, Int.tmod_eq_emod_of_nonneg, Int.tdiv_eq_ediv_of_nonneg, omLe, omLeN, omLt, omLtN, omEq, omEqN, onLe, onLeN, onLt, onLtN, onEq, onEqN, tiErr, hg, atoiG, ha, zeroC, splice]
  have hnW : ns.length = W.length := by omega
  rw [hnW, List.take_length] at ho
  rw [ho] at hc
  obtain ⟨mx, hmx, hm1, hm2, hm3⟩ : ∃ mx : Nat, (if 1 < (ls.length : Int) then (ls.length : Int) else 1) = (mx : Int) ∧ 1 ≤ mx ∧ mx ≤ ls.length + 1 ∧ mx - 1 = ls.length - 1 := by
    split
    · exact ⟨ls.length, rfl, by omega, by omega, rfl⟩
    · exact ⟨1, rfl, by omega, by omega, by omega⟩
  have htail : (List.take mx (AV.str l0 :: strsA ls)).tail = strsA (ls.take (ls.length - 1)) := by
    obtain ⟨q, rfl⟩ : ∃ q, mx = q + 1 := ⟨mx - 1, by omega⟩
    rw [← hm3]
    simp [strsA]
  have hM : ∀ p ∈ ls.take (ls.length - 1), p.length ≤ text.length := fun p h => hls2 p (List.mem_of_mem_take h)
  have hMl : (ls.take (ls.length - 1)).length = mx - 1 := by simp; omega
  have hns3 : (ns.drop 3).length = W.length - 3 := by simp; omega
  generalize ls.take (ls.length - 1) = M at *
  simp (config := { maxSteps := 1000000 }) (disch := omega) [-List.map_replicate, -List.map_set, -List.getD_eq_getElem?_getD, -getElem?_pos, -getElem?_neg, wrap_i64, le_strLim, le_sliceLim, le_buildLim, le_sliceLimI, Int.tmod_eq_emod_of_nonneg, Int.tdiv_eq_ediv_of_nonneg, omLe, omLeN, omLt, omLtN, omEq, omEqN, onLe, onLeN, onLt, onLtN, onEq, onEqN, hnW, hmx, htail]
  refine Wp.loopM (fun (ts : List Str) => M.length - ts.length) (fun ts => [some (.str text), some (.ptr 0 0), none, none, some (.ptr 3 0), none, none, none, none, none, none, none, none, none, none, none, none, none, none, none, none, none, none, none, none, none, none, none, none, none, some (.lst none 1 (strsA M)), some (.int .i64 M.length), some (.int .i64 ts.length), none, none, none, none, none, none, none, none, none, none])
    (fun ts => [.var 25 [.int .i64 0, .int .i64 0, .int .i64 0, .osl 1 0, .osl 2 0], .sl ⟨false, some 3⟩ 1 [], .sl ⟨false, some 9⟩ 1 [], .var 25 [.int .i64 (ns.getD 0 0), .int .i64 (ns.getD 1 0), .int .i64 (ns.getD 2 0), .osl 4 (W.length - 3), .osl 5 ts.length], .sl ⟨false, some 3⟩ 1 (intsA (ns.drop 3)), .sl ⟨false, some 9⟩ 1 (strsA ts)])
    (fun ts => ts.length ≤ M.length ∧ optL unesc (M.take ts.length) = some ts) ?_ [] ⟨by simp, by simp [optL]⟩ (by simp [hMl]) (by simp [strsA])
  rintro ts ⟨hn2, ho2⟩
  by_cases k : ts.length < M.length
  · have hg : M[ts.length]? = some M[ts.length] := List.getElem?_eq_getElem k
    have hwk := hM _ (List.getElem_mem k)
    have bad : unesc M[ts.length] = none → decA text = .tup [.agg zeroC, .int .i64 13] := fun h => by
      unfold decA
      rw [hd, hc, optL_none (List.getElem_mem k) h]
      rfl
    have good : ∀ v, unesc M[ts.length] = some v → (ts ++ [v]).length ≤ M.length ∧ optL unesc (M.take (ts ++ [v]).length) = some (ts ++ [v]) := fun v h => by
      rw [List.length_append]
      exact ⟨k, optL_snoc ho2 k h⟩
    generalize M[ts.length] = m at *
    have hU := ansUnP m (by omega)
    rw [unescA_eq] at hU
    cases hm : unesc m with
    | none =>
      rw [hm] at hU
      rw [bad hm]
      simp (config := { maxSteps := 1000000 }) (disch := omega) [-List.map_replicate, -List.map_set, -List.getD_eq_getElem?_getD, -getElem?_pos, -getElem?_neg, wrap_i64, le_strLim, le_sliceLim, le_buildLim, le_sliceLimI, Int.tmod_eq_emod_of_nonneg, Int.tdiv_eq_ediv_of_nonneg, omLe, omLeN, omLt, omLtN, omEq, omEqN, onLe, onLeN, onLt, onLtN, onEq, onEqN, hg, hU, zeroC, splice]
    | some t =>
      rw [hm] at hU
      have hgd := good t hm
      clear good bad
      simp (config := { maxSteps := 1000000 }) (disch := omega) [-List.map_replicate, -List.map_set, -List.getD_eq_getElem?_getD, -getElem?_pos, -getElem?_neg, wrap_i64, le_strLim, le_sliceLim, le_buildLim, le_sliceLimI, Int.tmod_eq_emod_of_nonneg, Int.tdiv_eq_ediv_of_nonneg, omLe, omLeN, omLt, omLtN, omEq, omEqN, onLe, onLeN, onLt, onLtN, onEq, onEqN, hg, hU, splice]
      exact ⟨ts ++ [t], hgd, by simp; omega, by simp, by simp, by simp [strsA]⟩
  have hnM : ts.length = M.length := by omega
  rw [hnM, List.take_length] at ho2
  rw [ho2] at hc
  have hE := ansEncP (evN (mkC ns ts)) ⟨fun _ => rfl, fun _ => rfl, by simp only [evN, mkC]; omega, by simp only [evN, mkC]; omega⟩
  have hdA : decA text = match checkC text (some (mkC ns ts)) with
      | none => .tup [.agg zeroC, .int .i64 13]
      | some c => .tup [evA (evN c), .int .i64 0] := by
    unfold decA
    rw [hd, hc]
    rfl
  rw [hdA]
  unfold evA evN Ev.cells encA at hE
  have hc2 : (mkC ns ts).nums = ns.drop 3 ∧ (mkC ns ts).texts = ts ∧ (mkC ns ts).id = ns.getD 0 0 ∧ (mkC ns ts).day = ns.getD 1 0 ∧ (mkC ns ts).kind = ns.getD 2 0 := ⟨rfl, rfl, rfl, rfl, rfl⟩
  simp only [hc2] at hE
  simp only [checkC, evA, evN, Ev.cells, hc2]
  generalize mkC ns ts = c at *
  by_cases q1 : encE c = 0
  · simp only [q1, if_true, true_and] at hE ⊢
    by_cases q2 : encT c = text
    · simp only [q2, if_true] at hE ⊢
      simp (config := { maxSteps := 1000000 }) (disch := omega) [-List.map_replicate, -List.map_set, -List.getD_eq_getElem?_getD, -getElem?_pos, -getElem?_neg, wrap_i64, le_strLim, le_sliceLim, le_buildLim, le_sliceLimI, Int.tmod_eq_emod_of_nonneg, Int.tdiv_eq_ediv_of_nonneg, omLe, omLeN, omLt, omLtN, omEq, omEqN, onLe, onLeN, onLt, onLtN, onEq, onEqN, hnM, hns3, hE, splice]
      exact ⟨by rw [hc2.1], by rw [hc2.2.1]⟩
    · simp only [q2, if_false] at hE ⊢
      simp (config := { maxSteps := 1000000 }) (disch := omega) [-List.map_replicate, -List.map_set, -List.getD_eq_getElem?_getD, -getElem?_pos, -getElem?_neg, wrap_i64, le_strLim, le_sliceLim, le_buildLim, le_sliceLimI, Int.tmod_eq_emod_of_nonneg, Int.tdiv_eq_ediv_of_nonneg, omLe, omLeN, omLt, omLtN, omEq, omEqN, onLe, onLeN, onLt, onLtN, onEq, onEqN, hnM, hns3, hE, q2, zeroC, splice]
  · simp only [q1, if_false, false_and] at hE ⊢
    simp (config := { maxSteps := 1000000 }) (disch := omega) [-List.map_replicate, -List.map_set, -List.getD_eq_getElem?_getD, -getElem?_pos, -getElem?_neg, wrap_i64, le_strLim, le_sliceLim, le_buildLim, le_sliceLimI, Int.tmod_eq_emod_of_nonneg, Int.tdiv_eq_ediv_of_nonneg, omLe, omLeN, omLt, omLtN, omEq, omEqN, onLe, onLeN, onLt, onLtN, onEq, onEqN, hnM, hns3, hE, q1, zeroC, splice]
end Go.Proofs.YtfhfnehoaiegcaaGreatDoor
