/-
  The law JournalChained, for the machine. (Over a seat in which Copy hands over its slice: journal/o.)
-/
import Derived.Test.YtfhfnehoaiegcaaGreatDoorAwkM
set_option linter.all false
namespace Go.Proofs.YtfhfnehoaiegcaaGreatDoor
open Go.Am Go.ChangeShapes Go.WideShapes Go.RowKit
set_option maxRecDepth 10000
set_option maxHeartbeats 8000000

theorem args_evx {ts : List TypeId} {xs : List AV} (h : ShpArgs Tryz.prog (25 :: ts) xs) : ∃ (e : Ev) (r : List AV), xs = evA e :: r ∧ e.inn ∧ ShpArgs Tryz.prog ts r := by
  obtain ⟨n, cs, r, rfl, h1, h2⟩ := h
  obtain ⟨e, k1, k2, _⟩ := shp_ev h1
  exact ⟨e, r, by rw [k2], k1, h2⟩
theorem few_okc {l : List Ev} (h : fewAll (l.map (·.c)) = true) (hi : ∀ n ∈ l, n.inn) : l.length ≤ 20 ∧ ∀ n ∈ l, n.ok := by
  obtain ⟨h1, h2⟩ := fewAll_spec h
  rw [List.length_map] at h1
  refine ⟨h1, fun n hn => ?_⟩
  obtain ⟨b1, b2, _⟩ := few_bounds (h2 n.c (List.mem_map_of_mem hn))
  exact ⟨(hi n hn).w.hz, (hi n hn).w.hz2, by omega, by omega⟩

theorem chk_ge : ∀ (l : List EntC) (p : Option EntC) (i : Nat), chk p i l = (-1, 0) ∨ ∃ j : Nat, i ≤ j ∧ (chk p i l).1 = (j : Int)
  | [], _, _ => .inl rfl
  | x :: r, p, i => by
    simp only [chk]
    split
    · rcases chk_ge r (some x) (i + 1) with h | ⟨j, h1, h2⟩
      · exact .inl h
      · exact .inr ⟨j, by omega, h2⟩
    · exact .inr ⟨i, Nat.le_refl _, rfl⟩
theorem chk_set {L : List EntC} (hr : right none L) {m : Nat} (hm : m < L.length) (y : EntC) : chk none 0 (L.set m y) = chk (lastE none (L.take m)) m (y :: L.drop (m + 1)) := by
  have e : L.set m y = L.take m ++ (y :: L.drop (m + 1)) := by rw [List.set_eq_take_append_cons_drop, if_pos hm]
  have hl : 0 + (L.take m).length = m := by rw [List.length_take]; omega
  rw [e, chk_app (right_take hr m), hl]
theorem right_atc {G : List EntC} (h : right none G) {i : Nat} (hi : i < G.length) : encE G[i].c = 0 ∧ G[i].d = sealT (lastE none (G.take i)) (encT G[i].c) := by
  have e : G = G.take i ++ (G[i] :: G.drop (i + 1)) := by rw [← List.drop_eq_getElem_cons hi, List.take_append_drop]
  rw [e, right_app] at h
  obtain ⟨h1, _, h3⟩ := ent_fine h.2.1
  exact ⟨h1, h3⟩
/-- what an entry that became another one comes to: it is not right; or both texts have its digest -/
theorem chained {L : List EntC} (hr : right none L) {m : Nat} (hm : m < L.length) (c : EvC) (hne : L[m].c ≠ c) :
    ((chk none 0 (L.set m ⟨c, L[m].d⟩)).2 ≠ 0 ∧ (chk none 0 (L.set m ⟨c, L[m].d⟩)).1 = (m : Int)) ∨
    (((chk none 0 (L.set m ⟨c, L[m].d⟩)).2 = 0 ∨ (chk none 0 (L.set m ⟨c, L[m].d⟩)).1 ≠ (m : Int)) ∧ encE c = 0 ∧ encE L[m].c = 0 ∧ encT L[m].c ≠ encT c ∧ sumP (prevD (lastE none (L.take m)) ++ encT L[m].c) = sumP (prevD (lastE none (L.take m)) ++ encT c)) := by
  rw [chk_set hr hm]
  obtain ⟨h1, h2⟩ := right_atc hr hm
  simp only [chk]
  by_cases he : entE (lastE none (L.take m)) ⟨c, L[m].d⟩ = 0
  · rw [if_pos he]
    obtain ⟨k1, _, k3⟩ := ent_fine he
    refine .inr ⟨?_, k1, h1, fun e => hne (enc_inj h1 k1 e), ?_⟩
    · rcases chk_ge (L.drop (m + 1)) (some ⟨c, L[m].d⟩) (m + 1) with h | ⟨j, h3, h4⟩
      · left; rw [h]
      · right; rw [h4]; omega
    · have k3 : L[m].d = sealT (lastE none (L.take m)) (encT c) := k3
      rw [h2] at k3
      exact k3
  · rw [if_neg he]
    exact .inl ⟨he, rfl⟩

theorem ansChained {xs : List AV} (h : ShpArgs Tryz.prog [46, 5, 25] xs) : ansF cfg 8 xs [] = some (.bool true, []) := by
  obtain ⟨nl, z, l, r, rfl, hz, -, hlen, hin, hr⟩ := args_evs h
  obtain ⟨at0, r, rfl, hat, hr⟩ := args_u8 hr
  obtain ⟨x, r, rfl, hxi, hr⟩ := args_evx hr
  obtain rfl := args_nil hr
  clear h
  refine ans_of_wp fn8 low8 ?_
  have hfew := ansFewAll (some nl) z l hz (fun x hx => (hin x hx).w) hlen
  have hfx := ansFew x hxi.w
  have hev : evA x = .agg [.int .i64 x.c.id, .int .i64 x.c.day, .int .i64 x.c.kind, .lst x.nl x.z (intsA x.c.nums), .lst x.nl2 x.z2 (strsA x.c.texts)] := rfl
  rw [hev] at hfx ⊢
  cases hf : fewAll (l.map (·.c)) with
  | false =>
    rw [hf] at hfew
    simp (config := { maxSteps := 1000000 }) (disch := omega) [-List.map_replicate, -List.map_set, -List.getD_eq_getElem?_getD, -getElem?_pos, -getElem?_neg, wrap_i64, le_strLim, le_sliceLim, le_buildLim, le_sliceLimI, Int.tmod_eq_emod_of_nonneg, Int.tdiv_eq_ediv_of_nonneg, omLe, omLeN, omLt, omLtN, omEq, omEqN, onLe, onLeN, onLt, onLtN, onEq, onEqN, ir8, ansAwake, hfew, splice]
  | true =>
  rw [hf] at hfew
  cases hg : fewC x.c with
  | false =>
    rw [hg] at hfx
    simp (config := { maxSteps := 1000000 }) (disch := omega) [-List.map_replicate, -List.map_set, -List.getD_eq_getElem?_getD, -getElem?_pos, -getElem?_neg, wrap_i64, le_strLim, le_sliceLim, le_buildLim, le_sliceLimI, Int.tmod_eq_emod_of_nonneg, Int.tdiv_eq_ediv_of_nonneg, omLe, omLeN, omLt, omLtN, omEq, omEqN, onLe, onLeN, onLt, onLtN, onEq, onEqN, ir8, ansAwake, hfew, hfx, splice]
  | true =>
  rw [hg] at hfx
  obtain ⟨b1, b2, _⟩ := few_bounds hg
  have okx : x.ok := ⟨hxi.w.hz, hxi.w.hz2, by omega, by omega⟩
  obtain ⟨h20, hok⟩ := few_okc hf hin
  have hb := ansBuild (some nl) z l hz hok (by omega)
  have hJ := jl_build (l.map (·.c)) (by simpa using h20)
  have hLl := bldF_len (l.map (·.c)) []
  simp only [List.length_nil, List.length_map] at hLl
  have hbz : bldF [] (l.map (·.c)) ≠ [] → bZ (bldF [] (l.map (·.c))) = 6 := bZ_ne
  generalize bldF [] (l.map (·.c)) = L at *
  by_cases hL0 : L.length = 0
  · simp (config := { maxSteps := 1000000 }) (disch := omega) [-List.map_replicate, -List.map_set, -List.getD_eq_getElem?_getD, -getElem?_pos, -getElem?_neg, wrap_i64, le_strLim, le_sliceLim, le_buildLim, le_sliceLimI, Int.tmod_eq_emod_of_nonneg, Int.tdiv_eq_ediv_of_nonneg, omLe, omLeN, omLt, omLtN, omEq, omEqN, onLe, onLeN, onLt, onLtN, onEq, onEqN, ir8, ansAwake, hfew, hfx, hb, hL0, splice]
  obtain ⟨m, hm, hm2⟩ : ∃ m, at0 % L.length = m ∧ m < L.length := ⟨_, rfl, Nat.mod_lt _ (by omega)⟩
  have hmod : ((at0 : Int) % (L.length : Int)) = (m : Int) := by
    rw [← hm]; simp
  have hz6 : bZ L = 6 := hbz (by intro e; rw [e] at hL0; exact hL0 rfl)
  have hgm : (cps L)[m]? = some (enCp L[m]) := by simp [cps, hm2]
  obtain ⟨e1, e2⟩ := right_mem hJ.r _ (List.getElem_mem hm2)
  have hfin := enc_fine e1
  have okm : (evCp L[m].c).ok := evCp_ok (by omega) (by omega)
  have r1 := ansSameEv (evCp L[m].c) x okm okx
  rw [hev, evCp_c] at r1
  by_cases hsame : L[m].c = x.c
  · simp only [hsame, decide_true] at r1
    have hgm2 : (cps L)[m]? = some ⟨evCp x.c, L[m].d⟩ := by rw [hgm]; simp [enCp, hsame]
    generalize L[m].d = d at *
    unfold evA evCp Ev.cells at r1
    simp only at r1
    simp (config := { maxSteps := 1000000 }) (disch := omega) [-List.map_replicate, -List.map_set, -List.getD_eq_getElem?_getD, -getElem?_pos, -getElem?_neg, wrap_i64, le_strLim, le_sliceLim, le_buildLim, le_sliceLimI, Int.tmod_eq_emod_of_nonneg, Int.tdiv_eq_ediv_of_nonneg, omLe, omLeN, omLt, omLtN, omEq, omEqN, onLe, onLeN, onLt, onLtN, onEq, onEqN, ir8, ansAwake, hfew, hfx, hb, hL0, hmod, hm2, hz6, hgm2, r1, enA, evCp, Ev.cells, splice]
  simp only [hsame, decide_false] at r1
  have r2 := ansCopyEv (evCp L[m].c) okm
  have r3 := ansEncP (evCp L[m].c) okm
  have r4 := hJ.copy (bN L) (bZ L) hbz
  rw [hz6] at r4
  have r5 := ansCopyEv x okx
  have okx2 : (evCp x.c).ok := evCp_ok (by omega) (by omega)
  have r8 := ansEncP (evCp x.c) okx2
  have hbent : ∀ y ∈ cps (L.set m ⟨x.c, L[m].d⟩), y.ok := fun y hy => by
    obtain ⟨q, hq, rfl⟩ := List.mem_map.1 hy
    rcases List.mem_or_eq_of_mem_set hq with hq | rfl
    · exact (hJ.good (enCp q) (List.mem_map_of_mem hq)).ok
    · exact ⟨okx2, evCp_nn _, by show L[m].d.length < 100000; omega⟩
  have hn100 := hJ.n
  have r6 := ansCopyW none 6 (cps (L.set m ⟨x.c, L[m].d⟩)) (fun _ => rfl) (fun y hy => (hbent y hy).e) (by simp; omega)
  have r7 := ansChkP none 6 (cps (L.set m ⟨x.c, L[m].d⟩)) (fun _ => rfl) hbent (by simp; omega)
  rw [cps_c] at r6 r7
  have hset : (ensA (cps L)).set m (enA ⟨evCp x.c, L[m].d⟩) = ensA (cps (L.set m ⟨x.c, L[m].d⟩)) := by simp [ensA, cps, List.map_set, enCp]
  have hlen2 : (ensA (cps (L.set m ⟨x.c, L[m].d⟩))).length = L.length := by simp
  rw [cps_length, List.length_set] at r6
  unfold chkA at r7
  rw [if_neg (by simp; omega)] at r7
  have hch := chained hJ.r hm2 x.c hsame
  have hprev : (m = 0 ∧ prevD (lastE none (L.take m)) = zeros) ∨ (∃ y : EntC, 0 < m ∧ (cps L)[m - 1]? = some (enCp y) ∧ y.d.length = 32 ∧ prevD (lastE none (L.take m)) = y.d) := by
    cases m with
    | zero => exact .inl ⟨rfl, rfl⟩
    | succ j =>
      have hj : j < L.length := by omega
      refine .inr ⟨L[j], by omega, by simp [cps, hj], (right_mem hJ.r _ (List.getElem_mem hj)).2, ?_⟩
      rw [take_succ hj, lastE_app]
      rfl
  rw [evCp_c] at r2 r3 r8
  unfold encA at r3 r8
  simp only [e1, if_true] at r3
  have hi1 : 0 < m → ((m : Int) - 1).toNat = m - 1 := fun h => by omega
  generalize ensA (cps (L.set m ⟨x.c, L[m].d⟩)) = A2 at *
  generalize chk none 0 (L.set m ⟨x.c, L[m].d⟩) = CK at *
  obtain ⟨ck, ce⟩ := CK
  generalize prevD (lastE none (L.take m)) = B at *
  generalize L[m] = y at *
  obtain ⟨yc, d⟩ := y
  simp only at *
  generalize hs : encT yc = S at *
  obtain ⟨⟨id, day, kind, nums, texts⟩, xn, xz, xn2, xz2⟩ := x
  obtain ⟨id', day', kind', nums', texts'⟩ := yc
  simp only at *
  simp only [evA, evCp, Ev.cells, enA, List.cons_append, List.nil_append] at r1 r2 r3 r5 r8 hset
  rcases hch with ⟨c1, c2⟩ | ⟨c1, c2, -, c4, c5⟩
  · have c1' : (ce == 0) = false := by rw [beq_eq_false_iff_ne]; exact c1
    rw [c2] at r7
    clear hprev
    simp (config := { maxSteps := 1000000 }) (disch := omega) [-List.map_replicate, -List.map_set, -List.getD_eq_getElem?_getD, -getElem?_pos, -getElem?_neg, wrap_i64, le_strLim, le_sliceLim, le_buildLim, le_sliceLimI, Int.tmod_eq_emod_of_nonneg, Int.tdiv_eq_ediv_of_nonneg, omLe, omLeN, omLt, omLtN, omEq, omEqN, onLe, onLeN, onLt, onLtN, onEq, onEqN, ir8, ansAwake, hfew, hfx, hb, hL0, hmod, hm2, hz6, hgm, r1, r2, r3, r4, r5, hset, hlen2, r6, r7, c1, c1', enA, enCp, evCp, Ev.cells, splice]
  have hTl := (enc_fine c2).2.2.2.2
  have hSl := hfin.2.2.2.2
  have hBl : B.length = 32 := by
    rcases hprev with ⟨_, h⟩ | ⟨y, _, _, h1, h2⟩
    · rw [h]; rfl
    · rw [h2]; exact h1
  simp only [c2, if_true] at r8
  have hS1 := ansSumP (B ++ S) (by simp only [List.length_append]; omega)
  have hS2 := ansSumP (B ++ encT ⟨id, day, kind, nums, texts⟩) (by simp only [List.length_append]; omega)
  rw [← c5] at hS2
  clear c5
  generalize sumP (B ++ S) = D at *
  generalize encT ⟨id, day, kind, nums, texts⟩ = T at *
  have c4' : (S == T) = false := by rw [beq_eq_false_iff_ne]; exact c4
  have hck : ((ce == 0) = true) ∨ ((ce == 0) = false ∧ (ck == (m : Int)) = false) := by
    by_cases h : ce = 0
    · left; rw [h]; rfl
    · right
      refine ⟨by rw [beq_eq_false_iff_ne]; exact h, ?_⟩
      rw [beq_eq_false_iff_ne]
      rcases c1 with h1 | h1
      · exact absurd h1 h
      · exact h1
  clear c1
  rcases hprev with ⟨h0, hB⟩ | ⟨y, hpos, hy, hyd, hB⟩
  · subst h0
    subst hB
    have hzl : zeros.length = 32 := rfl
    have hS1 : ansF cfg 30 [.str (0 :: 0 :: 0 :: 0 :: 0 :: 0 :: 0 :: 0 :: 0 :: 0 :: 0 :: 0 :: 0 :: 0 :: 0 :: 0 :: 0 :: 0 :: 0 :: 0 :: 0 :: 0 :: 0 :: 0 :: 0 :: 0 :: 0 :: 0 :: 0 :: 0 :: 0 :: 0 :: S)] [] = some (.str D, []) := hS1
    have hS2 : ansF cfg 30 [.str (0 :: 0 :: 0 :: 0 :: 0 :: 0 :: 0 :: 0 :: 0 :: 0 :: 0 :: 0 :: 0 :: 0 :: 0 :: 0 :: 0 :: 0 :: 0 :: 0 :: 0 :: 0 :: 0 :: 0 :: 0 :: 0 :: 0 :: 0 :: 0 :: 0 :: 0 :: 0 :: T)] [] = some (.str D, []) := hS2
    have hmod : ((at0 : Int) % (L.length : Int)) = 0 := hmod
    rcases hck with k1 | ⟨k1, k2⟩
    · have k0 : ce = 0 := by simpa using k1
      subst k0
      simp (config := { maxSteps := 1000000 }) (disch := omega) [-List.map_replicate, -List.map_set, -List.getD_eq_getElem?_getD, -getElem?_pos, -getElem?_neg, wrap_i64, le_strLim, le_sliceLim, le_buildLim, le_sliceLimI, Int.tmod_eq_emod_of_nonneg, Int.tdiv_eq_ediv_of_nonneg, omLe, omLeN, omLt, omLtN, omEq, omEqN, onLe, onLeN, onLt, onLtN, onEq, onEqN, ir8, ansAwake, hfew, hfx, hb, hL0, hmod, hm2, hz6, hgm, r1, r2, r3, r4, r5, hset, hlen2, r6, r7, r8, hS1, hS2, c4, c4', zeros_bytes, hzl, enA, enCp, evCp, Ev.cells, Cfg.descOf, splice]
    · have k2 : (ck == 0) = false := k2
      have k0 : ¬ ce = 0 := by simpa using k1
      have k3 : ¬ ck = 0 := by simpa using k2
      simp (config := { maxSteps := 1000000 }) (disch := omega) [-List.map_replicate, -List.map_set, -List.getD_eq_getElem?_getD, -getElem?_pos, -getElem?_neg, wrap_i64, le_strLim, le_sliceLim, le_buildLim, le_sliceLimI, Int.tmod_eq_emod_of_nonneg, Int.tdiv_eq_ediv_of_nonneg, omLe, omLeN, omLt, omLtN, omEq, omEqN, onLe, onLeN, onLt, onLtN, onEq, onEqN, ir8, ansAwake, hfew, hfx, hb, hL0, hmod, hm2, hz6, hgm, r1, r2, r3, r4, r5, hset, hlen2, r6, r7, r8, hS1, hS2, c4, c4', k0, k1, k2, k3, zeros_bytes, hzl, enA, enCp, evCp, Ev.cells, Cfg.descOf, splice]
  · subst hB
    have hi1 := hi1 hpos
    obtain ⟨⟨id2, day2, kind2, nums2, texts2⟩, d2⟩ := y
    simp only at hyd hy hS1 hS2
    rcases hck with k1 | ⟨k1, k2⟩
    · have k0 : ce = 0 := by simpa using k1
      subst k0
      simp (config := { maxSteps := 1000000 }) (disch := omega) [-List.map_replicate, -List.map_set, -List.getD_eq_getElem?_getD, -getElem?_pos, -getElem?_neg, wrap_i64, le_strLim, le_sliceLim, le_buildLim, le_sliceLimI, Int.tmod_eq_emod_of_nonneg, Int.tdiv_eq_ediv_of_nonneg, omLe, omLeN, omLt, omLtN, omEq, omEqN, onLe, onLeN, onLt, onLtN, onEq, onEqN, ir8, ansAwake, hfew, hfx, hb, hL0, hmod, hm2, hz6, hgm, r1, r2, r3, r4, r5, hset, hlen2, r6, r7, r8, hS1, hS2, c4, c4', hpos, hi1, hy, zeros_bytes, enA, enCp, evCp, Ev.cells, Cfg.descOf, splice]
    · have k0 : ¬ ce = 0 := by simpa using k1
      have k3 : ¬ ck = (m : Int) := by simpa using k2
      simp (config := { maxSteps := 1000000 }) (disch := omega) [-List.map_replicate, -List.map_set, -List.getD_eq_getElem?_getD, -getElem?_pos, -getElem?_neg, wrap_i64, le_strLim, le_sliceLim, le_buildLim, le_sliceLimI, Int.tmod_eq_emod_of_nonneg, Int.tdiv_eq_ediv_of_nonneg, omLe, omLeN, omLt, omLtN, omEq, omEqN, onLe, onLeN, onLt, onLtN, onEq, onEqN, ir8, ansAwake, hfew, hfx, hb, hL0, hmod, hm2, hz6, hgm, r1, r2, r3, r4, r5, hset, hlen2, r6, r7, r8, hS1, hS2, c4, c4', k0, k1, k2, k3, hpos, hi1, hy, zeros_bytes, enA, enCp, evCp, Ev.cells, Cfg.descOf, splice]
end Go.Proofs.YtfhfnehoaiegcaaGreatDoor
