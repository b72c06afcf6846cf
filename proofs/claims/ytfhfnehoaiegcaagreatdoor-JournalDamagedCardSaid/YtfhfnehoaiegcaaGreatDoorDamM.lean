/-
  The law JournalDamaged, for the machine.
-/
import Derived.Test.YtfhfnehoaiegcaaGreatDoorLawM
set_option linter.all false
namespace Go.Proofs.YtfhfnehoaiegcaaGreatDoor
open Go.Am
set_option maxRecDepth 10000
set_option maxHeartbeats 8000000

theorem wr_nil {L : List EntC} (h : wr L = []) : L = [] := by
  cases L with
  | nil => rfl
  | cons x L =>
    rw [wr_cons] at h
    have := congrArg List.length h
    simp [wr1, be4] at this
theorem xor_u8 (a : UInt8) (n : Nat) (h : n < 256) : binA cfg 5 BinOp.xor (ofByte a) (.int .u8 n) = some (ofByte (a ^^^ UInt8.ofNat n)) := by
  unfold ofByte
  simp (config := { maxSteps := 1000000 }) (disch := omega) [-List.map_replicate, -List.map_set, -List.getD_eq_getElem?_getD, -getElem?_pos, -getElem?_neg, wrap_i64, le_strLim, le_sliceLim, le_buildLim, le_sliceLimI, Int.tmod_eq_emod_of_nonneg, Int.tdiv_eq_ediv_of_nonneg, omLe, omLeN, omLt, omLtN, omEq, omEqN, onLe, onLeN, onLt, onLtN, onEq, onEqN, binA]
  have ha := a.toNat_lt
  have e1 : a.toNat % 2 ^ IntKind.u8.bits = a.toNat := Nat.mod_eq_of_lt (by simp only [IntKind.bits]; omega)
  have e2 : n % 2 ^ IntKind.u8.bits = n % 256 := rfl
  have e3 : a.toNat ^^^ n % 256 < 2 ^ 8 := Nat.xor_lt_two_pow (by omega) (by omega)
  rw [e1, e2]
  generalize a.toNat ^^^ n % 256 = q at *
  simp [IntKind.wrap, IntKind.signed, IntKind.bits]
  omega
theorem bytes_map (s : Str) : bytesOf (s.map ofByte) = some s := by
  simp
theorem set_map (s : Str) (m : Nat) (b : UInt8) : (s.map ofByte).set m (ofByte b) = (s.set m b).map ofByte := by simp
theorem xor_ne (a : UInt8) {n : Nat} (h : n < 256) (h0 : ¬ n = 0) : a ^^^ UInt8.ofNat n ≠ a := by
  intro e
  have h1 := congrArg (a ^^^ ·) e
  simp only [← UInt8.xor_assoc, UInt8.xor_self, UInt8.zero_xor] at h1
  have h2 := congrArg UInt8.toNat h1
  simp at h2
  omega

theorem right_at {G : List EntC} (h : right none G) {i : Nat} (hi : i < G.length) : G[i].d = sealT (lastE none (G.take i)) (encT G[i].c) := by
  have e : G = G.take i ++ (G[i] :: G.drop (i + 1)) := by rw [← List.drop_eq_getElem_cons hi, List.take_append_drop]
  rw [e, right_app] at h
  exact (ent_fine h.2.1).2.2
theorem last_at {G : List EntC} {i : Nat} (hi : i < G.length) : lastE none (G.take (i + 1)) = some G[i] := by
  rw [take_succ hi, lastE_app]
  rfl

theorem ansDamaged {xs : List AV} (h : ShpArgs Tryz.prog [46, 53, 5] xs) : ansF cfg 7 xs [] = some (.bool true, []) := by
  obtain ⟨nl, z, l, r, rfl, hz, -, hlen, hin, hr⟩ := args_evs h
  obtain ⟨at0, r, rfl, hat, hr⟩ := args_u16 hr
  obtain ⟨by0, r, rfl, hby, hr⟩ := args_u8 hr
  obtain rfl := args_nil hr
  clear h
  refine ans_of_wp fn7 low7 ?_
  have hfew := ansFewAll (some nl) z l hz (fun x hx => (hin x hx).w) hlen
  cases hf : fewAll (l.map (·.c)) with
  | false =>
    rw [hf] at hfew
    simp (config := { maxSteps := 1000000 }) (disch := omega) [-List.map_replicate, -List.map_set, -List.getD_eq_getElem?_getD, -getElem?_pos, -getElem?_neg, wrap_i64, le_strLim, le_sliceLim, le_buildLim, le_sliceLimI, Int.tmod_eq_emod_of_nonneg, Int.tdiv_eq_ediv_of_nonneg, omLe, omLeN, omLt, omLtN, omEq, omEqN, onLe, onLeN, onLt, onLtN, onEq, onEqN, ir7, ansAwake, hfew]
  | true =>
  rw [hf] at hfew
  by_cases hb0 : by0 = 0
  · subst hb0
    simp (config := { maxSteps := 1000000 }) (disch := omega) [-List.map_replicate, -List.map_set, -List.getD_eq_getElem?_getD, -getElem?_pos, -getElem?_neg, wrap_i64, le_strLim, le_sliceLim, le_buildLim, le_sliceLimI, Int.tmod_eq_emod_of_nonneg, Int.tdiv_eq_ediv_of_nonneg, omLe, omLeN, omLt, omLtN, omEq, omEqN, onLe, onLeN, onLt, onLtN, onEq, onEqN, ir7, ansAwake, hfew]
  have hb0' : ((by0 : Int) == 0) = false := by rw [beq_eq_false_iff_ne]; omega
  obtain ⟨h20, hok⟩ := few_ok hf hin
  have hb := ansBuild (some nl) z l hz hok (by omega)
  have hJ := jl_build (l.map (·.c)) (by simpa using h20)
  have hLl := bldF_len (l.map (·.c)) []
  simp only [List.length_nil, List.length_map] at hLl
  have hbz : bldF [] (l.map (·.c)) ≠ [] → bZ (bldF [] (l.map (·.c))) = 6 := bZ_ne
  generalize bldF [] (l.map (·.c)) = L at *
  have q1 := hJ.copy (bN L) (bZ L) hbz
  have q3 := hJ.write
  have hwl := jl_len hJ
  have hL100 := hJ.n
  by_cases hw0 : wr L = []
  · have hL0 : L.length = 0 := by rw [wr_nil hw0]; rfl
    rw [hw0] at q3
    simp (config := { maxSteps := 1000000 }) (disch := omega) [-List.map_replicate, -List.map_set, -List.getD_eq_getElem?_getD, -getElem?_pos, -getElem?_neg, wrap_i64, le_strLim, le_sliceLim, le_buildLim, le_sliceLimI, Int.tmod_eq_emod_of_nonneg, Int.tdiv_eq_ediv_of_nonneg, omLe, omLeN, omLt, omLtN, omEq, omEqN, onLe, onLeN, onLt, onLtN, onEq, onEqN, ir7, ansAwake, hfew, hb0', hb, q1, q3, hL0, splice]
  have hw0' : (wr L == []) = false := by rw [beq_eq_false_iff_ne]; exact hw0
  have hwp : 0 < (wr L).length := List.length_pos_iff.2 hw0
  obtain ⟨m, hm, hm2⟩ : ∃ m, at0 % (wr L).length = m ∧ m < (wr L).length := ⟨_, rfl, Nat.mod_lt _ hwp⟩
  have hmod : ((at0 : Int) % ((wr L).length : Int)) = (m : Int) := by
    rw [← hm]; simp
  have hgx : (wr L)[m]? = some (wr L)[m] := List.getElem?_eq_getElem hm2
  have hxor := xor_u8 (wr L)[m] by0 hby
  have hne : ((wr L).set m ((wr L)[m] ^^^ UInt8.ofNat by0))[m]? ≠ (wr L)[m]? := by
    rw [List.getElem?_set_self hm2, hgx]
    intro e
    exact xor_ne _ hby hb0 (Option.some.inj e)
  have heq : ∀ j, j < m → ((wr L).set m ((wr L)[m] ^^^ UInt8.ofNat by0))[j]? = (wr L)[j]? := fun j hj => List.getElem?_set_ne (by omega)
  have hlen2 : ((wr L).set m ((wr L)[m] ^^^ UInt8.ofNat by0)).length = (wr L).length := List.length_set
  have hset : ((wr L).map ofByte).set m (ofByte ((wr L)[m] ^^^ UInt8.ofNat by0)) = ((wr L).set m ((wr L)[m] ^^^ UInt8.ofNat by0)).map ofByte := set_map _ _ _
  generalize (wr L).set m ((wr L)[m] ^^^ UInt8.ofNat by0) = bent at *
  have hconv := bytes_map bent
  have q4 := ansRecP bent (by omega)
  obtain ⟨dA, dB⟩ := damaged hJ.r (by omega) hlen2 (by omega) hne heq
  obtain ⟨s1, s2, s3, s4, s5⟩ := recF_spec bent none 0
  generalize recF bent none 0 = q at *
  obtain ⟨G, n⟩ := q
  simp only at q4 dA dB s1 s2 s3 s4 s5
  generalize (wr L)[m] = x at *
  by_cases hnm : n ≤ m
  · obtain ⟨r, hr⟩ := dA hnm
    have hgl : G.length ≤ L.length := by rw [hr]; simp
    have hbe : (bZ L == 6 || (ensA (cps L)).isEmpty) = true := by
      by_cases e : L = []
      · rw [e]; rfl
      · rw [hbz e]; rfl
    have ht1 : (ensA (cps L)).take G.length = ensA (cps G) := by rw [hr]; simp [ensA, cps]
    have hGz : G ≠ [] → bZ L = 6 := fun h => hbz (by intro e; rw [e] at hr; simp at hr; exact h hr.1)
    have hJG : JL G := ⟨s1, by omega⟩
    have q5 := hJG.same (nl := none) (z := 6) (nl' := bN L) (z' := bZ L) (fun _ => rfl) hGz
    have hel := ensN_len G
    simp (config := { maxSteps := 1000000 }) (disch := omega) [-List.map_replicate, -List.map_set, -List.getD_eq_getElem?_getD, -getElem?_pos, -getElem?_neg, wrap_i64, le_strLim, le_sliceLim, le_buildLim, le_sliceLimI, Int.tmod_eq_emod_of_nonneg, Int.tdiv_eq_ediv_of_nonneg, omLe, omLeN, omLt, omLtN, omEq, omEqN, onLe, onLeN, onLt, onLtN, onEq, onEqN, ir7, ansAwake, hfew, hb0', hb, q1, q3, hmod, hw0, hw0', hwp, hm2, hgx, hxor, hset, hconv, q4, q5, hgl, hbe, ht1, hel, hnm, Cfg.descOf, splice]
  · obtain ⟨k, k1, k2, k3, k4⟩ := dB (by omega)
    have hel := ensN_len G
    simp (config := { maxSteps := 1000000 }) (disch := omega) [-List.map_replicate, -List.map_set, -List.getD_eq_getElem?_getD, -getElem?_pos, -getElem?_neg, wrap_i64, le_strLim, le_sliceLim, le_buildLim, le_sliceLimI, Int.tmod_eq_emod_of_nonneg, Int.tdiv_eq_ediv_of_nonneg, omLe, omLeN, omLt, omLtN, omEq, omEqN, onLe, onLeN, onLt, onLtN, onEq, onEqN, ir7, ansAwake, hfew, hb0', hb, q1, q3, hmod, hw0, hw0', hwp, hm2, hgx, hxor, hset, hconv, q4, hel, hnm, Cfg.descOf, splice]
    clear q1 q3 q4 hb hfew hconv hset dA dB
    refine Wp.loopM (fun (i : Nat) => G.length - i) (fun i => [none, none, none, none, some (.lst (bN L) (bZ L) (ensA (cps L))), none, none, none, none, some (.lst none 6 (ensA (ensN G))), none, none, none, none, none, none, none, none, none, none, none, none, none, none, none, none, none, none, none, none, none, none, some (.lst none 6 (ensA (ensN G))), some (.int .i64 G.length), some (.int .i64 i), none, none, none, none, none, none, none, none, none, none, none, none])
      (fun _ => [.dead, .sl ⟨false, some 5⟩ 1 (bent.map ofByte), .dead]) (fun i => i ≤ k) ?_ 0 (by omega) (by simp) rfl
    intro i hi
    have hiG : i < G.length := by omega
    have hiL : i < L.length := by omega
    have hg : (ensN G)[i]? = some (enN G[i]) := by simp [ensN, hiG]
    have hg' : (cps L)[i]? = some (enCp L[i]) := by simp [cps, hiL]
    have hbz6 : bZ L = 6 := hbz (by intro e; rw [e] at hiL; simp at hiL)
    obtain ⟨e1, e2⟩ := right_mem s1 _ (List.getElem_mem hiG)
    have okx := right_okN s1 (enN G[i]) (List.mem_map_of_mem (List.getElem_mem hiG))
    have oky := (hJ.good (enCp L[i]) (List.mem_map_of_mem (List.getElem_mem hiL))).ok
    have hfin := enc_fine e1
    have r1 := ansSameEv (evN G[i].c) (evCp L[i].c) okx.e oky.e
    by_cases hik : i < k
    · have he : G[i] = L[i] := by
        have := k3 i hik
        rw [List.getElem?_eq_getElem hiG, List.getElem?_eq_getElem hiL] at this
        exact Option.some.inj this
      rw [he] at hg r1 e2
      simp only [evCp_c, evN] at r1
      generalize L[i] = x at *
      obtain ⟨⟨id, day, kind, nums, texts⟩, d⟩ := x
      simp only [evA, Ev.cells, evCp, evN, decide_true] at r1
      simp (config := { maxSteps := 1000000 }) (disch := omega) [-List.map_replicate, -List.map_set, -List.getD_eq_getElem?_getD, -getElem?_pos, -getElem?_neg, wrap_i64, le_strLim, le_sliceLim, le_buildLim, le_sliceLimI, Int.tmod_eq_emod_of_nonneg, Int.tdiv_eq_ediv_of_nonneg, omLe, omLeN, omLt, omLtN, omEq, omEqN, onLe, onLeN, onLt, onLtN, onEq, onEqN, hg, hg', hbz6, r1, enA, enN, enCp, evCp, evN, Ev.cells, splice]
      exact ⟨i + 1, by omega, by omega, by omega⟩
    · obtain rfl : i = k := by omega
      have hd := right_at s1 hiG
      have hne2 : ¬ G[i] = L[i] := fun e => k4 (by rw [List.getElem?_eq_getElem hiG, List.getElem?_eq_getElem hiL, e])
      have r2 := ansCopyEv (evN G[i].c) okx.e
      have okc : (evCp G[i].c).ok := evCp_ok (by omega) (by omega)
      have r3 := ansEncP (evCp G[i].c) okc
      unfold encA at r3
      have hprev : (i = 0 ∧ G[i].d = sumP (zeros ++ encT G[i].c)) ∨ (∃ y, 0 < i ∧ (ensN G)[i - 1]? = some (enN y) ∧ y.d.length = 32 ∧ G[i].d = sumP (y.d ++ encT G[i].c)) := by
        cases i with
        | zero => exact .inl ⟨rfl, hd⟩
        | succ j =>
          have hj : j < G.length := by omega
          refine .inr ⟨G[j], by omega, by simp [ensN, hj], (right_mem s1 _ (List.getElem_mem hj)).2, ?_⟩
          rw [last_at hj] at hd
          exact hd
      clear hd
      generalize G[i] = x at *
      generalize L[i] = y at *
      change _ = some (AV.bool (decide (x.c = y.c)), ([] : List Box)) at r1
      have hcd : (decide (x.c = y.c) && (x.d == y.d)) = false := by
        rw [Bool.and_eq_false_iff]
        by_cases hc : x.c = y.c
        · right
          rw [beq_eq_false_iff_ne]
          intro hd
          obtain ⟨xc, xd⟩ := x
          obtain ⟨yc, yd⟩ := y
          simp only at hc hd
          exact hne2 (by rw [hc, hd])
        · left
          exact decide_eq_false hc
      generalize decide (x.c = y.c) = D at *
      clear hne2 k4
      obtain ⟨⟨id, day, kind, nums, texts⟩, d⟩ := x
      obtain ⟨⟨id', day', kind', nums', texts'⟩, d'⟩ := y
      simp only at e1 e2 hfin hprev hcd
      simp only [evA, Ev.cells, evCp, evN, e1, if_true] at r1 r2 r3
      generalize encT ⟨id, day, kind, nums, texts⟩ = T at *
      rcases hprev with ⟨rfl, hd⟩ | ⟨y, hpos, hy, hyd, hd⟩
      · have hzl : zeros.length = 32 := rfl
        have hS : ansF cfg 30 [.str (0 :: 0 :: 0 :: 0 :: 0 :: 0 :: 0 :: 0 :: 0 :: 0 :: 0 :: 0 :: 0 :: 0 :: 0 :: 0 :: 0 :: 0 :: 0 :: 0 :: 0 :: 0 :: 0 :: 0 :: 0 :: 0 :: 0 :: 0 :: 0 :: 0 :: 0 :: 0 :: T)] [] = some (.str (sumP (zeros ++ T)), []) := ansSumP (zeros ++ T) (by simp only [List.length_append]; omega)
        rw [← hd] at hS
        clear hd
        cases D with
        | true =>
          have hdd : (d == d') = false := by simpa using hcd
          simp (config := { maxSteps := 1000000 }) (disch := omega) [-List.map_replicate, -List.map_set, -List.getD_eq_getElem?_getD, -getElem?_pos, -getElem?_neg, wrap_i64, le_strLim, le_sliceLim, le_buildLim, le_sliceLimI, Int.tmod_eq_emod_of_nonneg, Int.tdiv_eq_ediv_of_nonneg, omLe, omLeN, omLt, omLtN, omEq, omEqN, onLe, onLeN, onLt, onLtN, onEq, onEqN, hg, hg', hbz6, r1, r2, r3, hS, hdd, zeros_bytes, hzl, hfin, enA, enN, enCp, evCp, evN, Ev.cells, Cfg.descOf, splice]
        | false =>
          simp (config := { maxSteps := 1000000 }) (disch := omega) [-List.map_replicate, -List.map_set, -List.getD_eq_getElem?_getD, -getElem?_pos, -getElem?_neg, wrap_i64, le_strLim, le_sliceLim, le_buildLim, le_sliceLimI, Int.tmod_eq_emod_of_nonneg, Int.tdiv_eq_ediv_of_nonneg, omLe, omLeN, omLt, omLtN, omEq, omEqN, onLe, onLeN, onLt, onLtN, onEq, onEqN, hg, hg', hbz6, r1, r2, r3, hS, zeros_bytes, hzl, hfin, enA, enN, enCp, evCp, evN, Ev.cells, Cfg.descOf, splice]
      · have hS := ansSumP (y.d ++ T) (by simp only [List.length_append]; omega)
        have hi1 : ((i : Int) - 1).toNat = i - 1 := by omega
        rw [← hd] at hS
        clear hd
        obtain ⟨⟨id2, day2, kind2, nums2, texts2⟩, d2⟩ := y
        simp only at hyd hy hS
        cases D with
        | true =>
          have hdd : (d == d') = false := by simpa using hcd
          simp (config := { maxSteps := 1000000 }) (disch := omega) [-List.map_replicate, -List.map_set, -List.getD_eq_getElem?_getD, -getElem?_pos, -getElem?_neg, wrap_i64, le_strLim, le_sliceLim, le_buildLim, le_sliceLimI, Int.tmod_eq_emod_of_nonneg, Int.tdiv_eq_ediv_of_nonneg, omLe, omLeN, omLt, omLtN, omEq, omEqN, onLe, onLeN, onLt, onLtN, onEq, onEqN, hg, hg', hbz6, r1, r2, r3, hS, hdd, hpos, hy, hi1, zeros_bytes, hfin, enA, enN, enCp, evCp, evN, Ev.cells, Cfg.descOf, splice]
        | false =>
          simp (config := { maxSteps := 1000000 }) (disch := omega) [-List.map_replicate, -List.map_set, -List.getD_eq_getElem?_getD, -getElem?_pos, -getElem?_neg, wrap_i64, le_strLim, le_sliceLim, le_buildLim, le_sliceLimI, Int.tmod_eq_emod_of_nonneg, Int.tdiv_eq_ediv_of_nonneg, omLe, omLeN, omLt, omLtN, omEq, omEqN, onLe, onLeN, onLt, onLtN, onEq, onEqN, hg, hg', hbz6, r1, r2, r3, hS, hpos, hy, hi1, zeros_bytes, hfin, enA, enN, enCp, evCp, evN, Ev.cells, Cfg.descOf, splice]
end Go.Proofs.YtfhfnehoaiegcaaGreatDoor
