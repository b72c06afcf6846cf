/-
  The law NamingUnlike.
-/
import Derived.Test.YtlolhkjjbgpfbaaGreatDoorFewM
import Derived.Test.YtlolhkjjbgpfbaaGreatDoorFndM
set_option linter.all false
namespace Go.Proofs.YtlolhkjjbgpfbaaGreatDoor
open Go.Am
set_option maxRecDepth 10000
set_option maxHeartbeats 8000000
theorem hdGo2_in {l : List Au} {day : Int} {x : Au} : ∀ {a : List Au}, x ∈ a → (plainR l x day).2 = 0 → (moreT l x day, x.id) ∈ hdGo2 l day a
  | [], h, _ => by cases h
  | y :: r, h, hp => by
    simp only [hdGo2]
    rcases List.mem_cons.1 h with rfl | h
    · rw [if_pos hp]; exact List.mem_cons_self
    · have ih := hdGo2_in (a := r) h hp
      split
      · exact List.mem_cons_of_mem _ ih
      · exact ih
theorem plain_hdA2 : ∀ (l : List Hd1), plainAll (l.map hdA) = true
  | [] => rfl
  | x :: r => by simp [plainAll, hdA, AV.plain, plain_hdA2 r]
theorem preB_rest (u v : Str) : (u ++ v).drop u.length = v := by simp
theorem ansUnlikeS (nl : Option Bool) (z : Nat) (l : List Au) (hz : l ≠ [] → z = 6) (hinn : ∀ x ∈ l, x.inn) (hl : l.length ≤ maxLen) (day : Int) :
    ansF cfg 7 [auL nl z l, .int .i64 day] [] = some (.bool true, []) := by
  have hpl := plain_auA l
  have hFw := ansFew nl z l hz hinn hl
  refine ans_of_wp fn7 low7 ?_
  cases hf : fewL l with
  | false =>
    rw [hf] at hFw
    unfold auL at *
    simp (config := { maxSteps := 1000000 }) (disch := omega) [-List.map_replicate, -List.map_set, -List.getD_eq_getElem?_getD, -getElem?_pos, -getElem?_neg, om, ir7, awake, hFw, hpl]
  | true =>
    rw [hf] at hFw
    obtain ⟨hok, hln⟩ := few_ok hinn hf
    have hC := ansCopy nl z l hz hok (by omega)
    have hpl2 := plain_auA (cpL l)
    have ck := cpL_ok hok
    have hcl := cpL_len l
    have c2 := ansHeadings none 6 (cpL l) (fun _ => rfl) ck day (fun h => by rw [cp_asks] at h; rw [cpL_len]; exact few_asks hln h)
    rw [cp_hdsV, cp_asks] at c2
    by_cases h0 : asksE l day = 0
    case neg =>
      have h1 : (asksE l day != 0) = true := by simpa using h0
      have e1 : hdsV l day = .lst (some true) 0 [] := by unfold hdsV; rw [if_neg h0]
      rw [e1] at c2
      generalize asksE l day = e at *
      unfold auL at *
      simp (config := { maxSteps := 1000000 }) (disch := omega) [-List.map_replicate, -List.map_set, -List.getD_eq_getElem?_getD, -getElem?_pos, -getElem?_neg, om, ir7, awake, hFw, hpl, hpl2, hC, c2, h1]
    have hid := asks_inc h0
    have e1 : hdsV l day = .lst none 2 ((hdsL l day).map hdA) := by unfold hdsV; rw [if_pos h0]
    have hH := fun id => ansHeading none 6 (cpL l) (fun _ => rfl) ck id day
    have hN := fun id => ansNameA none 6 (cpL l) (fun _ => rfl) ck id day
    simp only [cp_headR] at hH
    simp only [cp_nameR] at hN
    have hF : ∀ id x, getA l id = some x → ansF cfg 36 [auL none 6 (cpL l), .int .i64 id] [] = some (.tup [ownV (cpAu x), .bool true], []) := fun id x hx =>
      ansFindA none 6 (cpL l) (fun _ => rfl) ck (by omega) id (by rw [cp_getA, hx]; rfl)
    have hone := fun (g : Hd1) (h : g ∈ hdsL l day) => hds_one h0 h
    have hlt : ∀ (i : Nat) (g g' : Hd1), (hdsL l day)[i]? = some g → (hdsL l day)[i + 1]? = some g' → cmpS g.1 g'.1 < 0 := fun i g g' h1 h2 => by
      obtain ⟨k1, rfl⟩ := List.getElem?_eq_some_iff.1 h1
      obtain ⟨k2, rfl⟩ := List.getElem?_eq_some_iff.1 h2
      exact hdsL_lt h0 (Nat.lt_succ_self i) k2
    have hcnt : cntU l day l = ((hdsL l day).length : Nat) := by rw [cntU_len, hdsL_len h0]
    have hb : ∀ g ∈ hdsL l day, g.1.length < 900000 := fun g hg => by
      obtain ⟨x, hx, hp, rfl⟩ := hdsL_mem h0 hg
      have : (moreT l x day, x.id) ∈ hdU l day := by
        rw [hdU_eq l day hid (fun y => plainR_err) (fun y _ => plainR_ne)]
        exact hdGo2_in hx hp
      exact hdU_b l day _ this
    have hlen : (hdsL l day).length ≤ l.length := by
      have := cntU_le l day l
      omega
    rw [e1, h0] at c2
    clear e1
    generalize hdsL l day = H at *
    have hpH := plain_hdA2 H
    unfold auL at *
    simp (config := { maxSteps := 1000000 }) (disch := omega) [-List.map_replicate, -List.map_set, -List.getD_eq_getElem?_getD, -getElem?_pos, -getElem?_neg, om, ir7, awake, hFw, hpl, hpl2, hC, c2, hpH]
    clear c2 hFw
    refine Wp.loopM (fun (a : Nat × Option AV × Option AV) => H.length - a.1) (fun a => [some (.lst nl z (l.map auA)), some (.int .i64 day), none, some (.lst none 2 (H.map hdA)), none, none, none, none, none, none, none, none, none, none, none, none, none, none, none, none, none, none, none, none, none, some (.lst none 2 (H.map hdA)), some (.int .i64 H.length), some (.int .i64 a.1), none, none, none, none, none, none, none, none, none, none, a.2.1, none, none, none, none, a.2.2, none, none, none, none, none, none, none, none, none]) (fun _ => []) (fun a => a.1 ≤ H.length) ?_ (0, none, none) (Nat.zero_le _) (by simp) rfl
    rintro ⟨i, o1, o2⟩ hi
    simp only at hi ⊢
    by_cases h1 : i < H.length
    · have hgm := List.getElem_mem h1
      have hg : (H.map hdA)[i]? = some (hdA H[i]) := by rw [List.getElem?_map, List.getElem?_eq_getElem h1]; rfl
      obtain ⟨x, hx, hget, _, hnm, hhd, ht, hp⟩ := hone _ hgm
      have k1 := hH H[i].2
      have k2 := hN H[i].2
      have k3 := hF H[i].2 x hget
      rw [hhd] at k1
      rw [hnm] at k2
      have hnl := nameR_len l H[i].2 day
      have hv := ansInverted (nameR l H[i].2 day).1 (by omega)
      have hc := ansCutP H[i].1 (plainR l x day).1 (by rw [ht]; exact preB_app _ _)
      have hdr : H[i].1.drop (plainR l x day).1.length = restT l x day := by rw [ht]; exact preB_rest _ _
      rw [hdr, hp] at hc
      have hr := ansPrefix (restT l x day) [32, 40]
      have hr2 := restT_pre l x day
      have hprev : 0 < i → (H.map hdA)[i - 1]? = some (hdA (H.getD (i - 1) ([], 0))) ∧ ansF cfg 19 [.str (H.getD (i - 1) ([], 0)).1, .str H[i].1] [] = some (.int .i64 (cmpS (H.getD (i - 1) ([], 0)).1 H[i].1), []) ∧ cmpS (H.getD (i - 1) ([], 0)).1 H[i].1 < 0 := fun h => by
        have hj : i - 1 < H.length := by omega
        have e : H.getD (i - 1) ([], 0) = H[i - 1] := by simp [List.getD_eq_getElem?_getD, hj]
        rw [e]
        refine ⟨by rw [List.getElem?_map, List.getElem?_eq_getElem hj]; rfl, ansCompare _ _ (hb _ (List.getElem_mem hj)) (hb _ hgm), hlt (i - 1) _ _ (List.getElem?_eq_getElem hj) (by rw [show i - 1 + 1 = i by omega]; exact List.getElem?_eq_getElem h1)⟩
      have hrl : (restT l x day).length < 900000 := by
        have := hb _ hgm
        rw [ht, List.length_append] at this
        omega
      generalize H.getD (i - 1) ([], 0) = p at *
      generalize (nameR l H[i].2 day).1 = nm at *
      generalize restT l x day = rs at *
      clear hdr hp ht hhd hnm hget hx hone hlt hH hN hF hb hcnt hgm hnl
      generalize H[i] = g at *
      obtain ⟨t, id⟩ := g
      obtain ⟨p1, p2⟩ := p
      simp only at k1 k2 k3 hv hc hprev
      simp only [ownV, cpAu] at k3
      by_cases hi0 : i = 0
      · subst hi0
        by_cases hk : x.kind = 1
        · rw [if_pos hk] at hc
          by_cases hrs : rs = []
          · subst hrs
            simp (config := { maxSteps := 1000000 }) (disch := omega) [-List.map_replicate, -List.map_set, -List.getD_eq_getElem?_getD, -getElem?_pos, -getElem?_neg, om, h1, hg, hdA, hC, hpl, hpl2, k1, k2, k3, hk, hv, hc, splice, plain_nmA, plain_intA]
            exact ⟨1, by omega, by omega, by simp⟩
          · rw [hr2 hrs] at hr
            have hrs2 : (rs == []) = false := by simpa using hrs
            simp (config := { maxSteps := 1000000 }) (disch := omega) [-List.map_replicate, -List.map_set, -List.getD_eq_getElem?_getD, -getElem?_pos, -getElem?_neg, om, h1, hg, hdA, hC, hpl, hpl2, k1, k2, k3, hk, hv, hc, splice, plain_nmA, plain_intA, hr, hrs, hrs2]
            exact ⟨1, by omega, by omega, by simp⟩
        · rw [if_neg hk] at hc
          have hk2 : (x.kind == 1) = false := by simpa using hk
          by_cases hrs : rs = []
          · subst hrs
            simp (config := { maxSteps := 1000000 }) (disch := omega) [-List.map_replicate, -List.map_set, -List.getD_eq_getElem?_getD, -getElem?_pos, -getElem?_neg, om, h1, hg, hdA, hC, hpl, hpl2, k1, k2, k3, hk, hk2, hc, splice, plain_nmA, plain_intA]
            exact ⟨1, by omega, by omega, by simp⟩
          · rw [hr2 hrs] at hr
            have hrs2 : (rs == []) = false := by simpa using hrs
            simp (config := { maxSteps := 1000000 }) (disch := omega) [-List.map_replicate, -List.map_set, -List.getD_eq_getElem?_getD, -getElem?_pos, -getElem?_neg, om, h1, hg, hdA, hC, hpl, hpl2, k1, k2, k3, hk, hk2, hc, splice, plain_nmA, plain_intA, hr, hrs, hrs2]
            exact ⟨1, by omega, by omega, by simp⟩
      · obtain ⟨hgp, hcm, hneg⟩ := hprev (by omega)
        have hi1 : 0 < i := by omega
        have ei : ((i : Int) - 1).toNat = i - 1 := by omega
        have hge : (decide (0 ≤ cmpS p1 t)) = false := by simp; omega
        clear hprev
        generalize cmpS p1 t = cc at *
        by_cases hk : x.kind = 1
        · rw [if_pos hk] at hc
          by_cases hrs : rs = []
          · subst hrs
            simp (config := { maxSteps := 1000000 }) (disch := omega) [-List.map_replicate, -List.map_set, -List.getD_eq_getElem?_getD, -getElem?_pos, -getElem?_neg, om, h1, hg, hi1, ei, hgp, hcm, hdA, hC, hpl, hpl2, k1, k2, k3, hk, hv, hc, splice, plain_nmA, plain_intA]
            exact ⟨i + 1, by omega, by omega, by simp⟩
          · rw [hr2 hrs] at hr
            have hrs2 : (rs == []) = false := by simpa using hrs
            simp (config := { maxSteps := 1000000 }) (disch := omega) [-List.map_replicate, -List.map_set, -List.getD_eq_getElem?_getD, -getElem?_pos, -getElem?_neg, om, h1, hg, hi1, ei, hgp, hcm, hdA, hC, hpl, hpl2, k1, k2, k3, hk, hv, hc, splice, plain_nmA, plain_intA, hr, hrs, hrs2]
            exact ⟨i + 1, by omega, by omega, by simp⟩
        · rw [if_neg hk] at hc
          have hk2 : (x.kind == 1) = false := by simpa using hk
          by_cases hrs : rs = []
          · subst hrs
            simp (config := { maxSteps := 1000000 }) (disch := omega) [-List.map_replicate, -List.map_set, -List.getD_eq_getElem?_getD, -getElem?_pos, -getElem?_neg, om, h1, hg, hi1, ei, hgp, hcm, hdA, hC, hpl, hpl2, k1, k2, k3, hk, hk2, hc, splice, plain_nmA, plain_intA]
            exact ⟨i + 1, by omega, by omega, by simp⟩
          · rw [hr2 hrs] at hr
            have hrs2 : (rs == []) = false := by simpa using hrs
            simp (config := { maxSteps := 1000000 }) (disch := omega) [-List.map_replicate, -List.map_set, -List.getD_eq_getElem?_getD, -getElem?_pos, -getElem?_neg, om, h1, hg, hi1, ei, hgp, hcm, hdA, hC, hpl, hpl2, k1, k2, k3, hk, hk2, hc, splice, plain_nmA, plain_intA, hr, hrs, hrs2]
            exact ⟨i + 1, by omega, by omega, by simp⟩
    · have hlen2 : i = H.length := by omega
      subst hlen2
      clear hone hlt hb hH hF
      simp (config := { maxSteps := 1000000 }) (disch := omega) [-List.map_replicate, -List.map_set, -List.getD_eq_getElem?_getD, -getElem?_pos, -getElem?_neg, om, h1]
      refine Wp.loopM (fun (a : Nat) => l.length - a) (fun a => [some (.lst nl z (l.map auA)), some (.int .i64 day), none, some (.lst none 2 (H.map hdA)), none, none, none, none, none, none, none, none, none, none, none, some (.int .i64 (cntU l day (l.take a))), none, none, none, none, none, none, none, none, none, none, none, none, none, none, none, none, none, none, none, none, none, none, none, none, none, none, none, none, none, some (.lst nl z (l.map auA)), some (.int .i64 l.length), some (.int .i64 a), none, none, none, none, none]) (fun _ => []) (fun a => a ≤ l.length) ?_ 0 (Nat.zero_le _) (by simp [cntU]) rfl
      intro j hj
      by_cases h2 : j < l.length
      · have hz6 : z = 6 := hz (by intro h; rw [h] at h2; simp at h2)
        subst hz6
        have hg := get_aus l h2
        have k2 := hN l[j].id
        have hle := cntU_le l day (l.take j)
        have htl : (l.take j).length = j := by simp; omega
        rw [htl] at hle
        have hst : cntU l day (l.take (j + 1)) = cntU l day (l.take j) + (if (nameR l l[j].id day).2 = 0 then 1 else 0) := by
          rw [List.take_add_one, List.getElem?_eq_getElem h2, cntU_app]
          simp only [Option.toList_some, cntU]
          split <;> omega
        generalize hA1 : cntU l day (l.take (j + 1)) = A1 at *
        generalize cntU l day (l.take j) = A at *
        generalize (nameR l l[j].id day).2 = e at *
        generalize (nameR l l[j].id day).1 = nm at *
        generalize l[j] = y at *
        clear hN hcnt
        by_cases h3 : e = 0
        · rw [if_pos h3] at hst
          subst h3
          simp (config := { maxSteps := 1000000 }) (disch := omega) [-List.map_replicate, -List.map_set, -List.getD_eq_getElem?_getD, -getElem?_pos, -getElem?_neg, om, h2, hg, hC, hpl, hpl2, auA, Au.cells, splice, plain_nmA, plain_intA, k2]
          exact ⟨j + 1, by omega, by omega, by rw [hA1]; omega, by simp⟩
        · rw [if_neg h3] at hst
          have h4 : (e == 0) = false := by simpa using h3
          simp (config := { maxSteps := 1000000 }) (disch := omega) [-List.map_replicate, -List.map_set, -List.getD_eq_getElem?_getD, -getElem?_pos, -getElem?_neg, om, h2, hg, hC, hpl, hpl2, auA, Au.cells, splice, plain_nmA, plain_intA, k2, h4, h3]
          exact ⟨j + 1, by omega, by omega, by rw [hA1]; omega, by simp⟩
      · have hlen2 : j = l.length := by omega
        subst hlen2
        rw [List.take_length, hcnt]
        simp (config := { maxSteps := 1000000 }) (disch := omega) [-List.map_replicate, -List.map_set, -List.getD_eq_getElem?_getD, -getElem?_pos, -getElem?_neg, om, h2]
theorem ansUnlike {xs : List AV} (h : ShpArgs Tryz.prog [28, 3] xs) : ansF cfg 7 xs [] = some (.bool true, []) := by
  obtain ⟨nl, z, l, r, rfl, hz, hl, hinn, h⟩ := args_aus h
  obtain ⟨day, r, rfl, _, _, h⟩ := args_int h
  subst h
  exact ansUnlikeS (some nl) z l hz hinn hl day
end Go.Proofs.YtlolhkjjbgpfbaaGreatDoor
