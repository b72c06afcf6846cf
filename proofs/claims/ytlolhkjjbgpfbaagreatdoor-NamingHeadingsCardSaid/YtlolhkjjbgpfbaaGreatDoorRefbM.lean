/-
  The reference's Headings. The reference's Search; equal lists of headings.
-/
import Derived.Test.YtlolhkjjbgpfbaaGreatDoorRefaM
import Derived.Test.YtlolhkjjbgpfbaaGreatDoorCmpM
set_option linter.all false
namespace Go.Proofs.YtlolhkjjbgpfbaaGreatDoor
open Go.Am
set_option maxRecDepth 10000
set_option maxHeartbeats 4000000
theorem ansLess (a b : Hd1) (ha : a.1.length < 900000) (hb : b.1.length < 900000) : ansF cfg 74 [hdA a, hdA b] [] = some (.bool (decide (cmpH a b < 0)), []) := by
  have h := ansCompareR a.1 b.1 ha hb
  refine ans_of_wp fn74 low74 ?_
  unfold cmpH orI cmpI hdA
  generalize cmpS a.1 b.1 = c at *
  by_cases h1 : c < 0
  · have h2 : ¬ c = 0 := by omega
    simp (config := { maxSteps := 1000000 }) (disch := omega) [-List.map_replicate, -List.map_set, -List.getD_eq_getElem?_getD, -getElem?_pos, -getElem?_neg, om, ir74, h, h1, h2]
  · by_cases h2 : c = 0
    · subst h2
      by_cases h3 : a.2 < b.2
      · simp (config := { maxSteps := 1000000 }) (disch := omega) [-List.map_replicate, -List.map_set, -List.getD_eq_getElem?_getD, -getElem?_pos, -getElem?_neg, om, ir74, h, h3]
      · by_cases h4 : a.2 = b.2
        · simp (config := { maxSteps := 1000000 }) (disch := omega) [-List.map_replicate, -List.map_set, -List.getD_eq_getElem?_getD, -getElem?_pos, -getElem?_neg, om, ir74, h, h3, h4]
        · simp (config := { maxSteps := 1000000 }) (disch := omega) [-List.map_replicate, -List.map_set, -List.getD_eq_getElem?_getD, -getElem?_pos, -getElem?_neg, om, ir74, h, h3, h4]
    · simp (config := { maxSteps := 1000000 }) (disch := omega) [-List.map_replicate, -List.map_set, -List.getD_eq_getElem?_getD, -getElem?_pos, -getElem?_neg, om, ir74, h, h1, h2]
theorem hdGo2_app (l : List Au) (day : Int) (a b : List Au) : hdGo2 l day (a ++ b) = hdGo2 l day a ++ hdGo2 l day b := by
  induction a with
  | nil => rfl
  | cons x r ih => simp only [List.cons_append, hdGo2]; split <;> simp [ih]
def insP (l : List Au) (day : Int) (i : Nat) : List Hd1 := (hdGo2 l day (l.take i)).foldl insL []
theorem insP_step (l : List Au) (day : Int) {i : Nat} (hi : i < l.length) : insP l day (i + 1) = if (plainR l l[i] day).2 = 0 then insL (insP l day i) (moreT l l[i] day, l[i].id) else insP l day i := by
  unfold insP
  rw [List.take_add_one, List.getElem?_eq_getElem hi, hdGo2_app, List.foldl_append]
  simp only [Option.toList_some, hdGo2]
  split
  · simp
  · simp
theorem atL_step (x : Hd1) {P : List Hd1} {k : Nat} (h : k < P.length) : atL x (P.drop k) = if cmpH P[k] x < 0 then atL x (P.drop (k + 1)) + 1 else 0 := by
  rw [List.drop_eq_getElem_cons h]
  rfl
theorem insP_len (l : List Au) (day : Int) : ∀ i, (insP l day i).length ≤ i := by
  have go : ∀ (L P : List Hd1), (L.foldl insL P).length = P.length + L.length := fun L => by
    induction L with
    | nil => intro P; rfl
    | cons x r ih => intro P; rw [List.foldl_cons, ih]; unfold insL; simp; omega
  have g2 : ∀ a : List Au, (hdGo2 l day a).length ≤ a.length := fun a => by
    induction a with
    | nil => simp [hdGo2]
    | cons x r ih =>
      simp only [hdGo2, List.length_cons]
      split
      · simp only [List.length_cons]; omega
      · omega
  intro i
  unfold insP
  rw [go]
  have := g2 (l.take i)
  rw [List.length_take] at this
  simp
  omega
theorem tmps_two (b : Builtin) (ts : Array TypeId) (a d : Nat) : opTmps (.call ⟨.builtin b, #[.tmp a, .tmp d], ts⟩) = [a, d] := rfl
theorem insL_mem {P : List Hd1} {x y : Hd1} : y ∈ insL P x ↔ y = x ∨ y ∈ P := by
  unfold insL
  generalize atL x P = j
  constructor
  · intro h
    rcases List.mem_append.1 h with h | h
    · exact .inr (List.mem_of_mem_take h)
    · rcases List.mem_cons.1 h with h | h
      · exact .inl h
      · exact .inr (List.mem_of_mem_drop h)
  · rintro (rfl | h)
    · simp
    · rw [← List.take_append_drop j P] at h
      rcases List.mem_append.1 h with h | h
      · exact List.mem_append.2 (.inl h)
      · exact List.mem_append.2 (.inr (by simp [h]))
theorem foldL_mem {y : Hd1} : ∀ (L P : List Hd1), y ∈ L.foldl insL P → y ∈ L ∨ y ∈ P
  | [], P, h => .inr h
  | x :: L, P, h => by
    rcases foldL_mem L _ h with h | h
    · exact .inl (by simp [h])
    · rcases insL_mem.1 h with h | h
      · exact .inl (by simp [h])
      · exact .inr h
theorem insP_mem {l : List Au} {day : Int} {i : Nat} {y : Hd1} (h : y ∈ insP l day i) : y ∈ hdGo2 l day l := by
  rcases foldL_mem _ _ h with h | h
  · have h2 := hdGo2_app l day (l.take i) (l.drop i)
    rw [List.take_append_drop] at h2
    rw [h2]
    exact List.mem_append.2 (.inl h)
  · simp at h
def outV (P : List Hd1) : AV := .lst (match P with | [] => some true | _ => none) (match P with | [] => 0 | _ => 2) (P.map hdA)
theorem outV_at (P : List Hd1) : ∃ n z, outV P = .lst n z (P.map hdA) ∧ (P ≠ [] → z = 2) := by
  cases P with
  | nil => exact ⟨_, _, rfl, fun h => absurd rfl h⟩
  | cons x r => exact ⟨_, _, rfl, fun _ => rfl⟩
theorem outV_cons {P : List Hd1} (h : P ≠ []) : outV P = .lst none 2 (P.map hdA) := by
  cases P with
  | nil => exact absurd rfl h
  | cons x r => rfl
def hdsW (l : List Au) (day : Int) : AV := if asksE l day = 0 then outV (hdsL l day) else .lst (some true) 0 []
theorem ansHeadingsR (nl : Option Bool) (z : Nat) (l : List Au) (hz : l ≠ [] → z = 6) (hok : ∀ x ∈ l, x.ok) (day : Int) :
    ansF cfg 28 [auL nl z l, .int .i64 day] [] = some (.tup [hdsW l day, .int .i64 (asksE l day)], []) := by
  have h := ansBasic24 nl z l hz hok day
  have hpl := plain_auA l
  unfold hdsW
  by_cases h0 : asksE l day = 0
  case neg =>
    refine ans_of_wp fn28 low28 ?_
    rw [if_neg h0]
    generalize asksE l day = e at *
    have h1 : (e != 0) = true := by simpa using h0
    unfold auL at *
    simp (config := { maxSteps := 1000000 }) (disch := omega) [-List.map_replicate, -List.map_set, -List.getD_eq_getElem?_getD, -getElem?_pos, -getElem?_neg, om, ir28, h, h1, hpl]
  have hll := asks_len h0
  have hid := asks_inc h0
  have hH := fun id => ansHeadingR nl z l hz hok id day
  have hfin : hdsL l day = insP l day l.length := by
    unfold insP
    rw [List.take_length]
    exact (hdsL_eq h0).1
  have hbd : ∀ y ∈ hdGo2 l day l, y.1.length < 900000 := by
    rw [← hdU_eq l day hid (fun y => plainR_err) (fun y _ => plainR_ne)]
    exact hdU_b l day
  rw [if_pos h0, hfin]
  rw [h0] at h ⊢
  refine ans_of_wp fn28 low28 ?_
  unfold auL at *
  simp (config := { maxSteps := 1000000 }) (disch := omega) [-List.map_replicate, -List.map_set, -List.getD_eq_getElem?_getD, -getElem?_pos, -getElem?_neg, om, ir28, h, hpl]
  clear h hfin
  refine Wp.loopM (fun (a : Nat × Option AV) => l.length - a.1) (fun a => [some (.lst nl z (l.map auA)), some (.int .i64 day), none, none, none, some (outV (insP l day a.1)), some (.int .i64 a.1), none, none, none, none, none, none, none, none, none, none, none, a.2, none, none, none, none, none, none, none, none]) (fun _ => [])
    (fun a => a.1 ≤ l.length) ?_ (0, none) (Nat.zero_le _) (by simp [insP, hdGo2, outV]) rfl
  rintro ⟨i, o⟩ hi
  simp only at hi ⊢
  by_cases h1 : i < l.length
  · have hz6 : z = 6 := hz (by intro h; rw [h] at h1; simp at h1)
    subst hz6
    have hg := get_aus l h1
    have hH := hH l[i].id
    have hst := insP_step l day h1
    have hlen := insP_len l day i
    have hbP : ∀ y ∈ insP l day i, y.1.length < 900000 := fun y hy => hbd y (insP_mem hy)
    have hbx : (plainR l l[i] day).2 = 0 → (moreT l l[i] day).length < 900000 := fun h => by
      have : (moreT l l[i] day, l[i].id) ∈ insP l day (i + 1) := by rw [hst, if_pos h]; exact insL_mem.2 (.inl rfl)
      exact hbd _ (insP_mem this)
    have he1 : (headR l l[i].id day).2 = 0 → headR l l[i].id day = (moreT l l[i] day, 0) ∧ (plainR l l[i] day).2 = 0 := fun h => by
      have hn : (nameR l l[i].id day).2 = 0 := by
        unfold headR at h
        by_cases hn : (nameR l l[i].id day).2 = 0
        · exact hn
        · rw [if_neg hn] at h; exact absurd h hn
      obtain ⟨x, hx, hxi, _, hp, hh⟩ := headR_eq hn
      have := id_inj hid hx (List.getElem_mem h1) hxi
      subst this
      exact ⟨hh, hp⟩
    have he2 : ¬ (headR l l[i].id day).2 = 0 → ¬ (plainR l l[i] day).2 = 0 := fun h hp => by
      have hn : (nameR l l[i].id day).2 = 0 := by rw [← plainR_two]; exact hp
      obtain ⟨x, hx, hxi, _, hp, hh⟩ := headR_eq hn
      rw [hh] at h
      exact h rfl
    generalize hP' : insP l day (i + 1) = P' at *
    generalize insP l day i = P at *
    obtain ⟨n', z', hov, hz'⟩ := outV_at P
    rw [hov]
    generalize moreT l l[i] day = t at *
    generalize plainR l l[i] day = pr at *
    generalize l[i] = x at *
    generalize headR l x.id day = hr at *
    obtain ⟨hs, he⟩ := hr
    simp only at he1 he2 hH
    by_cases h2 : he = 0
    case neg =>
      have h3 : (he != 0) = true := by simpa using h2
      rw [if_neg (he2 h2)] at hst
      subst hst
      simp (config := { maxSteps := 1000000 }) (disch := omega) [-List.map_replicate, -List.map_set, -List.getD_eq_getElem?_getD, -getElem?_pos, -getElem?_neg, om, h1, hg, auA, Au.cells, splice, hH, hpl, h3]
      exact ⟨i + 1, by omega, by omega, ⟨by rw [hP', hov], by simp⟩⟩
    obtain ⟨e1, e2⟩ := he1 h2
    cases e1
    rw [if_pos e2] at hst
    have hbx := hbx e2
    clear he1 he2 e2
    simp (config := { maxSteps := 1000000 }) (disch := omega) [-List.map_replicate, -List.map_set, -List.getD_eq_getElem?_getD, -getElem?_pos, -getElem?_neg, om, h1, hg, auA, Au.cells, splice, hH, hpl]
    clear hH hg
    have hP1 := hP'
    clear hP'
    refine Wp.loopM (fun (a : Nat × Option AV) => P.length - a.1) (fun a => [some (.lst nl 6 (l.map auA)), some (.int .i64 day), none, none, none, some (.lst n' z' (P.map hdA)), some (.int .i64 i), none, none, some (.ptr 0 0), some (.int .i64 a.1), none, none, none, none, none, none, none, a.2, none, none, none, none, none, none, none, none]) (fun _ => [.var 46 [.str t, .int .i64 x.id]])
      (fun a => a.1 ≤ P.length ∧ a.1 + atL (t, x.id) (P.drop a.1) = atL (t, x.id) P) ?_ (0, o) ⟨Nat.zero_le _, by simp⟩ (by simp) rfl
    rintro ⟨k, o2⟩ ⟨hk, ha⟩
    simp only at hk ha ⊢
    by_cases h3 : k < P.length
    · have hz2 : z' = 2 := hz' (by intro h; rw [h] at h3; simp at h3)
      subst hz2
      have hgp : (P.map hdA)[k]? = some (hdA P[k]) := by rw [List.getElem?_map, List.getElem?_eq_getElem h3]; rfl
      have hLs := ansLess P[k] (t, x.id) (hbP _ (List.getElem_mem h3)) hbx
      rw [atL_step _ h3] at ha
      generalize P[k] = y at *
      simp only [hdA] at hLs
      by_cases hc : cmpH y (t, x.id) < 0
      · rw [decide_eq_true hc] at hLs
        rw [if_pos hc] at ha
        simp (config := { maxSteps := 1000000 }) (disch := omega) [-List.map_replicate, -List.map_set, -List.getD_eq_getElem?_getD, -getElem?_pos, -getElem?_neg, om, h1, h3, hgp, hdA, hLs]
        exact ⟨k + 1, ⟨by omega, by omega⟩, by omega, by simp⟩
      · rw [decide_eq_false hc] at hLs
        rw [if_neg hc] at ha
        have hfull : List.take P.length (List.map hdA P) = List.map hdA P := List.take_of_length_le (by simp)
        have hka : k = atL (t, x.id) P := by omega
        have hP' : outV P' = .lst none 2 (List.take k (List.map hdA P) ++ hdA (t, x.id) :: List.drop k (List.map hdA P)) := by
          rw [hst]
          unfold insL
          rw [← hka, outV_cons (by simp)]
          simp
        obtain ⟨b, LB, hLB⟩ : ∃ b LB, List.drop k (List.map hdA P) = b :: LB := ⟨_, _, List.drop_eq_getElem_cons (by simpa using h3)⟩
        have hl : (List.take k (List.map hdA P)).length = k := by simp; omega
        have hl2 : (List.drop k (List.map hdA P)).length = P.length - k := by simp
        rw [hLB] at hP' hl2
        obtain ⟨LA, hLA⟩ : ∃ LA, List.take k (List.map hdA P) = LA := ⟨_, rfl⟩
        rw [hLA] at hP' hl
        cases LA with
        | nil =>
          simp only [List.length_cons, List.length_nil] at hl hl2
          simp (config := { maxSteps := 1000000 }) (disch := omega) [-List.map_replicate, -List.map_set, -List.getD_eq_getElem?_getD, -getElem?_pos, -getElem?_neg, om, h1, h3, hgp, hdA, hLs, hfull, hLB, hLA, tmps_two]
          exact ⟨i + 1, by omega, by omega, by rw [hP1, hP']; rfl, by simp⟩
        | cons a LA =>
          simp only [List.length_cons] at hl hl2
          simp (config := { maxSteps := 1000000 }) (disch := omega) [-List.map_replicate, -List.map_set, -List.getD_eq_getElem?_getD, -getElem?_pos, -getElem?_neg, om, h1, h3, hgp, hdA, hLs, hfull, hLB, hLA, tmps_two]
          exact ⟨i + 1, by omega, by omega, by rw [hP1, hP']; rfl, by simp⟩
    · have hkl : k = P.length := by omega
      subst hkl
      rw [List.drop_length] at ha
      have ha : P.length = atL (t, x.id) P := by simpa [atL] using ha
      have hP' : outV P' = .lst none 2 (List.map hdA P ++ [hdA (t, x.id)]) := by
        rw [hst]
        unfold insL
        rw [← ha, List.take_length, List.drop_length, outV_cons (by simp)]
        simp
      cases P with
      | nil =>
        simp (config := { maxSteps := 1000000 }) (disch := omega) [-List.map_replicate, -List.map_set, -List.getD_eq_getElem?_getD, -getElem?_pos, -getElem?_neg, om, h1, h3, hdA]
        exact ⟨i + 1, by omega, by omega, by rw [hP1, hP']; rfl, by simp⟩
      | cons p ps =>
        obtain rfl : z' = 2 := hz' (by simp)
        have hfull : List.take ps.length (List.map hdA ps) = List.map hdA ps := List.take_of_length_le (by simp)
        have hdr : List.drop ps.length (List.map hdA ps) = [] := List.drop_eq_nil_of_le (by simp)
        simp only [List.length_cons] at hlen
        simp (config := { maxSteps := 1000000 }) (disch := omega) [-List.map_replicate, -List.map_set, -List.getD_eq_getElem?_getD, -getElem?_pos, -getElem?_neg, om, h1, h3, hdA, hfull, hdr, tmps_two]
        exact ⟨i + 1, by omega, by omega, by rw [hP1, hP']; rfl, by simp⟩
  · have hlen : i = l.length := by omega
    subst hlen
    generalize insP l day l.length = P at *
    obtain ⟨n', z', hov, hz'⟩ := outV_at P
    rw [hov]
    simp (config := { maxSteps := 1000000 }) (disch := omega) [-List.map_replicate, -List.map_set, -List.getD_eq_getElem?_getD, -getElem?_pos, -getElem?_neg, om, h1]
end Go.Proofs.YtlolhkjjbgpfbaaGreatDoor
namespace Go.Proofs.YtlolhkjjbgpfbaaGreatDoor
open Go.Am
set_option maxRecDepth 10000
set_option maxHeartbeats 4000000
theorem wordsGo_ne : ∀ (s w : Str), ∀ x ∈ wordsGo s w, x ≠ []
  | [], w, x, h => by
    simp only [wordsGo] at h
    split at h
    · simp at h
    · rename_i hw
      simp only [List.mem_singleton] at h
      subst h; exact hw
  | c :: r, w, x, h => by
    simp only [wordsGo] at h
    split at h
    · exact wordsGo_ne r _ x h
    · split at h
      · exact wordsGo_ne r _ x h
      · rename_i hw
        rcases List.mem_cons.1 h with rfl | h
        · exact hw
        · exact wordsGo_ne r _ x h
theorem words_ne (s w : Str) (h : w ∈ wordsL s) : w ≠ [] := wordsGo_ne s [] w h
theorem fold_nil (s : Str) : (foldS s = [] → wordsL s = []) ∧ (wordsL s = [] → foldS s = []) := by
  unfold foldS
  constructor
  · intro h
    match hw : wordsL s with
    | [] => rfl
    | w :: r =>
      rw [hw, Lib.join_cons] at h
      have hn := words_ne s w (by rw [hw]; simp)
      rw [List.append_eq_nil_iff] at h
      exact absurd h.1 hn
  · intro h
    rw [h]
    rfl
theorem ansSearchR (nl : Option Bool) (z : Nat) (l : List Au) (hz : l ≠ [] → z = 6) (hok : ∀ x ∈ l, x.ok) (query : Str) (hq : query.length < 900000) (day : Int) :
    ansF cfg 30 [auL nl z l, .str query, .int .i64 day] [] = some (.tup [srchV l query day, .int .i64 (srchE l query day)], []) := by
  have h := ansBasic24 nl z l hz hok day
  have hW := ansWordsR query (by omega)
  have hpl := plain_auA l
  have hN := fun id => ansNameRef nl z l hz hok id day
  refine ans_of_wp fn30 low30 ?_
  unfold srchV srchE
  by_cases h0 : asksE l day = 0
  case neg =>
    have hc : ¬ (if asksE l day ≠ 0 then asksE l day else if foldS query = [] then 9 else 0 : Int) = 0 := by rw [if_pos h0]; exact h0
    rw [if_neg hc, if_pos h0]
    generalize asksE l day = e at *
    have h1 : (e != 0) = true := by simpa using h0
    unfold auL at *
    simp (config := { maxSteps := 1000000 }) (disch := omega) [-List.map_replicate, -List.map_set, -List.getD_eq_getElem?_getD, -getElem?_pos, -getElem?_neg, om, ir30, h, h1, hpl]
  have hl := asks_len h0
  rw [h0] at h
  rw [if_neg (by simp [h0] : ¬ asksE l day ≠ 0)]
  have hWl := strA_len (wordsL query)
  have hfw := fold_nil query
  by_cases h2 : foldS query = []
  · rw [if_pos h2]
    rw [hfw.1 h2] at hW
    simp only [strA, List.map_nil] at hW
    unfold auL at *
    simp (config := { maxSteps := 1000000 }) (disch := omega) [-List.map_replicate, -List.map_set, -List.getD_eq_getElem?_getD, -getElem?_pos, -getElem?_neg, om, ir30, h, hW, hpl]
  rw [if_neg h2, if_pos rfl]
  have h3 : ¬ (wordsL query).length = 0 := fun h => h2 (hfw.2 (List.length_eq_zero_iff.1 h))
  generalize wordsL query = W at *
  generalize strA W = WA at *
  unfold auL at *
  simp (config := { maxSteps := 1000000 }) (disch := omega) [-List.map_replicate, -List.map_set, -List.getD_eq_getElem?_getD, -getElem?_pos, -getElem?_neg, om, ir30, h, hW, hWl, h3, hpl]
  refine Wp.loopM (fun (i : Nat × Option AV) => l.length - i.1) (fun i => [some (.lst nl z (l.map auA)), some (.str query), some (.int .i64 day), none, none, none, some (.osl 0 (srchGo l query day (l.take i.1)).length), some (.int .i64 i.1), none, none, none, none, none, none, none, none, i.2, none, none, none])
    (fun i => [.sl ⟨false, some 3⟩ 1 ((srchGo l query day (l.take i.1)).map intA)]) (fun i => i.1 ≤ l.length ∧ (srchGo l query day (l.take i.1)).length ≤ i.1 ∧ ∀ k n s r, underV k n s (i.2 :: r) = underV k n (s + 1) r ∨ 1006 = 1006) ?_ (0, none) ⟨by omega, by simp [srchGo], fun k n s r => .inr rfl⟩ (by simp [srchGo]) (by simp [srchGo])
  rintro ⟨i, o⟩ ⟨hi, hil, _⟩
  simp only at hi hil ⊢
  by_cases h1 : i < l.length
  · have hz6 : z = 6 := hz (by intro h; rw [h] at h1; simp at h1)
    subst hz6
    have hg : l[i]? = some l[i] := List.getElem?_eq_getElem h1
    have hN := hN l[i].id
    have hlen := nameR_len l l[i].id day
    have hfd := ansFoundRef (nameR l l[i].id day).1 query (by omega) hq
    have htk : srchGo l query day (l.take (i + 1)) = srchGo l query day (l.take i) ++ srchGo l query day [l[i]] := by
      rw [← srchGo_app, List.take_add_one, hg]; rfl
    have hone : srchGo l query day [l[i]] = if hitB l query day l[i] = true then [l[i].id] else [] := by simp only [srchGo]
    rw [hone] at htk
    clear hone
    unfold hitB at htk
    generalize srchGo l query day (l.take i) = A at *
    generalize l[i] = x at *
    generalize nameR l x.id day = q at *
    obtain ⟨s, e⟩ := q
    simp only at hN hfd htk
    have hAl : (A.map intA).length = A.length := by simp
    by_cases h4 : e = 0
    · subst h4
      cases h5 : foundB s query with
      | true =>
        rw [h5] at hfd
        rw [if_pos (by simp [h5])] at htk
        simp (config := { maxSteps := 1000000 }) (disch := omega) [-List.map_replicate, -List.map_set, -List.getD_eq_getElem?_getD, -getElem?_pos, -getElem?_neg, om, h1, hg, auA, Au.cells, hN, hfd, hpl, plain_nmA, plain_intA, splice]
        exact ⟨i + 1, by rw [htk]; exact ⟨⟨by omega, by simp; omega⟩, by omega, ⟨by simp, by simp⟩, by simp [intA]⟩⟩
      | false =>
        rw [h5] at hfd
        rw [if_neg (by simp [h5]), List.append_nil] at htk
        simp (config := { maxSteps := 1000000 }) (disch := omega) [-List.map_replicate, -List.map_set, -List.getD_eq_getElem?_getD, -getElem?_pos, -getElem?_neg, om, h1, hg, auA, Au.cells, hN, hfd, hpl, plain_nmA, plain_intA, splice]
        exact ⟨i + 1, by rw [htk]; exact ⟨⟨by omega, by omega⟩, by omega, ⟨rfl, by simp⟩, rfl⟩⟩
    · have h6 : (e == 0) = false := by simpa using h4
      rw [if_neg (by simp [h4]), List.append_nil] at htk
      simp (config := { maxSteps := 1000000 }) (disch := omega) [-List.map_replicate, -List.map_set, -List.getD_eq_getElem?_getD, -getElem?_pos, -getElem?_neg, om, h1, hg, auA, Au.cells, hN, hpl, plain_nmA, plain_intA, splice, h6]
      exact ⟨i + 1, by rw [htk]; exact ⟨⟨by omega, by omega⟩, by omega, ⟨rfl, by simp⟩, rfl⟩⟩
  · have hlen : i = l.length := by omega
    subst hlen
    rw [List.take_length] at *
    have hAl : ((srchGo l query day l).map intA).length = (srchGo l query day l).length := by simp
    generalize srchGo l query day l = A at *
    simp (config := { maxSteps := 1000000 }) (disch := omega) [-List.map_replicate, -List.map_set, -List.getD_eq_getElem?_getD, -getElem?_pos, -getElem?_neg, om, h1, hAl]
theorem ansSameH (nl nl' : Option Bool) (L : List Hd1) (hL : L.length < 1000000) : ansF cfg 31 [.lst nl 2 (L.map hdA), .lst nl' 2 (L.map hdA)] [] = some (.bool true, []) := by
  refine ans_of_wp fn31 low31 ?_
  simp (config := { maxSteps := 1000000 }) (disch := omega) [-List.map_replicate, -List.map_set, -List.getD_eq_getElem?_getD, -getElem?_pos, -getElem?_neg, om, ir31]
  refine Wp.loopM (fun (i : Nat) => L.length - i) (fun i => [some (.lst nl 2 (L.map hdA)), some (.lst nl' 2 (L.map hdA)), none, some (.int .i64 i), none, none, none]) (fun _ => []) (fun i => i ≤ L.length) ?_ 0 (Nat.zero_le _) (by simp) rfl
  intro i hi
  by_cases h1 : i < L.length
  · have hg : L[i]? = some L[i] := List.getElem?_eq_getElem h1
    generalize L[i] = x at *
    simp (config := { maxSteps := 1000000 }) (disch := omega) [-List.map_replicate, -List.map_set, -List.getD_eq_getElem?_getD, -getElem?_pos, -getElem?_neg, om, h1, hg, hdA]
    exact ⟨i + 1, by omega, by omega, by simp⟩
  · simp (config := { maxSteps := 1000000 }) (disch := omega) [-List.map_replicate, -List.map_set, -List.getD_eq_getElem?_getD, -getElem?_pos, -getElem?_neg, om, h1]
theorem ansSameN : ansF cfg 31 [.lst (some true) 0 [], .lst (some true) 0 []] [] = some (.bool true, []) := by
  refine ans_of_wp fn31 low31 ?_
  simp (config := { maxSteps := 1000000 }) (disch := omega) [-List.map_replicate, -List.map_set, -List.getD_eq_getElem?_getD, -getElem?_pos, -getElem?_neg, om, ir31]
  refine Wp.loopM (fun (i : Nat) => 0) (fun i => [some (.lst (some true) 0 []), some (.lst (some true) 0 []), none, some (.int .i64 0), none, none, none]) (fun _ => []) (fun i => True) ?_ 0 trivial (by simp) rfl
  intro i hi
  simp (config := { maxSteps := 1000000 }) (disch := omega) [-List.map_replicate, -List.map_set, -List.getD_eq_getElem?_getD, -getElem?_pos, -getElem?_neg, om]
end Go.Proofs.YtlolhkjjbgpfbaaGreatDoor
