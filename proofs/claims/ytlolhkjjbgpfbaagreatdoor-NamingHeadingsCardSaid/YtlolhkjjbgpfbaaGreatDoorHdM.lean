/-
  Name and Named of authorities; the plain heading. Plain headings; how often they are there. The headings of a day.
-/
import Derived.Test.YtlolhkjjbgpfbaaGreatDoorAuM
import Derived.Test.YtlolhkjjbgpfbaaGreatDoorKeyM
import Derived.Lib.ItoaLen
set_option linter.all false
namespace Go.Proofs.YtlolhkjjbgpfbaaGreatDoor
open Go.Am
set_option maxRecDepth 10000
set_option maxHeartbeats 4000000
theorem plain_auA : ∀ (l : List Au), plainAll (l.map auA) = true
  | [] => rfl
  | x :: r => by simp [plainAll, auA, Au.cells, AV.plain, plain_auA r]
theorem plain_intA : ∀ (l : List Int), plainAll (l.map intA) = true
  | [] => rfl
  | x :: r => by simp [plainAll, intA, AV.plain, plain_intA r]
def nameR (l : List Au) (id day : Int) : Str × Int :=
  if asksE l day ≠ 0 then ([], asksE l day) else match getA l id with
    | none => ([], 7)
    | some x => if inB x.a x.b day = false then ([], 11) else match onS x day with
      | none => ([], 9)
      | some s => (s, 0)
theorem asks_len {l : List Au} {day : Int} (h : asksE l day = 0) : l.length ≤ 64 := by
  unfold asksE checkE at h
  by_cases h1 : 64 < l.length
  · rw [if_pos h1] at h; simp at h
  · omega
theorem ansNameA (nl : Option Bool) (z : Nat) (l : List Au) (hz : l ≠ [] → z = 6) (hok : ∀ x ∈ l, x.ok) (id day : Int) :
    ansF cfg 35 [auL nl z l, .int .i64 id, .int .i64 day] [] = some (.tup [.str (nameR l id day).1, .int .i64 (nameR l id day).2], []) := by
  have h := ansAsks nl z l hz hok day
  have hpl := plain_auA l
  refine ans_of_wp fn35 low35 ?_
  unfold nameR
  by_cases h0 : asksE l day = 0
  case neg =>
    rw [if_pos h0]
    generalize asksE l day = e at *
    have h1 : (e != 0) = true := by simpa using h0
    unfold auL at *
    simp (config := { maxSteps := 1000000 }) (disch := omega) [-List.map_replicate, -List.map_set, -List.getD_eq_getElem?_getD, -getElem?_pos, -getElem?_neg, om, ir35, h, h1, hpl]
  have hl := asks_len h0
  have hL := ansLoc nl z l hz (by omega) id
  rw [h0] at h
  rw [if_neg (by simp [h0])]
  unfold getA
  cases hc : loc l id 0 with
  | none =>
    rw [hc] at hL
    unfold auL locI at *
    simp (config := { maxSteps := 1000000 }) (disch := omega) [-List.map_replicate, -List.map_set, -List.getD_eq_getElem?_getD, -getElem?_pos, -getElem?_neg, om, ir35, h, hL, hpl]
  | some j =>
    obtain ⟨hj, _⟩ := loc_spec l id _ 0 rfl j hc
    rw [hc] at hL
    have hz6 : z = 6 := hz (by intro h; rw [h] at hj; simp at hj)
    subst hz6
    have hg : l[j]? = some l[j] := List.getElem?_eq_getElem hj
    have hx := hok _ (List.getElem_mem hj)
    have hI := ansIn l[j].a l[j].b day
    have hO := ansOn l[j] hx day
    simp only [Option.bind_some]
    rw [hg]
    generalize l[j] = x at *
    simp only
    unfold auL locI at *
    unfold auA Au.cells at hO
    cases h2 : inB x.a x.b day with
    | false =>
      rw [h2] at hI
      simp (config := { maxSteps := 1000000 }) (disch := omega) [-List.map_replicate, -List.map_set, -List.getD_eq_getElem?_getD, -getElem?_pos, -getElem?_neg, om, ir35, h, hL, hpl, hg, auA, Au.cells, hI]
    | true =>
      rw [h2] at hI
      cases h3 : onS x day with
      | none =>
        rw [h3] at hO
        simp (config := { maxSteps := 1000000 }) (disch := omega) [-List.map_replicate, -List.map_set, -List.getD_eq_getElem?_getD, -getElem?_pos, -getElem?_neg, om, ir35, h, hL, hpl, hg, auA, Au.cells, hI, hO, onA, plain_nmA, plain_intA]
      | some s =>
        rw [h3] at hO
        simp (config := { maxSteps := 1000000 }) (disch := omega) [-List.map_replicate, -List.map_set, -List.getD_eq_getElem?_getD, -getElem?_pos, -getElem?_neg, om, ir35, h, hL, hpl, hg, auA, Au.cells, hI, hO, onA, plain_nmA, plain_intA]
def namedGo (text : Str) (day : Int) : List Au → List Int
  | [] => []
  | x :: r => if onS x day = some text then x.id :: namedGo text day r else namedGo text day r
theorem namedGo_app (text : Str) (day : Int) (a b : List Au) : namedGo text day (a ++ b) = namedGo text day a ++ namedGo text day b := by
  induction a with
  | nil => rfl
  | cons x r ih => simp only [List.cons_append, namedGo]; split <;> simp [ih]
theorem ansNamed (nl : Option Bool) (z : Nat) (l : List Au) (hz : l ≠ [] → z = 6) (hok : ∀ x ∈ l, x.ok) (text : Str) (day : Int) :
    ∃ v, v.plain = true ∧ ansF cfg 114 [auL nl z l, .str text, .int .i64 day] [] = some (.tup [v, .int .i64 (asksE l day)], []) := by
  have h := ansAsks nl z l hz hok day
  have hpl := plain_auA l
  by_cases h0 : asksE l day = 0
  case neg =>
    refine ⟨.lst (some true) 0 [], rfl, ans_of_wp fn114 low114 ?_⟩
    generalize asksE l day = e at *
    have h1 : (e != 0) = true := by simpa using h0
    unfold auL at *
    simp (config := { maxSteps := 1000000 }) (disch := omega) [-List.map_replicate, -List.map_set, -List.getD_eq_getElem?_getD, -getElem?_pos, -getElem?_neg, om, ir114, h, h1, hpl]
  have hl := asks_len h0
  rw [h0] at h ⊢
  refine ⟨.lst none 1 ((namedGo text day l).map intA), rfl, ans_of_wp fn114 low114 ?_⟩
  unfold auL at *
  simp (config := { maxSteps := 1000000 }) (disch := omega) [-List.map_replicate, -List.map_set, -List.getD_eq_getElem?_getD, -getElem?_pos, -getElem?_neg, om, ir114, h, hpl]
  refine Wp.loopM (fun (i : Nat) => l.length - i) (fun i => [none, some (.str text), some (.int .i64 day), none, none, none, some (.osl 0 (namedGo text day (l.take i)).length), none, none, none, none, none, some (.lst nl z (l.map auA)), some (.int .i64 l.length), some (.int .i64 i), none, none, none, none, none, none])
    (fun i => [.sl ⟨false, some 3⟩ 1 ((namedGo text day (l.take i)).map intA)]) (fun i => i ≤ l.length ∧ (namedGo text day (l.take i)).length ≤ i) ?_ 0 ⟨by omega, by simp [namedGo]⟩ (by simp [namedGo]) (by simp [namedGo])
  rintro i ⟨hi, hil⟩
  by_cases h1 : i < l.length
  · have hz6 : z = 6 := hz (by intro h; rw [h] at h1; simp at h1)
    subst hz6
    have hg : l[i]? = some l[i] := List.getElem?_eq_getElem h1
    have hx := hok _ (List.getElem_mem h1)
    have hO := ansOn l[i] hx day
    have htk : namedGo text day (l.take (i + 1)) = namedGo text day (l.take i) ++ namedGo text day [l[i]] := by
      rw [← namedGo_app, List.take_add_one, hg]; rfl
    generalize namedGo text day (l.take i) = A at *
    generalize l[i] = x at *
    unfold auA Au.cells at hO
    have hAl : (A.map intA).length = A.length := by simp
    cases h3 : onS x day with
    | none =>
      rw [h3] at hO
      have ht2 : namedGo text day [x] = [] := by simp [namedGo, h3]
      rw [ht2, List.append_nil] at htk
      simp (config := { maxSteps := 1000000 }) (disch := omega) [-List.map_replicate, -List.map_set, -List.getD_eq_getElem?_getD, -getElem?_pos, -getElem?_neg, om, h1, hg, auA, Au.cells, hO, onA, plain_nmA, plain_intA, splice]
      exact ⟨i + 1, by rw [htk]; exact ⟨⟨by omega, by omega⟩, by omega, ⟨rfl, by simp⟩, rfl⟩⟩
    | some s =>
      rw [h3] at hO
      cases h4 : s == text with
      | true =>
        have ht2 : namedGo text day [x] = [x.id] := by
          have : s = text := by simpa using h4
          simp [namedGo, h3, this]
        rw [ht2] at htk
        simp (config := { maxSteps := 1000000 }) (disch := omega) [-List.map_replicate, -List.map_set, -List.getD_eq_getElem?_getD, -getElem?_pos, -getElem?_neg, om, h1, hg, auA, Au.cells, hO, onA, plain_nmA, plain_intA, h4, splice]
        exact ⟨i + 1, by rw [htk]; exact ⟨⟨by omega, by simp; omega⟩, by omega, ⟨by simp, by simp⟩, by simp [intA]⟩⟩
      | false =>
        have ht2 : namedGo text day [x] = [] := by
          have : ¬ s = text := by simpa using h4
          simp [namedGo, h3, this]
        rw [ht2, List.append_nil] at htk
        simp (config := { maxSteps := 1000000 }) (disch := omega) [-List.map_replicate, -List.map_set, -List.getD_eq_getElem?_getD, -getElem?_pos, -getElem?_neg, om, h1, hg, auA, Au.cells, hO, onA, plain_nmA, plain_intA, h4, splice]
        exact ⟨i + 1, by rw [htk]; exact ⟨⟨by omega, by omega⟩, by omega, ⟨rfl, by simp⟩, rfl⟩⟩
  · have hlen : i = l.length := by omega
    subst hlen
    rw [List.take_length] at *
    have hAl : ((namedGo text day l).map intA).length = (namedGo text day l).length := by simp
    generalize namedGo text day l = A at *
    simp (config := { maxSteps := 1000000 }) (disch := omega) [-List.map_replicate, -List.map_set, -List.getD_eq_getElem?_getD, -getElem?_pos, -getElem?_neg, om, h1, hAl]
theorem ansAsksN (nl : Option Bool) (z : Nat) (l : List Au) (hz : l ≠ [] → z = 6) (hok : ∀ x ∈ l, x.ok) (day : Int) :
    ansF cfg 69 [auL nl z l, .int .i64 day] [] = some (.int .i64 (asksE l day), []) := by
  obtain ⟨v, hv, h⟩ := ansNamed nl z l hz hok [] day
  have hpl := plain_auA l
  refine ans_of_wp fn69 low69 ?_
  unfold auL at *
  simp (config := { maxSteps := 1000000 }) (disch := omega) [-List.map_replicate, -List.map_set, -List.getD_eq_getElem?_getD, -getElem?_pos, -getElem?_neg, om, ir69, h, hpl, hv]
def plainR (l : List Au) (x : Au) (day : Int) : Str × Int :=
  if (nameR l x.id day).2 = 0 ∧ x.kind = 1 then (invS (nameR l x.id day).1, (nameR l x.id day).2) else nameR l x.id day
theorem names_ok {x : Au} (h : namesE x = 0) : ∀ n ∈ x.names, n.t.length ≤ 64 := by
  unfold namesE at h
  split at h
  · simp at h
  · split at h
    · simp at h
    · have go : ∀ (L : List Nm) (p : Option Nm), nmsGo x p L = 0 → ∀ n ∈ L, n.t.length ≤ 64 := fun L => by
        induction L with
        | nil => intro p _ n hn; simp at hn
        | cons m r ih =>
          intro p h n hn
          simp only [nmsGo] at h
          split at h
          · rename_i h0
            rcases List.mem_cons.1 hn with rfl | hn
            · unfold nmE at h0
              split at h0
              · simp at h0
              · rename_i hb
                unfold nameB at hb
                simp at hb
                omega
            · exact ih _ h n hn
          · rename_i h0; exact absurd h h0
      exact go _ _ h
end Go.Proofs.YtlolhkjjbgpfbaaGreatDoor
namespace Go.Proofs.YtlolhkjjbgpfbaaGreatDoor
open Go.Am
set_option maxRecDepth 10000
set_option maxHeartbeats 4000000
theorem firstE_zero (E : Nat → Int) (n : Nat) : ∀ m i, n - i = m → firstE E n i = 0 → ∀ j, i ≤ j → j < n → E j = 0
  | 0, i, hm, h, j, h1, h2 => by omega
  | m + 1, i, hm, h, j, h1, h2 => by
    rw [firstE, dif_pos (by omega)] at h
    split at h
    · rename_i h0
      by_cases hj : j = i
      · subst hj; exact h0
      · exact firstE_zero E n m (i + 1) (by omega) h j (by omega) h2
    · rename_i h0; exact absurd h h0
theorem asks_names {l : List Au} {day : Int} (h : asksE l day = 0) {x : Au} (hx : x ∈ l) : namesE x = 0 := by
  have hc : checkE l = 0 := by
    unfold asksE at h
    by_cases hc : checkE l = 0
    · exact hc
    · rw [if_pos hc] at h; simp at h
  unfold checkE at hc
  rw [if_neg (by have := asks_len h; omega)] at hc
  have ha : firstE (aloneAt l) l.length 0 = 0 := by
    by_cases ha : firstE (aloneAt l) l.length 0 = 0
    · exact ha
    · rw [if_pos ha] at hc; exact hc
  obtain ⟨i, hi, rfl⟩ := List.getElem_of_mem hx
  have := firstE_zero _ _ _ 0 rfl ha i (Nat.zero_le _) hi
  unfold aloneAt at this
  rw [List.getElem?_eq_getElem hi] at this
  simp only at this
  unfold auE at this
  generalize (match prevA l i with | some q => decide (l[i].id ≤ q.id) | none => false) = b at this
  by_cases hn : namesE l[i] = 0
  · exact hn
  · exfalso
    cases b with
    | true => split at this <;> first | omega | (simp only [if_true] at this; omega)
    | false => split at this <;> first | omega | (simp only [Bool.false_eq_true, if_false, ne_eq, hn, not_false_eq_true, if_true] at this)
theorem onS_mem {x : Au} {day : Int} {s : Str} (h : onS x day = some s) : ∃ n ∈ x.names, n.t = s := by
  unfold onS at h
  split at h
  · rename_i n hn
    split at h
    · cases h; exact ⟨n, List.mem_of_getElem? hn, rfl⟩
    · cases h
  · cases h
theorem nameR_len (l : List Au) (id day : Int) : (nameR l id day).1.length ≤ 64 := by
  unfold nameR
  by_cases h0 : asksE l day = 0
  · rw [if_neg (by simp [h0])]
    unfold getA
    cases hc : loc l id 0 with
    | none => simp
    | some j =>
      obtain ⟨hj, _⟩ := loc_spec l id _ 0 rfl j hc
      simp only [Option.bind_some, List.getElem?_eq_getElem hj]
      split
      · simp
      · cases ho : onS l[j] day with
        | none => simp
        | some s =>
          obtain ⟨n, hn, rfl⟩ := onS_mem ho
          exact names_ok (asks_names h0 (List.getElem_mem hj)) n hn
  · rw [if_pos h0]; simp
theorem ansPlain (nl : Option Bool) (z : Nat) (l : List Au) (hz : l ≠ [] → z = 6) (hok : ∀ x ∈ l, x.ok) (x : Au) (day : Int) :
    ansF cfg 108 [auL nl z l, auA x, .int .i64 day] [] = some (.tup [.str (plainR l x day).1, .int .i64 (plainR l x day).2], []) := by
  have h := ansNameA nl z l hz hok x.id day
  have hi := ansInverted (nameR l x.id day).1 (by have := nameR_len l x.id day; omega)
  have hpl := plain_auA l
  refine ans_of_wp fn108 low108 ?_
  unfold plainR
  generalize nameR l x.id day = r at *
  obtain ⟨s, e⟩ := r
  simp only at h hi ⊢
  unfold auL auA Au.cells at *
  by_cases h1 : e = 0
  · subst h1
    by_cases h2 : x.kind = 1
    · simp (config := { maxSteps := 1000000 }) (disch := omega) [-List.map_replicate, -List.map_set, -List.getD_eq_getElem?_getD, -getElem?_pos, -getElem?_neg, om, ir108, h, hi, hpl, h2]
    · have h3 : (x.kind == 1) = false := by simpa using h2
      simp (config := { maxSteps := 1000000 }) (disch := omega) [-List.map_replicate, -List.map_set, -List.getD_eq_getElem?_getD, -getElem?_pos, -getElem?_neg, om, ir108, h, hi, hpl, h2, h3]
  · have h3 : (e == 0) = false := by simpa using h1
    simp (config := { maxSteps := 1000000 }) (disch := omega) [-List.map_replicate, -List.map_set, -List.getD_eq_getElem?_getD, -getElem?_pos, -getElem?_neg, om, ir108, h, hi, hpl, h1, h3]
abbrev Ct := Str × Int × Nat
def ctA (e : Ct) : AV × AV × Nat := (.str e.1, .int .i64 e.2.1, e.2.2)
def findM (s : Str) : List Ct → Nat → Option (Nat × Ct)
  | [], _ => none
  | e :: r, i => if s == e.1 then some (i, e) else findM s r (i + 1)
def cntM (m : List Ct) (s : Str) : Int := match findM s m 0 with | some (_, e) => e.2.1 | none => 0
def addM (m : List Ct) (clock : Nat) (s : Str) : List Ct := match findM s m 0 with | some (j, e) => m.set j (s, e.2.1 + 1, e.2.2) | none => m ++ [(s, 1, clock)]
def addC (m : List Ct) (clock : Nat) (s : Str) : Nat := match findM s m 0 with | some _ => clock | none => clock + 1
theorem findA_ct (s : Str) : ∀ (m : List Ct) (i : Nat), findA (eqRec cfg 20 9) (.str s) (m.map ctA) i = some ((findM s m i).map fun p => (p.1, ctA p.2))
  | [], i => rfl
  | e :: r, i => by
    have ih := findA_ct s r (i + 1)
    have he : eqRec cfg 20 9 (.str s) (ctA e).1 = some (s == e.1) := by simp (config := { maxSteps := 1000000 }) (disch := omega) [-List.map_replicate, -List.map_set, -List.getD_eq_getElem?_getD, -getElem?_pos, -getElem?_neg, wrap_i64, le_strLim, le_sliceLim, le_buildLim, le_sliceLimI, ctA]
    simp only [List.map_cons, findA, he]
    cases hs : s == e.1 with
    | true => simp [findM, hs]
    | false => simp only [findM, hs]; exact ih
theorem findM_spec (s : Str) : ∀ (m : List Ct) (i : Nat) (j : Nat) (e : Ct), findM s m i = some (j, e) → i ≤ j ∧ m[j - i]? = some e ∧ e.1 = s
  | [], i, j, e, h => by cases h
  | x :: r, i, j, e, h => by
    simp only [findM] at h
    split at h
    · rename_i hs
      cases h
      exact ⟨Nat.le_refl _, by simp, (by simpa using hs : s = x.1).symm⟩
    · obtain ⟨h1, h2, h3⟩ := findM_spec s r (i + 1) j e h
      refine ⟨by omega, ?_, h3⟩
      rw [show j - i = (j - (i + 1)) + 1 by omega]
      simpa using h2
end Go.Proofs.YtlolhkjjbgpfbaaGreatDoor
namespace Go.Proofs.YtlolhkjjbgpfbaaGreatDoor
open Go.Am
set_option maxRecDepth 10000
set_option maxHeartbeats 8000000
def hdGo (l : List Au) (day : Int) : List Au → List (Str × Int)
  | [] => []
  | x :: r => if (plainR l x day).2 = 0 then ((plainR l x day).1, x.id) :: hdGo l day r else hdGo l day r
theorem hdGo_app (l : List Au) (day : Int) (a b : List Au) : hdGo l day (a ++ b) = hdGo l day a ++ hdGo l day b := by
  induction a with
  | nil => rfl
  | cons x r ih => simp only [List.cons_append, hdGo]; split <;> simp [ih]
theorem hdGo_len (l : List Au) (day : Int) : ∀ a : List Au, (hdGo l day a).length ≤ a.length
  | [] => Nat.le_refl _
  | x :: r => by
    have := hdGo_len l day r
    simp only [hdGo]
    split
    · simp; omega
    · simp; omega
def mStep (p : List Ct × Nat) (h : Str × Int) : List Ct × Nat := (addM p.1 p.2 h.1, addC p.1 p.2 h.1)
def mOf (H : List (Str × Int)) : List Ct × Nat := H.foldl mStep ([], 0)
theorem mOf_app (H : List (Str × Int)) (h : Str × Int) : mOf (H ++ [h]) = mStep (mOf H) h := by simp [mOf, List.foldl_append]
def hdA (h : Str × Int) : AV := .agg [.str h.1, .int .i64 h.2]
def sufB (s : Str) : Bool := decide (1 ≤ s.length) && (s.drop (s.length - 1) == [41])
theorem ansSuffix (s : Str) (hs : s.length < 1000000) : ansF cfg 109 [.str s, .str [41]] [] = some (.bool (sufB s), []) := by
  have h : ansF cfg 141 [.str s, .str [41]] [] = some (.bool (sufB s), []) := by
    refine ans_of_wp fn141 low141 ?_
    unfold sufB
    by_cases h1 : 1 ≤ s.length
    · have e1 : ((s.length : Int) - 1).toNat = s.length - 1 := by omega
      have ht : List.take s.length s = s := List.take_length
      simp (config := { maxSteps := 1000000 }) (disch := omega) [-List.map_replicate, -List.map_set, -List.getD_eq_getElem?_getD, -getElem?_pos, -getElem?_neg, om, ir141, h1, e1, ht]
    · simp (config := { maxSteps := 1000000 }) (disch := omega) [-List.map_replicate, -List.map_set, -List.getD_eq_getElem?_getD, -getElem?_pos, -getElem?_neg, om, ir141, h1]
  refine ans_of_wp fn109 low109 ?_
  simp (config := { maxSteps := 1000000 }) (disch := omega) [-List.map_replicate, -List.map_set, -List.getD_eq_getElem?_getD, -getElem?_pos, -getElem?_neg, om, ir109, h]
def hdT (m : List Ct) (h : Str × Int) : Str := if 1 < cntM m h.1 ∨ sufB h.1 = true then h.1 ++ [32, 40] ++ Lib.itoa h.2 ++ [41] else h.1
def hdF (m : List Ct) (h : Str × Int) : Str × Int := (hdT m h, h.2)
theorem invS_len (s : Str) : (invS s).length ≤ s.length + 2 := by
  unfold invS
  split
  · omega
  · simp; omega
theorem plainR_len (l : List Au) (x : Au) (day : Int) : (plainR l x day).1.length ≤ 66 := by
  have h1 := nameR_len l x.id day
  have h2 := invS_len (nameR l x.id day).1
  unfold plainR
  split
  · simp only; omega
  · omega
theorem nameR_ok {l : List Au} {id day : Int} (h : (nameR l id day).2 = 0) : asksE l day = 0 := by
  unfold nameR at h
  by_cases h0 : asksE l day = 0
  · exact h0
  · rw [if_pos h0] at h; exact h
theorem plainR_ok {l : List Au} {x : Au} {day : Int} (h : (plainR l x day).2 = 0) : asksE l day = 0 := by
  unfold plainR at h
  split at h
  · exact nameR_ok h
  · exact nameR_ok h
theorem asks_ids {l : List Au} {day : Int} (h : asksE l day = 0) {x : Au} (hx : x ∈ l) : 1 ≤ x.id ∧ x.id ≤ 1073741824 := by
  have hc : checkE l = 0 := by
    unfold asksE at h
    by_cases hc : checkE l = 0
    · exact hc
    · rw [if_pos hc] at h; simp at h
  unfold checkE at hc
  rw [if_neg (by have := asks_len h; omega)] at hc
  have ha : firstE (aloneAt l) l.length 0 = 0 := by
    by_cases ha : firstE (aloneAt l) l.length 0 = 0
    · exact ha
    · rw [if_pos ha] at hc; exact hc
  obtain ⟨i, hi, rfl⟩ := List.getElem_of_mem hx
  have := firstE_zero _ _ _ 0 rfl ha i (Nat.zero_le _) hi
  unfold aloneAt at this
  rw [List.getElem?_eq_getElem hi] at this
  simp only at this
  unfold auE at this
  by_cases hn : 1 ≤ l[i].id ∧ l[i].id ≤ 1073741824
  · exact hn
  · rw [if_pos (.inl hn)] at this; simp at this
theorem hd_mem {l : List Au} {day : Int} : ∀ {a : List Au}, (∀ x ∈ a, x ∈ l) → ∀ h ∈ hdGo l day a, h.1.length ≤ 66 ∧ 1 ≤ h.2 ∧ h.2 ≤ 1073741824
  | [], _, h, hm => by simp [hdGo] at hm
  | x :: r, ha, h, hm => by
    simp only [hdGo] at hm
    split at hm
    · rename_i h0
      rcases List.mem_cons.1 hm with rfl | hm
      · exact ⟨plainR_len l x day, asks_ids (plainR_ok h0) (ha x (.head _))⟩
      · exact hd_mem (fun y hy => ha y (.tail _ hy)) h hm
    · exact hd_mem (fun y hy => ha y (.tail _ hy)) h hm
theorem mOf_bound : ∀ (H : List (Str × Int)) (p : List Ct × Nat) (B : Int), (∀ e ∈ p.1, 0 ≤ e.2.1 ∧ e.2.1 ≤ B) → 0 ≤ B → ∀ e ∈ (H.foldl mStep p).1, 0 ≤ e.2.1 ∧ e.2.1 ≤ B + H.length
  | [], p, B, hp, hB, e, he => by have := hp e he; simpa using this
  | h :: H, p, B, hp, hB, e, he => by
    have := mOf_bound H (mStep p h) (B + 1) (fun e he => by
      simp only [mStep, addM] at he
      cases hf : findM h.1 p.1 0 with
      | none =>
        rw [hf] at he
        simp only [List.mem_append, List.mem_singleton] at he
        rcases he with he | rfl
        · have := hp e he; omega
        · simp only; omega
      | some q =>
        obtain ⟨j, w⟩ := q
        rw [hf] at he
        obtain ⟨_, h2, _⟩ := findM_spec _ _ _ _ _ hf
        have hw := hp w (List.mem_of_getElem? h2)
        rcases List.mem_or_eq_of_mem_set he with he | rfl
        · have := hp e he; omega
        · simp only; omega) (by omega) e he
    simp only [List.length_cons]
    omega
theorem cnt_bound (H : List (Str × Int)) {s : Str} {j : Nat} {e : Ct} (h : findM s (mOf H).1 0 = some (j, e)) : 0 ≤ e.2.1 ∧ e.2.1 ≤ H.length := by
  obtain ⟨_, h2, _⟩ := findM_spec _ _ _ _ _ h
  have := mOf_bound H ([], 0) 0 (fun e he => by simp at he) (by omega) e (List.mem_of_getElem? h2)
  simpa using this
def hdE (m : List Ct) (H : List (Str × Int)) (k : Nat) : List AV := ((H.take k).map (hdF m) ++ H.drop k).map hdA
theorem hdE_len (m : List Ct) (H : List (Str × Int)) (k : Nat) : (hdE m H k).length = H.length := by simp [hdE]; omega
theorem hdE_get (m : List Ct) (H : List (Str × Int)) {k : Nat} (h : k < H.length) : (hdE m H k)[k]? = some (hdA H[k]) := by
  have hl : ((H.take k).map (hdF m)).length = k := by simp; omega
  unfold hdE
  rw [List.drop_eq_getElem_cons h, List.map_append, List.getElem?_append_right (by rw [List.length_map, hl]; exact Nat.le_refl _), List.length_map, hl, Nat.sub_self]
  rfl
theorem hdE_set (m : List Ct) (H : List (Str × Int)) {k : Nat} (h : k < H.length) : (hdE m H k).set k (hdA (hdF m H[k])) = hdE m H (k + 1) := by
  have hl : ((H.take k).map (hdF m)).length = k := by simp; omega
  have ht : H.take (k + 1) = H.take k ++ [H[k]] := by rw [List.take_add_one, List.getElem?_eq_getElem h]; rfl
  unfold hdE
  rw [ht, List.drop_eq_getElem_cons h, List.map_append, List.set_append_right _ _ (by rw [List.length_map, hl]; exact Nat.le_refl _), List.length_map, hl, Nat.sub_self]
  simp only [List.map_append, List.map_cons, List.map_nil, List.set_cons_zero, List.append_assoc, List.singleton_append]
theorem hdE_same (m : List Ct) (H : List (Str × Int)) {k : Nat} (h : k < H.length) (hf : hdF m H[k] = H[k]) : hdE m H k = hdE m H (k + 1) := by
  rw [← hdE_set m H h, hf]
  apply List.ext_getElem?
  intro j
  by_cases hj : j = k
  · subst hj
    rw [hdE_get m H h, List.getElem?_set_self (by rw [hdE_len]; exact h)]
  · rw [List.getElem?_set_ne (Ne.symm hj)]
end Go.Proofs.YtlolhkjjbgpfbaaGreatDoor
