/-
  Plain laws of numerals: digits, and that different numbers have different ones. Plain laws of headings: the name on a day found from the left; a heading by what the others are; headings in order; headings are different. Lists of authorities that come in. A copy of a list of authorities has the same content: all that is asked of it is the same.
-/
import Derived.Test.YtlolhkjjbgpfbaaGreatDoorIrs
import Derived.Lib.ItoaLen
import Derived.Test.YtlolhkjjbgpfbaaGreatDoorFndM
import Derived.Test.YtlolhkjjbgpfbaaGreatDoorOrdM
import Derived.Test.YtlolhkjjbgpfbaaGreatDoorInvM
import Derived.Test.YtlolhkjjbgpfbaaGreatDoorHdM
import Derived.Test.YtlolhkjjbgpfbaaGreatDoorAmFrame
set_option linter.all false
namespace Go.Proofs.YtlolhkjjbgpfbaaGreatDoor
open Go.Am
set_option maxRecDepth 10000
set_option maxHeartbeats 4000000
theorem dec_big {u : Nat} (h : ¬ u < 10) : Lib.decDigits u = Lib.decDigits (u / 10) ++ [UInt8.ofNat (48 + u % 10)] := by
  rw [Lib.decDigits, dif_neg h]
theorem dig_nat {d : Nat} (h : d < 10) : (UInt8.ofNat (48 + d)).toNat = 48 + d := by
  rw [UInt8.toNat_ofNat_of_lt' (by show 48 + d < 256; omega)]
theorem dec_digits : ∀ (u : Nat), ∀ c ∈ Lib.decDigits u, 48 ≤ c.toNat ∧ c.toNat ≤ 57 := by
  intro u
  induction u using Nat.strongRecOn with
  | _ u ih =>
    intro c hc
    by_cases h : u < 10
    · rw [Lib.decDigits_one h] at hc
      simp only [List.mem_singleton] at hc
      subst hc
      rw [dig_nat h]
      omega
    · rw [dec_big h] at hc
      rcases List.mem_append.1 hc with hc | hc
      · exact ih (u / 10) (by omega) c hc
      · simp only [List.mem_singleton] at hc
        subst hc
        rw [dig_nat (by omega)]
        omega
theorem dec_ne (u : Nat) : Lib.decDigits u ≠ [] := by
  by_cases h : u < 10
  · rw [Lib.decDigits_one h]; simp
  · rw [dec_big h]; simp
theorem dec_inj : ∀ u v : Nat, Lib.decDigits u = Lib.decDigits v → u = v := by
  intro u
  induction u using Nat.strongRecOn with
  | _ u ih =>
    intro v h
    by_cases hu : u < 10
    · by_cases hv : v < 10
      · rw [Lib.decDigits_one hu, Lib.decDigits_one hv] at h
        simp only [List.cons.injEq, and_true] at h
        have := congrArg UInt8.toNat h
        rw [dig_nat hu, dig_nat hv] at this
        omega
      · have hl := congrArg List.length h
        have := List.length_pos_iff.2 (dec_ne (v / 10))
        rw [Lib.decDigits_one hu, dec_big hv] at hl
        simp at hl
        exact absurd hl (by have := dec_ne (v / 10); simpa using this)
    · by_cases hv : v < 10
      · have hl := congrArg List.length h
        have := List.length_pos_iff.2 (dec_ne (u / 10))
        rw [Lib.decDigits_one hv, dec_big hu] at hl
        simp at hl
        exact absurd hl (by have := dec_ne (u / 10); simpa using this)
      · rw [dec_big hu, dec_big hv] at h
        obtain ⟨h1, h2⟩ := List.append_inj' h rfl
        have e1 := ih (u / 10) (by omega) (v / 10) h1
        simp only [List.cons.injEq, and_true] at h2
        have := congrArg UInt8.toNat h2
        rw [dig_nat (by omega), dig_nat (by omega)] at this
        omega
theorem itoa_chars {n : Int} {c : UInt8} (h : c ∈ Lib.itoa n) : c = 45 ∨ (48 ≤ c.toNat ∧ c.toNat ≤ 57) := by
  unfold Lib.itoa at h
  split at h
  · rcases List.mem_cons.1 h with h | h
    · exact .inl h
    · exact .inr (dec_digits _ c h)
  · exact .inr (dec_digits _ c h)
theorem itoa_nat (n : Nat) : Lib.itoa (n : Int) = Lib.decDigits n := by
  unfold Lib.itoa
  rw [if_neg (by omega)]
  simp
theorem itoa_inj {n m : Int} (hn : 0 ≤ n) (hm : 0 ≤ m) (h : Lib.itoa n = Lib.itoa m) : n = m := by
  obtain ⟨a, rfl⟩ := Int.eq_ofNat_of_zero_le hn
  obtain ⟨b, rfl⟩ := Int.eq_ofNat_of_zero_le hm
  rw [itoa_nat, itoa_nat] at h
  rw [dec_inj a b h]
end Go.Proofs.YtlolhkjjbgpfbaaGreatDoor
namespace Go.Proofs.YtlolhkjjbgpfbaaGreatDoor
open Go.Am
set_option maxRecDepth 10000
set_option maxHeartbeats 4000000
def onL (day : Int) : List Nm → Str
  | [] => []
  | n :: r => if inB n.a n.b day = true then n.t else onL day r
theorem nms_pair (x : Au) : ∀ (L : List Nm) (p : Option Nm), nmsGo x p L = 0 →
    (∀ q, p = some q → ∀ n ∈ L, q.b ≤ n.a) ∧ L.Pairwise (fun m n => m.b ≤ n.a) ∧ ∀ n ∈ L, n.t ≠ [] ∧ n.a < n.b
  | [], p, h => ⟨fun _ _ n hn => by simp at hn, List.Pairwise.nil, fun n hn => by simp at hn⟩
  | n :: r, p, h => by
    simp only [nmsGo] at h
    by_cases h0 : nmE x p n = 0
    case neg => rw [if_neg h0] at h; exact absurd h h0
    rw [if_pos h0] at h
    obtain ⟨i1, i2, i3⟩ := nms_pair x r (some n) h
    unfold nmE at h0
    by_cases k1 : nameB n.t = false
    · rw [if_pos k1] at h0; simp at h0
    rw [if_neg k1] at h0
    by_cases k2 : spanB n.a n.b = false
    · rw [if_pos k2] at h0; simp at h0
    rw [if_neg k2] at h0
    by_cases k3 : n.a < x.a ∨ x.b < n.b
    · rw [if_pos k3] at h0; simp at h0
    rw [if_neg k3] at h0
    have hs : n.a < n.b := by
      rw [Bool.not_eq_false] at k2
      unfold spanB at k2
      have := of_decide_eq_true k2
      omega
    have hne : n.t ≠ [] := by
      intro he
      rw [he] at k1
      exact k1 (by decide)
    have hq : ∀ q, p = some q → q.b ≤ n.a := by
      intro q hp
      subst hp
      simp only at h0
      by_cases k4 : n.a < q.b
      · rw [if_pos k4] at h0; simp at h0
      · omega
    refine ⟨fun q hp m hm => ?_, List.Pairwise.cons (fun m hm => i1 n rfl m hm) i2, fun m hm => ?_⟩
    · rcases List.mem_cons.1 hm with rfl | hm
      · exact hq q hp
      · have := hq q hp
        have := i1 n rfl m hm
        omega
    · rcases List.mem_cons.1 hm with rfl | hm
      · exact ⟨hne, hs⟩
      · exact i3 m hm
theorem dayC_lt {n : Nm} (day : Int) (h : n.a < n.b) : dayC n day < 0 ↔ n.b ≤ day := by
  unfold dayC inB
  by_cases h1 : n.a ≤ day ∧ day < n.b
  · rw [decide_eq_true h1]; simp only [if_true]; omega
  · rw [decide_eq_false h1]; simp only [Bool.false_eq_true, if_false]
    split
    · simp; omega
    · split <;> simp <;> omega
theorem dayC_in {n : Nm} (day : Int) (h : n.a < n.b) : dayC n day = 0 ↔ inB n.a n.b day = true := by
  unfold dayC inB
  by_cases h1 : n.a ≤ day ∧ day < n.b
  · rw [decide_eq_true h1]; simp
  · rw [decide_eq_false h1]; simp only [Bool.false_eq_true, if_false]
    split
    · simp
    · split <;> simp <;> omega
theorem bsGo_spec (L : List Nm) (day : Int) (hp : L.Pairwise (fun m n => m.b ≤ n.a)) (hL : ∀ n ∈ L, n.a < n.b) : ∀ (d i j : Nat), j - i ≤ d → i ≤ j → j ≤ L.length →
    (∀ k n, k < i → L[k]? = some n → n.b ≤ day) → (∀ k n, j ≤ k → L[k]? = some n → day < n.b) →
    (∀ k n, k < bsGo L day i j → L[k]? = some n → n.b ≤ day) ∧ (∀ k n, bsGo L day i j ≤ k → L[k]? = some n → day < n.b) := by
  have mono : ∀ (k m : Nat) (u v : Nm), k < m → L[k]? = some u → L[m]? = some v → u.b < v.b := by
    intro k m u v hkm hu hv
    obtain ⟨h1, rfl⟩ := List.getElem?_eq_some_iff.1 hu
    obtain ⟨h2, rfl⟩ := List.getElem?_eq_some_iff.1 hv
    have := List.pairwise_iff_getElem.1 hp k m h1 h2 hkm
    have := hL _ (List.getElem_mem h2)
    omega
  intro d
  induction d with
  | zero =>
    intro i j h1 h2 h3 h4 h5
    rw [bsGo, dif_neg (by omega)]
    exact ⟨h4, fun k n hk => h5 k n (by omega)⟩
  | succ d ih =>
    intro i j h1 h2 h3 h4 h5
    rw [bsGo]
    by_cases hij : i < j
    case neg =>
      rw [dif_neg hij]
      exact ⟨h4, fun k n hk => h5 k n (by omega)⟩
    rw [dif_pos hij]
    have hm : (i + j) / 2 < L.length := by omega
    have hg : L[(i + j) / 2]? = some L[(i + j) / 2] := List.getElem?_eq_getElem hm
    have hgd : L.getD ((i + j) / 2) default = L[(i + j) / 2] := by simp [List.getD_eq_getElem?_getD, hm]
    have hab := hL _ (List.getElem_mem hm)
    rw [hgd]
    by_cases hc : dayC L[(i + j) / 2] day < 0
    · rw [if_pos hc]
      have hb := (dayC_lt day hab).1 hc
      refine ih _ j (by omega) (by omega) h3 (fun k n hk hn => ?_) h5
      by_cases hk2 : k = (i + j) / 2
      · subst hk2; rw [hg] at hn; cases hn; exact hb
      · have := mono k _ n _ (by omega) hn hg; omega
    · rw [if_neg hc]
      have hb : day < L[(i + j) / 2].b := by
        rcases (by omega : day < L[(i + j) / 2].b ∨ L[(i + j) / 2].b ≤ day) with h | h
        · exact h
        · exact absurd ((dayC_lt day hab).2 h) hc
      refine ih i _ (by omega) (by omega) (by omega) h4 (fun k n hk hn => ?_)
      by_cases hk2 : k = (i + j) / 2
      · subst hk2; rw [hg] at hn; cases hn; exact hb
      · have := mono _ k _ n (by omega) hg hn; omega
theorem onL_skip (day : Int) : ∀ (L : List Nm) (r : Nat), (∀ k n, k < r → L[k]? = some n → n.b ≤ day) → onL day L = onL day (L.drop r)
  | [], r, _ => by simp
  | n :: L, 0, _ => rfl
  | n :: L, r + 1, h => by
    have h0 := h 0 n (by omega) rfl
    have hn : inB n.a n.b day = false := by unfold inB; simp; omega
    rw [onL, hn]
    simp only [Bool.false_eq_true, if_false, List.drop_succ_cons]
    exact onL_skip day L r (fun k m hk hm => h (k + 1) m (by omega) (by simpa using hm))
theorem onL_none (day : Int) : ∀ (L : List Nm), (∀ n ∈ L, day < n.a) → onL day L = []
  | [], _ => rfl
  | n :: L, h => by
    have h0 := h n (by simp)
    have hn : inB n.a n.b day = false := by unfold inB; simp; omega
    rw [onL, hn]
    simp only [Bool.false_eq_true, if_false]
    exact onL_none day L (fun m hm => h m (by simp [hm]))
theorem on_eq {x : Au} (h : namesE x = 0) (day : Int) : onL day x.names = (onS x day).getD [] ∧ ∀ s, onS x day = some s → s ≠ [] := by
  have hn : nmsGo x none x.names = 0 := by
    unfold namesE at h
    split at h
    · simp at h
    · split at h
      · simp at h
      · exact h
  obtain ⟨_, hp, hL⟩ := nms_pair x x.names none hn
  obtain ⟨s1, s2⟩ := bsGo_spec x.names day hp (fun n hn => (hL n hn).2) x.names.length 0 x.names.length (by omega) (by omega) (by omega) (fun k n hk => by omega) (fun k n hk hn => by
    rw [List.getElem?_eq_none hk] at hn; cases hn)
  unfold onS
  generalize bsGo x.names day 0 x.names.length = r at *
  rw [onL_skip day x.names r s1]
  cases hg : x.names[r]? with
  | none =>
    rw [List.drop_eq_nil_of_le (by simpa using hg)]
    exact ⟨rfl, fun s hs => by cases hs⟩
  | some n =>
    obtain ⟨hr, he⟩ := List.getElem?_eq_some_iff.1 hg
    have hm : n ∈ x.names := List.mem_of_getElem? hg
    have hab := (hL n hm).2
    have hd := s2 r n (Nat.le_refl _) hg
    rw [List.drop_eq_getElem_cons hr, he, onL]
    simp only
    by_cases hc : dayC n day = 0
    · have := (dayC_in day hab).1 hc
      rw [if_pos hc, if_pos this]
      exact ⟨rfl, fun s hs => by cases hs; exact (hL n hm).1⟩
    · have hi : ¬ inB n.a n.b day = true := fun h => hc ((dayC_in day hab).2 h)
      rw [if_neg hc, if_neg hi]
      have hlt : day < n.a := by
        unfold inB at hi
        simp at hi
        omega
      refine ⟨?_, fun s hs => by cases hs⟩
      refine onL_none day _ (fun m hm => ?_)
      obtain ⟨k, hk, rfl⟩ := List.getElem_of_mem hm
      rw [List.getElem_drop]
      rw [List.length_drop] at hk
      have := List.pairwise_iff_getElem.1 hp r (r + 1 + k) hr (by omega) (by omega)
      rw [he] at this
      omega
theorem asks_alone {l : List Au} {day : Int} (h : asksE l day = 0) (i : Nat) (hi : i < l.length) : auE (prevA l i) l[i] = 0 := by
  have hc : checkE l = 0 := by
    unfold asksE at h
    by_cases hc : checkE l = 0
    · exact hc
    · rw [if_pos hc] at h; simp at h
  unfold checkE at hc
  rw [if_neg (by have := asks_len h; omega)] at hc
  have ha : firstE (aloneAt l) l.length 0 = 0 := by
    by_cases ha : firstE (aloneAt l) l.length 0 = 0
    · exact ha
    · rw [if_pos ha] at hc; exact hc
  have := firstE_zero _ _ _ 0 rfl ha i (Nat.zero_le _) hi
  unfold aloneAt at this
  rw [List.getElem?_eq_getElem hi] at this
  exact this
theorem asks_inc {l : List Au} {day : Int} (h : asksE l day = 0) : l.Pairwise (fun u v => u.id < v.id) := by
  have step : ∀ j (hj : j + 1 < l.length), l[j].id < l[j + 1].id := fun j hj => by
    have h1 := asks_alone h (j + 1) hj
    have hp : prevA l (j + 1) = some l[j] := by
      unfold prevA
      rw [if_neg (by omega)]
      exact List.getElem?_eq_getElem (by omega)
    rw [hp] at h1
    unfold auE at h1
    split at h1
    · simp at h1
    · simp only [decide_eq_true_eq] at h1
      by_cases hle : l[j + 1].id ≤ l[j].id
      · rw [if_pos hle] at h1; simp at h1
      · omega
  have all : ∀ j (hj : j < l.length) i (hi : i < j), (l[i]'(by omega)).id < l[j].id := fun j => by
    induction j with
    | zero => intro hj i hi; omega
    | succ j ih =>
      intro hj i hi
      have s := step j hj
      by_cases he : i = j
      · subst he; exact s
      · have := ih (by omega) i (by omega); omega
  exact List.pairwise_iff_getElem.2 (fun i j hi hj hij => all j hj i hij)
theorem id_inj {l : List Au} (hid : l.Pairwise (fun u v => u.id < v.id)) {x y : Au} (hx : x ∈ l) (hy : y ∈ l) (h : x.id = y.id) : x = y := by
  obtain ⟨a, ha, rfl⟩ := List.getElem_of_mem hx
  obtain ⟨b, hb, rfl⟩ := List.getElem_of_mem hy
  have hp := List.pairwise_iff_getElem.1 hid
  rcases Nat.lt_trichotomy a b with h2 | h2 | h2
  · have := hp a b ha hb h2; omega
  · subst h2; rfl
  · have := hp b a hb ha h2; omega
theorem loc_none {l : List Au} {id : Int} : ∀ (n i : Nat), l.length - i = n → loc l id i = none → ∀ j (hj : j < l.length), i ≤ j → l[j].id ≠ id
  | 0, i, hn, _, j, hj, hij => by omega
  | n + 1, i, hn, h, j, hj, hij => by
    rw [loc, dif_pos (by omega)] at h
    split at h
    · cases h
    · rename_i h0
      by_cases he : i = j
      · subst he; exact h0
      · exact loc_none n (i + 1) (by omega) h j hj (by omega)
theorem getA_mem {l : List Au} (hid : l.Pairwise (fun u v => u.id < v.id)) {x : Au} (hx : x ∈ l) : getA l x.id = some x := by
  unfold getA
  cases hc : loc l x.id 0 with
  | none =>
    obtain ⟨a, ha, rfl⟩ := List.getElem_of_mem hx
    exact absurd rfl (loc_none _ 0 rfl hc a ha (Nat.zero_le _))
  | some j =>
    obtain ⟨hj, he⟩ := loc_spec l x.id _ 0 rfl j hc
    simp only [Option.bind_some]
    rw [List.getElem?_eq_getElem hj, id_inj hid (List.getElem_mem hj) hx he]
theorem getA_some {l : List Au} {id : Int} {x : Au} (h : getA l id = some x) : x ∈ l ∧ x.id = id := by
  unfold getA at h
  cases hc : loc l id 0 with
  | none => rw [hc] at h; cases h
  | some j =>
    rw [hc] at h
    obtain ⟨hj, he⟩ := loc_spec l id _ 0 rfl j hc
    simp only [Option.bind_some] at h
    rw [List.getElem?_eq_getElem hj] at h
    cases h
    exact ⟨List.getElem_mem hj, he⟩
theorem nameR_err {l : List Au} {id day : Int} (h : (nameR l id day).2 ≠ 0) : (nameR l id day).1 = [] := by
  unfold nameR at *
  by_cases h0 : asksE l day = 0
  · rw [if_neg (by simp [h0])] at h ⊢
    cases hg : getA l id with
    | none => rfl
    | some x =>
      rw [hg] at h
      simp only at h ⊢
      cases hi : inB x.a x.b day with
      | false => rfl
      | true =>
        rw [hi] at h
        simp only [Bool.true_eq_false, if_false] at h ⊢
        cases ho : onS x day with
        | none => rfl
        | some s => rw [ho] at h; simp at h
  · rw [if_pos h0]
theorem nameR_ne {l : List Au} {id day : Int} (h : (nameR l id day).2 = 0) : (nameR l id day).1 ≠ [] := by
  have h0 := nameR_ok h
  unfold nameR at *
  rw [if_neg (by simp [h0])] at h ⊢
  cases hg : getA l id with
  | none => rw [hg] at h; simp at h
  | some x =>
    have hx := asks_names h0 (getA_some hg).1
    rw [hg] at h
    simp only at h ⊢
    cases hi : inB x.a x.b day with
    | false => rw [hi] at h; simp at h
    | true =>
      rw [hi] at h
      simp only [Bool.true_eq_false, if_false] at h ⊢
      cases ho : onS x day with
      | none => rw [ho] at h; simp at h
      | some s => exact (on_eq hx day).2 s ho
theorem plainR_err {l : List Au} {x : Au} {day : Int} (h : (plainR l x day).2 ≠ 0) : (plainR l x day).1 = [] := by
  unfold plainR at *
  split at h
  · rename_i k; simp only at h; exact absurd k.1 h
  · rename_i k
    rw [if_neg k]
    exact nameR_err h
theorem plainR_two (l : List Au) (x : Au) (day : Int) : (plainR l x day).2 = (nameR l x.id day).2 := by
  unfold plainR
  split <;> rfl
theorem plainR_ne {l : List Au} {x : Au} {day : Int} (h : (plainR l x day).2 = 0) : (plainR l x day).1 ≠ [] := by
  have h0 : (nameR l x.id day).2 = 0 := by rw [← plainR_two]; exact h
  have h1 := nameR_ne h0
  unfold plainR
  split
  · simp only
    rcases invS_cases (nameR l x.id day).1 with ⟨h2, _⟩ | ⟨f, t, _, _, _, h2⟩
    · rw [h2]; exact h1
    · rw [h2]; simp
  · exact h1
def cntR (s : Str) : List Ct → Int
  | [] => 0
  | e :: r => if s == e.1 then e.2.1 else cntR s r
theorem cntR_find (s : Str) : ∀ (m : List Ct) (i : Nat), (match findM s m i with | some (_, e) => e.2.1 | none => 0) = cntR s m
  | [], i => rfl
  | e :: r, i => by
    simp only [findM, cntR]
    by_cases h : (s == e.1) = true
    · rw [if_pos h, if_pos h]
    · rw [if_neg h, if_neg h]
      exact cntR_find s r (i + 1)
def addR (t : Str) (ck : Nat) : List Ct → List Ct
  | [] => [(t, 1, ck)]
  | e :: r => if t == e.1 then (t, e.2.1 + 1, e.2.2) :: r else e :: addR t ck r
theorem addR_find (t : Str) (ck : Nat) : ∀ (m : List Ct) (i : Nat), (match findM t m i with | some (j, e) => m.set (j - i) (t, e.2.1 + 1, e.2.2) | none => m ++ [(t, 1, ck)]) = addR t ck m
  | [], i => rfl
  | e :: r, i => by
    have ih := addR_find t ck r (i + 1)
    have hge : ∀ j x, findM t r (i + 1) = some (j, x) → i + 1 ≤ j := fun j x h => by
      have go : ∀ (m : List Ct) (i : Nat), findM t m i = some (j, x) → i ≤ j := fun m => by
        induction m with
        | nil => intro i h; cases h
        | cons a m ih =>
          intro i h
          simp only [findM] at h
          split at h
          · cases h; exact Nat.le_refl _
          · have := ih _ h; omega
      exact go r _ h
    simp only [findM, addR]
    by_cases he : (t == e.1) = true
    · rw [if_pos he, if_pos he]
      simp
    · rw [if_neg he, if_neg he]
      rw [← ih]
      cases hf : findM t r (i + 1) with
      | none => simp
      | some p =>
        obtain ⟨j, x⟩ := p
        have := hge j x hf
        simp only
        rw [show j - i = (j - (i + 1)) + 1 by omega]
        rfl
theorem cntR_add (s t : Str) (ck : Nat) : ∀ m : List Ct, cntR s (addR t ck m) = cntR s m + if s == t then 1 else 0
  | [] => by
    simp only [addR, cntR]
    split <;> simp_all
  | e :: r => by
    have ih := cntR_add s t ck r
    simp only [addR]
    by_cases ht : (t == e.1) = true
    · rw [if_pos ht]
      have ht' : t = e.1 := by simpa using ht
      simp only [cntR, ← ht']
      split <;> simp
    · rw [if_neg ht]
      simp only [cntR]
      by_cases hs : (s == e.1) = true
      · rw [if_pos hs, if_pos hs]
        have hs' : s = e.1 := by simpa using hs
        have : ¬ (s == t) = true := by rw [hs']; intro h; exact ht (by have := (beq_iff_eq.1 h); simp [this])
        rw [if_neg this]; simp
      · rw [if_neg hs, if_neg hs]
        exact ih
theorem cnt_eq (s : Str) : ∀ (H : List (Str × Int)) (p : List Ct × Nat), cntR s (H.foldl mStep p).1 = cntR s p.1 + (H.countP (fun h => s == h.1) : Nat)
  | [], p => by simp
  | h :: H, p => by
    rw [List.foldl_cons, cnt_eq s H]
    have hm : (mStep p h).1 = addR h.1 p.2 p.1 := by
      have := addR_find h.1 p.2 p.1 0
      unfold mStep addM
      simp only [Nat.sub_zero] at this
      exact this
    rw [hm, cntR_add, List.countP_cons]
    by_cases hs : (s == h.1) = true
    · rw [if_pos hs, if_pos hs]; omega
    · rw [if_neg hs, if_neg hs]; omega
theorem cntM_eq (s : Str) (H : List (Str × Int)) : cntM (mOf H).1 s = (H.countP (fun h => s == h.1) : Nat) := by
  have h1 := cnt_eq s H ([], 0)
  have h2 := cntR_find s (mOf H).1 0
  have h3 : cntM (mOf H).1 s = cntR s (mOf H).1 := h2
  rw [h3]
  unfold mOf
  rw [h1]
  simp [cntR]
theorem cnt_hd (l : List Au) (day : Int) (s : Str) (hs : s ≠ []) (herr : ∀ y, (plainR l y day).2 ≠ 0 → (plainR l y day).1 = []) : ∀ a : List Au,
    (hdGo l day a).countP (fun h => s == h.1) = a.countP (fun y => (plainR l y day).1 == s)
  | [] => rfl
  | y :: r => by
    have ih := cnt_hd l day s hs herr r
    simp only [hdGo, List.countP_cons]
    by_cases h0 : (plainR l y day).2 = 0
    · rw [if_pos h0, List.countP_cons, ih]
      have : (s == (plainR l y day).1) = ((plainR l y day).1 == s) := by
        by_cases h : s = (plainR l y day).1
        · simp [← h]
        · have h2 : ¬ (plainR l y day).1 = s := fun e => h e.symm
          rw [beq_eq_false_iff_ne.2 h, beq_eq_false_iff_ne.2 h2]
      simp only [this]
    · rw [if_neg h0, ih]
      have : ((plainR l y day).1 == s) = false := by
        rw [herr y h0]
        cases s with
        | nil => exact absurd rfl hs
        | cons => rfl
      simp [this]
theorem count_other (p : Au → Bool) (x : Au) (hpx : p x = true) : ∀ l : List Au, l.Pairwise (fun u v => u.id < v.id) → x ∈ l →
    (1 < l.countP p ↔ l.any (fun y => y.id != x.id && p y) = true)
  | [], _, hx => by simp at hx
  | y :: r, hp, hx => by
    obtain ⟨hy, hr⟩ := List.pairwise_cons.1 hp
    rw [List.countP_cons, List.any_cons]
    have none : ∀ (z : Int) (r : List Au), (∀ v ∈ r, z < v.id) → (r.any (fun v => v.id != z && p v) = true ↔ 0 < r.countP p) := fun z r hz => by
      rw [List.countP_pos_iff, List.any_eq_true]
      constructor
      · rintro ⟨v, hv, h⟩
        exact ⟨v, hv, by simp at h; exact h.2⟩
      · rintro ⟨v, hv, h⟩
        have := hz v hv
        exact ⟨v, hv, by simp only [h, Bool.and_true, bne_iff_ne, ne_eq]; omega⟩
    by_cases he : y.id = x.id
    · have hyx : x = y := by
        rcases List.mem_cons.1 hx with h | h
        · exact h
        · have := hy x h; omega
      subst hyx
      rw [if_pos hpx]
      have := none x.id r hy
      simp only [bne_self_eq_false, Bool.false_and, Bool.false_or]
      rw [this]
      omega
    · have hxr : x ∈ r := by
        rcases List.mem_cons.1 hx with h | h
        · exact absurd (by rw [h]) he
        · exact h
      have ih := count_other p x hpx r hr hxr
      have hpos : 0 < r.countP p := List.countP_pos_iff.2 ⟨x, hxr, hpx⟩
      have hb : (y.id != x.id) = true := by simpa using he
      rw [hb, Bool.true_and]
      cases hpy : p y with
      | true => simp only [if_true, Bool.true_or, iff_true]; omega
      | false => simp only [Bool.false_eq_true, if_false, Bool.false_or, Nat.add_zero]; exact ih
def moreB (l : List Au) (x : Au) (day : Int) : Bool := sufB (plainR l x day).1 || l.any (fun y => y.id != x.id && (plainR l y day).1 == (plainR l x day).1)
def moreT (l : List Au) (x : Au) (day : Int) : Str := if moreB l x day = true then (plainR l x day).1 ++ [32, 40] ++ Lib.itoa x.id ++ [41] else (plainR l x day).1
def hdGo2 (l : List Au) (day : Int) : List Au → List Hd1
  | [] => []
  | x :: r => if (plainR l x day).2 = 0 then (moreT l x day, x.id) :: hdGo2 l day r else hdGo2 l day r
theorem hdF_more (l : List Au) (day : Int) (hid : l.Pairwise (fun u v => u.id < v.id)) (herr : ∀ y, (plainR l y day).2 ≠ 0 → (plainR l y day).1 = []) {x : Au} (hx : x ∈ l) (hne : (plainR l x day).1 ≠ []) :
    hdF (mOf (hdGo l day l)).1 ((plainR l x day).1, x.id) = (moreT l x day, x.id) := by
  unfold hdF hdT moreT moreB
  simp only
  rw [cntM_eq, cnt_hd l day _ hne herr]
  have h := count_other (fun y => (plainR l y day).1 == (plainR l x day).1) x (by simp) l hid hx
  simp only [Bool.or_eq_true]
  generalize hc : l.countP (fun y => (plainR l y day).1 == (plainR l x day).1) = c at *
  have h2 : ((1 : Int) < (c : Nat)) ↔ 1 < c := by omega
  have h3 : ((1 : Int) < (c : Nat) ∨ sufB (plainR l x day).1 = true) ↔ (sufB (plainR l x day).1 = true ∨ l.any (fun y => y.id != x.id && (plainR l y day).1 == (plainR l x day).1) = true) := by rw [h2, h, Or.comm]
  simp only [h3]
theorem hdU_eq (l : List Au) (day : Int) (hid : l.Pairwise (fun u v => u.id < v.id)) (herr : ∀ y, (plainR l y day).2 ≠ 0 → (plainR l y day).1 = []) (hne : ∀ x ∈ l, (plainR l x day).2 = 0 → (plainR l x day).1 ≠ []) :
    hdU l day = hdGo2 l day l := by
  unfold hdU
  have go : ∀ a : List Au, (∀ x ∈ a, x ∈ l) → (hdGo l day a).map (hdF (mOf (hdGo l day l)).1) = hdGo2 l day a := fun a => by
    induction a with
    | nil => intro _; rfl
    | cons x r ih =>
      intro h
      simp only [hdGo, hdGo2]
      have ih := ih (fun y hy => h y (by simp [hy]))
      by_cases h0 : (plainR l x day).2 = 0
      · rw [if_pos h0, if_pos h0, List.map_cons, ih, hdF_more l day hid herr (h x (by simp)) (hne x (h x (by simp)) h0)]
      · rw [if_neg h0, if_neg h0, ih]
  exact go l (fun x h => h)
theorem headS_eq (l : List Au) (day : Int) (hid : l.Pairwise (fun u v => u.id < v.id)) (herr : ∀ y, (plainR l y day).2 ≠ 0 → (plainR l y day).1 = []) (hne : ∀ x ∈ l, (plainR l x day).2 = 0 → (plainR l x day).1 ≠ [])
    {x : Au} (hx : x ∈ l) (h0 : (plainR l x day).2 = 0) : headS l x.id day = moreT l x day := by
  have hmem : ((moreT l x day, x.id) : Hd1) ∈ hdU l day := by
    have := List.mem_map_of_mem (f := hdF (mOf (hdGo l day l)).1) (hdGo_mem hx h0)
    rw [hdF_more l day hid herr hx (hne x hx h0)] at this
    exact this
  obtain ⟨s1, s2⟩ := locH_spec (hdU l day) x.id _ 0 rfl
  obtain ⟨j, hj, hje⟩ := List.getElem_of_mem hmem
  obtain ⟨k, hk⟩ := s2 ⟨j, hj, Nat.zero_le _, by rw [hje]⟩
  obtain ⟨hkl, hke⟩ := s1 k hk
  unfold headS
  rw [hk]
  simp only
  have hgd : (hdU l day).getD k ([], 0) = (hdU l day)[k] := by simp [List.getD_eq_getElem?_getD, hkl]
  rw [hgd]
  have hin : (hdU l day)[k] ∈ hdU l day := List.getElem_mem hkl
  generalize (hdU l day)[k] = g at *
  rw [hdU_eq l day hid herr hne] at hin
  have mem2 : ∀ a : List Au, (∀ y ∈ a, y ∈ l) → g ∈ hdGo2 l day a → ∃ y ∈ l, g = (moreT l y day, y.id) := fun a => by
    induction a with
    | nil => intro _ h; simp [hdGo2] at h
    | cons y r ih =>
      intro ha h
      simp only [hdGo2] at h
      split at h
      · rcases List.mem_cons.1 h with h | h
        · exact ⟨y, ha y (by simp), h⟩
        · exact ih (fun z hz => ha z (by simp [hz])) h
      · exact ih (fun z hz => ha z (by simp [hz])) h
  obtain ⟨y, hy, rfl⟩ := mem2 l (fun _ h => h) hin
  simp only at hke ⊢
  obtain ⟨a, ha, rfl⟩ := List.getElem_of_mem hx
  obtain ⟨b, hb, rfl⟩ := List.getElem_of_mem hy
  have hp := List.pairwise_iff_getElem.1 hid
  rcases Nat.lt_trichotomy a b with h | h | h
  · have := hp a b ha hb h; omega
  · subst h; rfl
  · have := hp b a hb ha h; omega
theorem cmpH_swap (a b : Hd1) : cmpH b a = - cmpH a b := by
  unfold cmpH orI cmpI
  have h := cmpS_swap a.1 b.1
  have h1 := cmpS_one a.1 b.1
  by_cases h0 : cmpS a.1 b.1 = 0
  · have : cmpS b.1 a.1 = 0 := by omega
    rw [if_pos h0, if_pos this]
    repeat' split
    all_goals omega
  · have : ¬ cmpS b.1 a.1 = 0 := by omega
    rw [if_neg h0, if_neg this]
    omega
theorem cmpH_zero {a b : Hd1} (h : cmpH a b = 0) : a = b := by
  unfold cmpH orI cmpI at h
  by_cases h0 : cmpS a.1 b.1 = 0
  · rw [if_pos h0] at h
    have h2 : a.2 = b.2 := by
      split at h
      · omega
      · split at h
        · assumption
        · omega
    exact Prod.ext (cmpS_zero.1 h0) h2
  · rw [if_neg h0] at h
    exact absurd h h0
theorem cmpH_trans {a b c : Hd1} (h1 : cmpH a b < 0) (h2 : cmpH b c < 0) : cmpH a c < 0 := by
  have t1 := cmpS_trans a.1 b.1 c.1
  have w1 := cmpS_swap a.1 c.1
  have w2 := cmpS_swap a.1 b.1
  have w3 := cmpS_swap b.1 c.1
  have t2 := cmpS_trans b.1 c.1 a.1
  have t3 := cmpS_trans c.1 a.1 b.1
  have e1 := @cmpS_zero a.1 c.1
  have le : ∀ {x y : Hd1}, cmpH x y < 0 → cmpS x.1 y.1 < 0 ∨ (cmpS x.1 y.1 = 0 ∧ x.2 < y.2) := fun {x y} h => by
    unfold cmpH orI cmpI at h
    by_cases h0 : cmpS x.1 y.1 = 0
    · rw [if_pos h0] at h
      split at h
      · exact .inr ⟨h0, by assumption⟩
      · split at h <;> omega
    · rw [if_neg h0] at h
      exact .inl h
  have ge : cmpS a.1 c.1 < 0 ∨ (cmpS a.1 c.1 = 0 ∧ a.2 < c.2) → cmpH a c < 0 := fun h => by
    unfold cmpH orI cmpI
    rcases h with h | ⟨h, h'⟩
    · rw [if_neg (by omega)]; exact h
    · rw [if_pos h, if_pos h']; omega
  have l1 := le h1
  have l2 := le h2
  refine ge ?_
  have l3 : cmpS a.1 c.1 ≤ 0 := t1 (by omega) (by omega)
  by_cases h0 : cmpS a.1 c.1 = 0
  · have := t2 (by omega) (by omega)
    have := t3 (by omega)
    by_cases hb : cmpS b.1 c.1 = 0
    · by_cases hb2 : cmpS a.1 b.1 = 0
      · omega
      · omega
    · omega
  · omega
def atL (x : Hd1) : List Hd1 → Nat
  | [] => 0
  | y :: r => if cmpH y x < 0 then atL x r + 1 else 0
theorem atL_spec (x : Hd1) : ∀ P : List Hd1, P.Pairwise (fun a b => cmpH a b < 0) → x ∉ P → atL x P ≤ P.length ∧ (∀ k y, k < atL x P → P[k]? = some y → cmpH y x < 0) ∧ (∀ k y, atL x P ≤ k → P[k]? = some y → cmpH x y < 0)
  | [], _, _ => ⟨Nat.le_refl _, fun k y h => by simp [atL] at h, fun k y _ h => by simp at h⟩
  | y :: r, hp, hx => by
    obtain ⟨hy, hr⟩ := List.pairwise_cons.1 hp
    obtain ⟨i1, i2, i3⟩ := atL_spec x r hr (fun h => hx (by simp [h]))
    simp only [atL]
    by_cases hc : cmpH y x < 0
    · rw [if_pos hc]
      refine ⟨by simp; omega, fun k z hk hz => ?_, fun k z hk hz => ?_⟩
      · cases k with
        | zero => simp at hz; subst hz; exact hc
        | succ k => exact i2 k z (by omega) (by simpa using hz)
      · cases k with
        | zero => omega
        | succ k => exact i3 k z (by omega) (by simpa using hz)
    · rw [if_neg hc]
      have hxy : cmpH x y < 0 := by
        have h1 := cmpH_swap x y
        have h2 : ¬ cmpH x y = 0 := fun h => hx (by rw [cmpH_zero h]; simp)
        omega
      refine ⟨Nat.zero_le _, fun k z hk => by omega, fun k z hk hz => ?_⟩
      cases k with
      | zero => simp at hz; subst hz; exact hxy
      | succ k => exact cmpH_trans hxy (hy z (List.mem_of_getElem? (by simpa using hz)))
theorem stopJ_eq (x : Hd1) (P : List Hd1) (hp : P.Pairwise (fun a b => cmpH a b < 0)) (hx : x ∉ P) : stopJ x P P.length = atL x P := by
  obtain ⟨a1, a2, a3⟩ := atL_spec x P hp hx
  have go : ∀ n, n ≤ P.length → atL x P ≤ n → stopJ x P n = atL x P := fun n => by
    induction n with
    | zero => intro _ h; simp only [stopJ]; omega
    | succ n ih =>
      intro hn h
      simp only [stopJ]
      have hg : P[n]? = some P[n] := List.getElem?_eq_getElem (by omega)
      rw [hg]
      simp only
      by_cases hc : cmpH x P[n] < 0
      · rw [if_pos hc]
        refine ih (by omega) ?_
        rcases Nat.lt_or_ge n (atL x P) with h2 | h2
        · have := a2 n _ h2 hg
          have := cmpH_swap x P[n]
          omega
        · exact h2
      · rw [if_neg hc]
        rcases Nat.lt_or_ge n (atL x P) with h2 | h2
        · omega
        · exact absurd (a3 n _ h2 hg) hc
  exact go P.length (Nat.le_refl _) a1
theorem insS_sorted (x : Hd1) (P : List Hd1) (hp : P.Pairwise (fun a b => cmpH a b < 0)) (hx : x ∉ P) : (insS P x).Pairwise (fun a b => cmpH a b < 0) := by
  unfold insS
  rw [stopJ_eq x P hp hx]
  obtain ⟨a1, a2, a3⟩ := atL_spec x P hp hx
  unfold putJ
  have hs : P.take (atL x P) ++ P.drop (atL x P) = P := List.take_append_drop _ _
  have hp' := hp
  rw [← hs] at hp'
  obtain ⟨p1, p2, p3⟩ := List.pairwise_append.1 hp'
  refine List.pairwise_append.2 ⟨p1, List.Pairwise.cons (fun y hy => ?_) p2, fun u hu v hv => ?_⟩
  · obtain ⟨k, hk, rfl⟩ := List.getElem_of_mem hy
    rw [List.getElem_drop]
    rw [List.length_drop] at hk
    exact a3 (atL x P + k) _ (by omega) (List.getElem?_eq_getElem (by omega))
  · rcases List.mem_cons.1 hv with rfl | hv
    · obtain ⟨k, hk, rfl⟩ := List.getElem_of_mem hu
      rw [List.getElem_take]
      rw [List.length_take] at hk
      exact a2 k _ (by omega) (List.getElem?_eq_getElem (by omega))
    · exact p3 u hu v hv
def insL (P : List Hd1) (x : Hd1) : List Hd1 := P.take (atL x P) ++ x :: P.drop (atL x P)
theorem insS_mem2 {P : List Hd1} {x y : Hd1} : y ∈ insS P x ↔ y = x ∨ y ∈ P := by
  unfold insS putJ
  generalize stopJ x P P.length = j
  constructor
  · intro h
    rcases List.mem_append.1 h with h | h
    · exact .inr (List.mem_of_mem_take h)
    · rcases List.mem_cons.1 h with h | h
      · exact .inl h
      · exact .inr (List.mem_of_mem_drop h)
  · rintro (rfl | h)
    · simp
    · rw [← List.take_append_drop j P] at h
      rcases List.mem_append.1 h with h | h
      · exact List.mem_append.2 (.inl h)
      · exact List.mem_append.2 (.inr (by simp [h]))
theorem sort_same : ∀ (L P : List Hd1), P.Pairwise (fun a b => cmpH a b < 0) → L.Pairwise (fun a b => a ≠ b) → (∀ x ∈ L, x ∉ P) → L.foldl insS P = L.foldl insL P ∧ (L.foldl insS P).Pairwise (fun a b => cmpH a b < 0)
  | [], P, hp, _, _ => ⟨rfl, hp⟩
  | x :: L, P, hp, hd, hn => by
    obtain ⟨hd1, hd2⟩ := List.pairwise_cons.1 hd
    have hx := hn x (by simp)
    have he : insS P x = insL P x := by unfold insS insL putJ; rw [stopJ_eq x P hp hx]
    have := sort_same L (insS P x) (insS_sorted x P hp hx) hd2 (fun y hy h => by
      rcases insS_mem2.1 h with h | h
      · exact hd1 y hy h.symm
      · exact hn y (by simp [hy]) h)
    simp only [List.foldl_cons]
    rw [← he]
    exact this
theorem headR_eq {l : List Au} {id day : Int} (h : (nameR l id day).2 = 0) : ∃ x ∈ l, x.id = id ∧ getA l id = some x ∧ (plainR l x day).2 = 0 ∧ headR l id day = (moreT l x day, 0) := by
  have h0 := nameR_ok h
  have hid := asks_inc h0
  obtain ⟨x, hx, he⟩ := nameR_get h
  subst he
  have hp : (plainR l x day).2 = 0 := by rw [plainR_two]; exact h
  refine ⟨x, hx, rfl, getA_mem hid hx, hp, ?_⟩
  unfold headR
  rw [if_pos h, headS_eq l day hid (fun y => plainR_err) (fun y _ => plainR_ne) hx hp]
theorem hdGo2_mem {l : List Au} {day : Int} {g : Hd1} : ∀ {a : List Au}, g ∈ hdGo2 l day a → ∃ x ∈ a, (plainR l x day).2 = 0 ∧ g = (moreT l x day, x.id)
  | [], h => by simp [hdGo2] at h
  | x :: r, h => by
    simp only [hdGo2] at h
    by_cases h0 : (plainR l x day).2 = 0
    · rw [if_pos h0] at h
      rcases List.mem_cons.1 h with h | h
      · exact ⟨x, by simp, h0, h⟩
      · obtain ⟨y, hy, k⟩ := hdGo2_mem h
        exact ⟨y, by simp [hy], k⟩
    · rw [if_neg h0] at h
      obtain ⟨y, hy, k⟩ := hdGo2_mem h
      exact ⟨y, by simp [hy], k⟩
theorem hdGo2_diff {l : List Au} {day : Int} : ∀ {a : List Au}, a.Pairwise (fun u v => u.id < v.id) → (hdGo2 l day a).Pairwise (fun u v => u ≠ v)
  | [], _ => List.Pairwise.nil
  | x :: r, h => by
    obtain ⟨h1, h2⟩ := List.pairwise_cons.1 h
    have ih := hdGo2_diff (l := l) (day := day) h2
    simp only [hdGo2]
    split
    · refine List.Pairwise.cons (fun g hg => ?_) ih
      obtain ⟨y, hy, _, rfl⟩ := hdGo2_mem hg
      have := h1 y hy
      intro he
      have := congrArg Prod.snd he
      simp only at this
      omega
    · exact ih
theorem hdsL_eq {l : List Au} {day : Int} (h : asksE l day = 0) : hdsL l day = (hdGo2 l day l).foldl insL [] ∧ (hdsL l day).Pairwise (fun a b => cmpH a b < 0) := by
  have hid := asks_inc h
  have hu := hdU_eq l day hid (fun y => plainR_err) (fun y _ => plainR_ne)
  unfold hdsL sortS
  rw [hu]
  exact sort_same _ [] List.Pairwise.nil (hdGo2_diff hid) (fun x _ h => by simp at h)
theorem cut_last {c : UInt8} {u v d e : Str} (hd : c ∉ d) (he : c ∉ e) (h : u ++ c :: d = v ++ c :: e) : u = v ∧ d = e := by
  rcases List.append_eq_append_iff.1 h with ⟨us, h1, h2⟩ | ⟨us, h1, h2⟩
  · cases us with
    | nil => simp at h1 h2; exact ⟨h1.symm, h2⟩
    | cons b us =>
      simp only [List.cons_append, List.cons.injEq] at h2
      exact absurd (by rw [h2.2]; simp) hd
  · cases us with
    | nil => simp at h1 h2; exact ⟨h1, h2.symm⟩
    | cons b us =>
      simp only [List.cons_append, List.cons.injEq] at h2
      exact absurd (by rw [h2.2]; simp) he
theorem sufB_end (u : Str) : sufB (u ++ [41]) = true := by
  unfold sufB
  simp
theorem itoa_40 (n : Int) : (40 : UInt8) ∉ Lib.itoa n := by
  intro h
  rcases itoa_chars h with h | h
  · exact absurd h (by decide)
  · exact absurd h.1 (by decide)
theorem moreT_inj {l : List Au} {day : Int} (h : asksE l day = 0) {x y : Au} (hx : x ∈ l) (hy : y ∈ l) (hne : x.id ≠ y.id) : moreT l x day ≠ moreT l y day := by
  have ix := asks_ids h hx
  have iy := asks_ids h hy
  intro he
  unfold moreT at he
  cases bx : moreB l x day with
  | true =>
    rw [bx, if_pos rfl] at he
    cases bY : moreB l y day with
    | true =>
      rw [bY, if_pos rfl] at he
      have he := List.append_cancel_right he
      have h1 : ∀ (s : Str) (n : Int), s ++ [32, 40] ++ Lib.itoa n = (s ++ [32]) ++ 40 :: Lib.itoa n := fun s n => by simp
      rw [h1, h1] at he
      have := (cut_last (itoa_40 _) (itoa_40 _) he).2
      exact hne (itoa_inj (by omega) (by omega) this)
    | false =>
      rw [bY, if_neg (by simp)] at he
      unfold moreB at bY
      rw [← he, sufB_end] at bY
      simp at bY
  | false =>
    rw [bx, if_neg (by simp)] at he
    cases bY : moreB l y day with
    | true =>
      rw [bY, if_pos rfl] at he
      unfold moreB at bx
      rw [he, sufB_end] at bx
      simp at bx
    | false =>
      rw [bY, if_neg (by simp)] at he
      unfold moreB at bx
      rw [Bool.or_eq_false_iff] at bx
      have := List.any_eq_false.1 bx.2 y hy
      rw [he] at this
      have hb : (y.id != x.id) = true := by simpa using fun h => hne h.symm
      rw [hb] at this
      simp at this
theorem hdsL_mem {l : List Au} {day : Int} (h : asksE l day = 0) {g : Hd1} (hg : g ∈ hdsL l day) : ∃ x ∈ l, (plainR l x day).2 = 0 ∧ g = (moreT l x day, x.id) := by
  have hu := hdU_eq l day (asks_inc h) (fun y => plainR_err) (fun y _ => plainR_ne)
  have := sortS_mem hg
  rw [hu] at this
  exact hdGo2_mem this
theorem hdsL_lt {l : List Au} {day : Int} (h : asksE l day = 0) {i j : Nat} (hij : i < j) (hj : j < (hdsL l day).length) : cmpS ((hdsL l day)[i]'(by omega)).1 (hdsL l day)[j].1 < 0 := by
  have hp := List.pairwise_iff_getElem.1 (hdsL_eq h).2 i j (by omega) hj hij
  obtain ⟨x, hx, _, e1⟩ := hdsL_mem h (List.getElem_mem (show i < (hdsL l day).length by omega))
  obtain ⟨y, hy, _, e2⟩ := hdsL_mem h (List.getElem_mem hj)
  rw [e1, e2] at hp ⊢
  have hxy : x.id ≠ y.id := by
    intro he
    have := id_inj (asks_inc h) hx hy he
    subst this
    have := cmpH_swap (moreT l x day, x.id) (moreT l x day, x.id)
    omega
  have hne := moreT_inj h hx hy hxy
  have h1 := cmpS_one (moreT l x day) (moreT l y day)
  have h2 : ¬ cmpS (moreT l x day) (moreT l y day) = 0 := fun e => hne (cmpS_zero.1 e)
  unfold cmpH orI at hp
  simp only at hp ⊢
  rw [if_neg h2] at hp
  exact hp
end Go.Proofs.YtlolhkjjbgpfbaaGreatDoor
namespace Go.Proofs.YtlolhkjjbgpfbaaGreatDoor
open Go.Am Go.ChangeShapes Go.WideShapes Go.RowKit
set_option maxRecDepth 10000
set_option maxHeartbeats 4000000
structure Au.inn (x : Au) : Prop where
  nz : x.names ≠ [] → x.nz = 3
  xz : x.next ≠ [] → x.xz = 1
  nl : x.names.length ≤ maxLen
  xl : x.next.length ≤ maxLen
theorem shp_span {m : Nat} {cs : List AV} (h : Shp Tryz.prog m 48 cs) : ∃ a b : Int, cs = [.int .i64 a, .int .i64 b] := by
  have hfs : Tryz.prog.underlying 48 = some (.struct (fieldsAt Tryz.prog 48)) := by kernel_rfl
  have hft : (fieldsAt Tryz.prog 48).toList.map (·.type) = [3, 3] := by kernel_rfl
  obtain ⟨m, hs⟩ := h.struct hfs
  rw [hft] at hs
  obtain ⟨a, r, rfl, ha, b, r2, rfl, hb, rfl⟩ := hs
  obtain ⟨x, rfl, hx⟩ := ha.int (k := .i64) (by kernel_rfl)
  obtain ⟨y, rfl, hy⟩ := hb.int (k := .i64) (by kernel_rfl)
  exact ⟨x, y, rfl⟩
theorem shp_name {m : Nat} {cs : List AV} (h : Shp Tryz.prog m 70 cs) : ∃ n : Nm, elemOfCells (aggU (Tryz.prog.underlying 70)) cs = nmA n := by
  have hfs : Tryz.prog.underlying 70 = some (.struct (fieldsAt Tryz.prog 70)) := by kernel_rfl
  have hft : (fieldsAt Tryz.prog 70).toList.map (·.type) = [9, 48] := by kernel_rfl
  obtain ⟨m, hs⟩ := h.struct hfs
  rw [hft] at hs
  obtain ⟨a, r, rfl, ha, b, r2, rfl, hb, rfl⟩ := hs
  obtain ⟨s, rfl, _⟩ := ha.str (by kernel_rfl)
  obtain ⟨x, y, rfl⟩ := shp_span hb
  exact ⟨⟨s, x, y⟩, by rw [hfs]; rfl⟩
theorem shp_au {m : Nat} {cs : List AV} (h : Shp Tryz.prog m 51 cs) : ∃ x : Au, x.inn ∧ elemOfCells (aggU (Tryz.prog.underlying 51)) cs = auA x := by
  have hfs : Tryz.prog.underlying 51 = some (.struct (fieldsAt Tryz.prog 51)) := by kernel_rfl
  have hft : (fieldsAt Tryz.prog 51).toList.map (·.type) = [3, 3, 48, 49, 37] := by kernel_rfl
  obtain ⟨m, hs⟩ := h.struct hfs
  rw [hft] at hs
  obtain ⟨a, r, rfl, ha, b, r2, rfl, hb, c, r3, rfl, hc, d, r4, rfl, hd, e, r5, rfl, he, rfl⟩ := hs
  obtain ⟨x, rfl, hx⟩ := ha.int (k := .i64) (by kernel_rfl)
  obtain ⟨y, rfl, hy⟩ := hb.int (k := .i64) (by kernel_rfl)
  obtain ⟨u, v, rfl⟩ := shp_span hc
  obtain ⟨n1, z1, l1, rfl, p1, q1, s1, _⟩ := hd.sliceMap (e := 70) nmA (fun _ => True) (by kernel_rfl) 3 (by kernel_rfl) (by decide) (fun m cs h => by
    obtain ⟨n, hn⟩ := shp_name h
    exact ⟨n, trivial, hn⟩)
  obtain ⟨n2, z2, l2, rfl, p2, q2, s2, _⟩ := he.sliceMap (e := 3) intA (fun _ => True) (by kernel_rfl) 1 (by kernel_rfl) (by decide) (fun m cs h => by
    obtain ⟨x, rfl, hx⟩ := h.int (k := .i64) (by kernel_rfl)
    exact ⟨x, trivial, by rw [show Tryz.prog.underlying 3 = some (.int .i64) by kernel_rfl]; rfl⟩)
  exact ⟨⟨x, y, u, v, l1, l2, some n1, z1, some n2, z2⟩, ⟨fun hl => p1 0 (List.length_pos_iff.2 hl), fun hl => p2 0 (List.length_pos_iff.2 hl), s1, s2⟩, by rw [hfs]; rfl⟩
theorem args_aus {ts : List TypeId} {xs : List AV} (h : ShpArgs Tryz.prog (28 :: ts) xs) : ∃ (nl : Bool) (z : Nat) (l : List Au) (r : List AV), xs = auL (some nl) z l :: r ∧ (l ≠ [] → z = 6) ∧ l.length ≤ maxLen ∧ (∀ x ∈ l, x.inn) ∧ ShpArgs Tryz.prog ts r := by
  obtain ⟨n, cs, r, rfl, h1, h2⟩ := h
  obtain ⟨nl, z, l, rfl, k1, k2, k3, k4⟩ := h1.sliceMap (e := 51) auA Au.inn (by kernel_rfl) 6 (by kernel_rfl) (by decide) (fun _ _ h => shp_au h)
  exact ⟨nl, z, l, r, rfl, fun hl => k1 0 (List.length_pos_iff.2 hl), k3, k4, h2⟩
theorem args_int {ts : List TypeId} {xs : List AV} (h : ShpArgs Tryz.prog (3 :: ts) xs) : ∃ (i : Int) (r : List AV), xs = .int .i64 i :: r ∧ -9223372036854775808 ≤ i ∧ i ≤ 9223372036854775807 ∧ ShpArgs Tryz.prog ts r := by
  obtain ⟨n, cs, r, rfl, h1, h2⟩ := h
  obtain ⟨x, rfl, hx⟩ := h1.int (k := .i64) (by kernel_rfl)
  simp [Lit.wf, IntKind.min, IntKind.max, IntKind.signed, IntKind.bits] at hx
  exact ⟨x, r, by rw [show Tryz.prog.underlying 3 = some (.int .i64) by kernel_rfl]; rfl, by omega, by omega, h2⟩
theorem args_strC {ts : List TypeId} {xs : List AV} (h : ShpArgs Tryz.prog (9 :: ts) xs) : ∃ (s : Str) (r : List AV), xs = .str s :: r ∧ s.length ≤ maxLen ∧ ShpArgs Tryz.prog ts r := by
  obtain ⟨n, cs, r, rfl, h1, h2⟩ := h
  obtain ⟨s, rfl, hs⟩ := h1.str (by kernel_rfl)
  exact ⟨s, r, by rw [show Tryz.prog.underlying 9 = some .string by kernel_rfl]; rfl, hs, h2⟩
end Go.Proofs.YtlolhkjjbgpfbaaGreatDoor
namespace Go.Proofs.YtlolhkjjbgpfbaaGreatDoor
open Go.Am
set_option maxRecDepth 10000
set_option maxHeartbeats 4000000
def cpN {α : Type} : List α → Option Bool
  | [] => some false
  | _ => none
def cpZ {α : Type} (k : Nat) : List α → Nat
  | [] => 0
  | _ => k
def cpAu (x : Au) : Au := ⟨x.id, x.kind, x.a, x.b, x.names, x.next, cpN x.names, cpZ 3 x.names, cpN x.next, cpZ 1 x.next⟩
def cpL (l : List Au) : List Au := l.map cpAu
theorem cpL_len (l : List Au) : (cpL l).length = l.length := by simp [cpL]
theorem cpAu_ok {x : Au} (h1 : x.names.length < 1000000) (h2 : x.next.length < 1000000) : (cpAu x).ok where
  nz h := by unfold cpAu at *; simp only at h ⊢; cases hc : x.names with
    | nil => exact absurd hc h
    | cons a l => rfl
  xz h := by unfold cpAu at *; simp only at h ⊢; cases hc : x.next with
    | nil => exact absurd hc h
    | cons a l => rfl
  nl := h1
  xl := h2
theorem cpL_ok {l : List Au} (h : ∀ x ∈ l, x.ok) : ∀ x ∈ cpL l, x.ok := by
  intro x hx
  obtain ⟨y, hy, rfl⟩ := List.mem_map.1 hx
  exact cpAu_ok (h y hy).nl (h y hy).xl
theorem cp_get (l : List Au) (i : Nat) : (cpL l)[i]? = (l[i]?).map cpAu := by simp [cpL]
theorem cp_prev (l : List Au) (i : Nat) : prevA (cpL l) i = (prevA l i).map cpAu := by
  unfold prevA
  split
  · rfl
  · exact cp_get l _
theorem cp_nmsGo (x : Au) : ∀ (L : List Nm) (p : Option Nm), nmsGo (cpAu x) p L = nmsGo x p L
  | [], p => rfl
  | n :: r, p => by
    have ih := cp_nmsGo x r (some n)
    have he : nmE (cpAu x) p n = nmE x p n := rfl
    simp only [nmsGo, ih, he]
theorem cp_namesE (x : Au) : namesE (cpAu x) = namesE x := by
  have h := cp_nmsGo x x.names none
  unfold namesE
  rw [show (cpAu x).names = x.names from rfl, h]
theorem cp_auE (p : Option Au) (x : Au) : auE (p.map cpAu) (cpAu x) = auE p x := by
  unfold auE
  rw [cp_namesE]
  cases p <;> rfl
theorem cp_alone (l : List Au) : aloneAt (cpL l) = aloneAt l := by
  funext i
  unfold aloneAt
  rw [cp_get, cp_prev]
  cases l[i]? with
  | none => rfl
  | some x => exact cp_auE _ x
theorem cp_loc (l : List Au) (id : Int) : ∀ (n i : Nat), l.length - i = n → loc (cpL l) id i = loc l id i
  | 0, i, hn => by
    have hl := cpL_len l
    rw [loc.eq_def (cpL l), loc.eq_def l, dif_neg (by omega), dif_neg (by omega)]
  | n + 1, i, hn => by
    have hl := cpL_len l
    have ih := cp_loc l id n (i + 1) (by omega)
    rw [loc.eq_def (cpL l) id i, loc.eq_def l id i, dif_pos (by omega : i < (cpL l).length), dif_pos (by omega : i < l.length), ih]
    have : ((cpL l)[i]'(by omega)).id = (l[i]'(by omega)).id := by simp [cpL, cpAu]
    rw [this]
theorem cp_getA (l : List Au) (id : Int) : getA (cpL l) id = (getA l id).map cpAu := by
  unfold getA
  rw [cp_loc l id _ 0 rfl]
  cases loc l id 0 with
  | none => rfl
  | some j => exact cp_get l j
theorem cp_succE (l : List Au) (x : Au) : succE (cpL l) (cpAu x) = succE l x := by
  have h1 : noneB (cpL l) = noneB l := by funext id; unfold noneB; rw [cp_loc l id _ 0 rfl]
  have h2 : kindB (cpL l) (cpAu x) = kindB l x := by funext id; unfold kindB; rw [cp_getA]; cases getA l id <;> rfl
  have h3 : gapB (cpL l) (cpAu x) = gapB l x := by funext id; unfold gapB; rw [cp_getA]; cases getA l id <;> rfl
  unfold succE
  rw [h1, h2, h3]
  rfl
theorem cp_succ (l : List Au) : succAt (cpL l) = succAt l := by
  funext i
  unfold succAt
  rw [cp_get]
  cases l[i]? with
  | none => rfl
  | some x => exact cp_succE l x
theorem cp_asks (l : List Au) (day : Int) : asksE (cpL l) day = asksE l day := by
  unfold asksE checkE
  rw [cp_alone, cp_succ, cpL_len]
theorem cp_nameR (l : List Au) (id day : Int) : nameR (cpL l) id day = nameR l id day := by
  unfold nameR
  rw [cp_asks, cp_getA]
  cases getA l id <;> rfl
theorem cp_plainR (l : List Au) (x : Au) (day : Int) : plainR (cpL l) (cpAu x) day = plainR l x day := by
  unfold plainR
  rw [cp_nameR]
  rfl
theorem cp_hdGo (l : List Au) (day : Int) : ∀ a : List Au, hdGo (cpL l) day (cpL a) = hdGo l day a
  | [] => rfl
  | x :: r => by
    have ih := cp_hdGo l day r
    unfold cpL at ih ⊢
    have h := cp_plainR l x day
    unfold cpL at h
    simp only [List.map_cons, hdGo, h, ih]
    rfl
theorem cp_hdU (l : List Au) (day : Int) : hdU (cpL l) day = hdU l day := by
  unfold hdU
  rw [cp_hdGo]
theorem cp_hdsV (l : List Au) (day : Int) : hdsV (cpL l) day = hdsV l day := by
  unfold hdsV hdsL
  rw [cp_asks, cp_hdU]
theorem cp_headR (l : List Au) (id day : Int) : headR (cpL l) id day = headR l id day := by
  unfold headR headS
  rw [cp_nameR, cp_hdU]
theorem cp_srchGo (l : List Au) (q : Str) (day : Int) : ∀ a : List Au, srchGo (cpL l) q day (cpL a) = srchGo l q day a
  | [] => rfl
  | x :: r => by
    have ih := cp_srchGo l q day r
    have h : hitB (cpL l) q day (cpAu x) = hitB l q day x := by unfold hitB; rw [cp_nameR]; rfl
    unfold cpL at ih h ⊢
    simp only [List.map_cons, srchGo, h, ih]
    rfl
theorem cp_srchE (l : List Au) (q : Str) (day : Int) : srchE (cpL l) q day = srchE l q day := by
  unfold srchE
  rw [cp_asks]
theorem cp_srchV (l : List Au) (q : Str) (day : Int) : srchV (cpL l) q day = srchV l q day := by
  unfold srchV
  rw [cp_srchE, cp_srchGo]
end Go.Proofs.YtlolhkjjbgpfbaaGreatDoor
