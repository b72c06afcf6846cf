/-
  The plainer form of a region is sound: where its steps have an end, the machine's operations have it, too.
-/
import Derived.Test.YtlolhkjjbgpfbaaGreatDoorAmIr3
set_option linter.all false
namespace Go.Am

section
variable {c : Cfg} {cf : CallF} {base : Nat} {kl : List Nat}

/-- the boxes that expressions see -/
abbrev seen (base : Nat) (kl : List Nat) (bs : List Box) : List Box := killAll (kl.map (base + ·)) bs

theorem parV_mem {env : List (Option AV)} {bs : List Box} : ∀ {l : List (Nat × E)} {vs : List (Nat × AV)}, parV c env bs l = some vs → ∀ i e, (i, e) ∈ l → ∃ v, evE c env bs e = some v ∧ (i, v) ∈ vs
  | [], vs, h, i, e, hm => by cases hm
  | (j, f) :: r, vs, h, i, e, hm => by
    simp only [parV] at h
    split at h
    · rename_i v hv
      split at h
      · rename_i l hl
        cases h
        rcases List.mem_cons.1 hm with h1 | h1
        · cases h1; exact ⟨v, hv, List.mem_cons_self⟩
        · obtain ⟨u, h2, h3⟩ := parV_mem hl i e h1
          exact ⟨u, h2, List.mem_cons_of_mem _ h3⟩
      · cases h
    · cases h

theorem parV_keys {env : List (Option AV)} {bs : List Box} : ∀ {l : List (Nat × E)} {vs : List (Nat × AV)}, parV c env bs l = some vs → vs.map (·.1) = l.map (·.1)
  | [], vs, h => by cases h; rfl
  | (j, f) :: r, vs, h => by
    simp only [parV] at h
    split at h
    · split at h
      · rename_i l hl
        cases h
        simp only [List.map_cons, parV_keys hl]
      · cases h
    · cases h

theorem setAll_length : ∀ (vs : List (Nat × AV)) (env : List (Option AV)), (setAll env vs).length = env.length
  | [], _ => rfl
  | (i, v) :: r, env => by simp only [setAll]; rw [setAll_length r]; simp

theorem setAll_get_ne {k : Nat} : ∀ (vs : List (Nat × AV)) (env : List (Option AV)), (∀ p ∈ vs, p.1 ≠ k) → (setAll env vs).getD k none = env.getD k none
  | [], _, _ => rfl
  | (i, v) :: r, env, h => by
    simp only [setAll]
    rw [setAll_get_ne r _ fun p hp => h p (List.mem_cons_of_mem _ hp)]
    simp only [List.getD_eq_getElem?_getD]
    rw [List.getElem?_set_ne (h (i, v) List.mem_cons_self)]

theorem setAll_get {k : Nat} {v : AV} : ∀ (vs : List (Nat × AV)) (env : List (Option AV)), (vs.map (·.1)).Nodup → (k, v) ∈ vs → k < env.length → (setAll env vs).getD k none = some v
  | [], _, _, h, _ => by cases h
  | (i, u) :: r, env, hn, h, hk => by
    simp only [List.map_cons, List.nodup_cons] at hn
    simp only [setAll]
    rcases List.mem_cons.1 h with h1 | h1
    · cases h1
      rw [setAll_get_ne r _ fun p hp e => hn.1 (by rw [← e]; exact List.mem_map_of_mem hp)]
      simp [List.getD_eq_getElem?_getD, hk]
    · exact setAll_get r _ hn.2 h1 (by simpa using hk)

theorem evE_setAll {bs : List Box} {e : E} : ∀ (vs : List (Nat × AV)) (env : List (Option AV)), (∀ p ∈ vs, e.looks p.1 = false) → evE c (setAll env vs) bs e = evE c env bs e
  | [], _, _ => rfl
  | (i, v) :: r, env, h => by
    simp only [setAll]
    rw [evE_setAll r _ fun p hp => h p (List.mem_cons_of_mem _ hp)]
    exact evE_set (h (i, v) List.mem_cons_self)

theorem any_or' {α : Type} (l : List α) (f g : α → Bool) : (l.any fun p => f p || g p) = (l.any f || l.any g) := by
  induction l with
  | nil => rfl
  | cons a l ih => simp only [List.any_cons, ih]; cases f a <;> cases g a <;> cases l.any f <;> rfl

/-- what the steps ask for has a value -/
theorem demand_ok : ∀ {its : List It} {env : List (Option AV)} {bs : List Box} {r : List (Option AV) × List Box}, runIts c cf base kl its env bs = some r → ∀ e ∈ demand its, (evE c env (seen base kl bs) e).isSome = true
  | [], _, _, _, _, e, he => by cases he
  | .par l :: its, env, bs, r, h, e, he => by
    simp only [runIts] at h
    split at h
    · rename_i vs hvs
      simp only [demand, List.mem_append, List.mem_flatMap] at he
      rcases he with he | ⟨f, hf, he⟩
      · obtain ⟨⟨i, e'⟩, hp, rfl⟩ := List.mem_map.1 he
        obtain ⟨v, hv, _⟩ := parV_mem hvs i e' hp
        show (evE c env (seen base kl bs) e').isSome = true
        rw [hv]; rfl
      · have h1 := demand_ok h f hf
        have h2 := shed_ok he h1
        have h3 := shed_good (bad := fun e => l.any fun p => e.looks p.1) (fun g w x => by simp only [E.looks]; exact any_or' l _ _) he
        rw [evE_setAll vs env (fun p hp => ?_)] at h2
        · exact h2
        · have : p.1 ∈ l.map (·.1) := by rw [← parV_keys hvs]; exact List.mem_map_of_mem hp
          obtain ⟨q, hq, hqp⟩ := List.mem_map.1 this
          rw [List.any_eq_false] at h3
          have := h3 q hq
          rw [hqp] at this
          simpa using this
    · cases h
  | .eff mask k d g o xs :: its, env, bs, r, h, e, he => by
    simp only [runIts] at h
    have late : ∀ {v : AV} {bs' : List Box}, runIts c cf base kl its (setO env d v) bs' = some r → e ∈ (demand its).flatMap (shed fun e => e.reads || looksO d e) → (evE c env (seen base kl bs) e).isSome = true := by
      intro v bs' h he
      obtain ⟨f, hf, he⟩ := List.mem_flatMap.1 he
      have h1 := demand_ok h f hf
      have h2 := shed_ok he h1
      have h3 := shed_good (bad := fun e => e.reads || looksO d e) (fun g w x => by
        cases d with
        | none => simp only [E.reads, looksO, Bool.or_false]
        | some i => simp only [E.reads, looksO, E.looks]; cases g.reads <;> cases x.reads <;> cases g.looks i <;> cases x.looks i <;> rfl) he
      simp only [Bool.or_eq_false_iff] at h3
      rw [evE_noread h3.1 (bs' := seen base kl bs)] at h2
      cases d with
      | none => exact h2
      | some i => simp only [setO] at h2; rw [evE_set h3.2] at h2; exact h2
    simp only [demand, List.mem_append] at he
    split at h
    · rename_i hw
      split at h
      · rename_i vs hvs
        split at h
        · rcases he with he | he
          · cases g with
            | none =>
              simp only at he
              obtain ⟨⟨i, e'⟩, hp, rfl⟩ := List.mem_map.1 he
              obtain ⟨v, hv, _⟩ := parV_mem hvs i e' hp
              show (evE c env (seen base kl bs) e').isSome = true
              rw [hv]; rfl
            | some q =>
              obtain ⟨x, w⟩ := q
              simp only [wantI, wantV] at hw
              have hx : evE c env (seen base kl bs) x = some (.bool w) := by
                split at hw
                · rename_i b hb; rw [hb]; cases b <;> cases w <;> simp_all
                · cases hw
                · cases hw
              simp only [List.mem_cons] at he
              rcases he with rfl | he
              · rw [hx]; rfl
              · obtain ⟨⟨i, e'⟩, hp, rfl⟩ := List.mem_map.1 he
                obtain ⟨v, hv, _⟩ := parV_mem hvs i e' hp
                simp only [evE]
                rw [hx, guardV_yes, hv]; rfl
          · exact late h he
        · cases h
      · cases h
    · rename_i hw
      rcases he with he | he
      · cases g with
        | none => simp [wantI] at hw
        | some q =>
          obtain ⟨x, w⟩ := q
          simp only [wantI, wantV] at hw
          have hx : evE c env (seen base kl bs) x = some (.bool (!w)) ∨ ∃ l, evE c env (seen base kl bs) x = some (.tup l) := by
            split at hw
            · rename_i b hb; left; rw [hb]; cases b <;> cases w <;> simp_all
            · rename_i l hb; right; exact ⟨l, hb⟩
            · cases hw
          simp only [List.mem_cons] at he
          rcases he with rfl | he
          · rcases hx with hx | ⟨l, hx⟩ <;> rw [hx] <;> rfl
          · obtain ⟨⟨i, e'⟩, hp, rfl⟩ := List.mem_map.1 he
            simp only [evE]
            rcases hx with hx | ⟨l, hx⟩
            · rw [hx, guardV_no]; rfl
            · rw [hx, guardV_tup]; rfl
      · exact late h he
    · cases h

/-! ### What is open, and what is set -/

theorem lookE_mem {i : Nat} {e : E} : ∀ {σ : List (Nat × E)}, lookE σ i = some e → (i, e) ∈ σ
  | [], h => by cases h
  | (j, f) :: r, h => by
    simp only [lookE] at h
    split at h
    · rename_i hij; cases h; subst hij; exact List.mem_cons_self
    · exact List.mem_cons_of_mem _ (lookE_mem h)

theorem lookE_some {i : Nat} {e : E} : ∀ {σ : List (Nat × E)}, (i, e) ∈ σ → ∃ f, lookE σ i = some f
  | [], h => by cases h
  | (j, f) :: r, h => by
    simp only [lookE]
    split
    · exact ⟨f, rfl⟩
    · rename_i hij
      rcases List.mem_cons.1 h with h1 | h1
      · cases h1; exact absurd rfl hij
      · exact lookE_some h1

def Uniq (σ : List (Nat × E)) : Prop := ∀ i e, (i, e) ∈ σ → lookE σ i = some e

theorem Uniq.filter {σ : List (Nat × E)} (h : Uniq σ) (p : Nat × E → Bool) : Uniq (σ.filter p) := fun i e he => by
  obtain ⟨f, hf⟩ := lookE_some he
  have h1 := h i e (List.mem_filter.1 he).1
  have h2 := h i f (List.mem_filter.1 (lookE_mem hf)).1
  rw [h1] at h2; cases h2; exact hf

theorem Uniq.look {σ : List (Nat × E)} (h : Uniq σ) {p : Nat × E → Bool} {i : Nat} {e : E} (hl : lookE (σ.filter p) i = some e) : lookE σ i = some e ∧ p (i, e) = true :=
  ⟨h i e (List.mem_filter.1 (lookE_mem hl)).1, (List.mem_filter.1 (lookE_mem hl)).2⟩

theorem Uniq.cons {σ : List (Nat × E)} (h : Uniq σ) (d : Nat) (e : E) : Uniq ((d, e) :: σ.filter fun p => p.1 != d) := fun i f hf => by
  simp only [lookE]
  rcases List.mem_cons.1 hf with h1 | h1
  · cases h1; rw [if_pos rfl]
  · have := (List.mem_filter.1 h1).2
    simp only [bne_iff_ne] at this
    rw [if_neg this]
    exact h.filter _ i f h1

theorem posOf_inj : ∀ {keep : List Nat} {i j k : Nat}, posOf keep i = some k → posOf keep j = some k → i = j
  | [], _, _, _, h, _ => by cases h
  | x :: r, i, j, k, h1, h2 => by
    simp only [posOf] at h1 h2
    split at h1 <;> split at h2
    · subst_vars; rfl
    · cases h1; cases hp : posOf r j <;> rw [hp] at h2 <;> cases h2
    · cases h2; cases hp : posOf r i <;> rw [hp] at h1 <;> cases h1
    · cases hi : posOf r i with
      | none => rw [hi] at h1; cases h1
      | some a => cases hj : posOf r j with
        | none => rw [hj] at h2; cases h2
        | some b =>
          rw [hi] at h1; rw [hj] at h2
          simp only [Option.map_some, Option.some.injEq] at h1 h2
          exact posOf_inj hi (by rw [hj]; congr 1; omega)

theorem posOf_get : ∀ {keep : List Nat} {i k : Nat}, posOf keep i = some k → keep[k]? = some i
  | [], _, _, h => by cases h
  | x :: r, i, k, h => by
    simp only [posOf] at h
    split at h
    · cases h; subst_vars; rfl
    · cases hi : posOf r i with
      | none => rw [hi] at h; cases h
      | some a => rw [hi] at h; cases h; simpa using posOf_get hi

theorem keepOf_mem {keep : List Nat} {σ : List (Nat × E)} {i : Nat} {e : E} (he : lookE σ i = some e) : ∀ {l : List Nat} {j k0 : Nat}, l[j]? = some i → (k0 + j, e) ∈ keepOf keep σ l k0
  | [], _, _, h => by simp at h
  | x :: r, 0, k0, h => by simp at h; subst h; simp [keepOf, he]
  | x :: r, j + 1, k0, h => by
    have := keepOf_mem (keep := keep) he (l := r) (j := j) (k0 := k0 + 1) (by simpa using h)
    rw [show k0 + 1 + j = k0 + (j + 1) by omega] at this
    simp only [keepOf]
    split
    · exact List.mem_cons_of_mem _ this
    · exact this

theorem keepOf_back {keep : List Nat} {σ : List (Nat × E)} {k : Nat} {e : E} : ∀ {l : List Nat} {k0 : Nat}, (k, e) ∈ keepOf keep σ l k0 → ∃ j i, l[j]? = some i ∧ k = k0 + j ∧ lookE σ i = some e
  | [], _, h => by cases h
  | x :: r, k0, h => by
    simp only [keepOf] at h
    split at h
    · rename_i f hf
      rcases List.mem_cons.1 h with h1 | h1
      · cases h1; exact ⟨0, x, rfl, rfl, hf⟩
      · obtain ⟨j, i, h2, h3, h4⟩ := keepOf_back h1
        exact ⟨j + 1, i, by simpa using h2, by omega, h4⟩
    · obtain ⟨j, i, h2, h3, h4⟩ := keepOf_back h
      exact ⟨j + 1, i, by simpa using h2, by omega, h4⟩

theorem keepOf_nodup {keep : List Nat} {σ : List (Nat × E)} : ∀ (l : List Nat) (k0 : Nat), ((keepOf keep σ l k0).map (·.1)).Nodup
  | [], _ => List.nodup_nil
  | x :: r, k0 => by
    simp only [keepOf]
    split
    · simp only [List.map_cons, List.nodup_cons]
      refine ⟨fun h => ?_, keepOf_nodup r _⟩
      obtain ⟨⟨k, e⟩, h1, h2⟩ := List.mem_map.1 h
      obtain ⟨j, i, _, h4, _⟩ := keepOf_back h1
      simp only at h2
      omega
    · exact keepOf_nodup r _

/-- the variables and the open expressions say what the temporaries hold -/
structure RelE (c : Cfg) (keep : List Nat) (nt : Nat) (env : List (Option AV)) (bs : List Box) (σ : List (Nat × E)) (t : Env) : Prop where
  len : env.length = keep.length
  has : ∀ i, i < nt → t.has i = true
  uniq : Uniq σ
  opn : ∀ i e v, lookE σ i = some e → evE c env bs e = some v → t.get .any i = v
  env : ∀ i k v, lookE σ i = none → posOf keep i = some k → env.getD k none = some v → t.get .any i = v

variable {keep : List Nat} {nt : Nat} {env : List (Option AV)} {bs : List Box} {σ : List (Nat × E)} {t : Env}

theorem RelE.res (h : RelE c keep nt env bs σ t) {i : Nat} {e : E} {v : AV} (hr : resT keep σ i = some e) (hv : evE c env bs e = some v) : t.get .any i = v := by
  unfold resT at hr
  split at hr
  · rename_i f hf; cases hr; exact h.opn i _ v hf hv
  · rename_i hf
    simp only [Option.map_eq_some_iff] at hr
    obtain ⟨k, hk, rfl⟩ := hr
    exact h.env i k v hf hk hv

theorem RelE.resO (h : RelE c keep nt env bs σ t) {x : Operand} {e : E} {v : AV} (hr : resO keep σ x = some e) (hv : evE c env bs e = some v) : ev t x = v := by
  cases x with
  | tmp i => exact h.res hr hv
  | const u => cases hr; cases hv; rfl
  | func f => cases hr; cases hv; rfl
  | global g => cases hr

/-- the variables set -/
theorem RelE.flush (h : RelE c keep nt env bs σ t) {vs : List (Nat × AV)} (hvs : parV c env bs (keepOf keep σ keep 0) = some vs) : ∀ i k v, posOf keep i = some k → (setAll env vs).getD k none = some v → t.get .any i = v := by
  intro i k v hk hv
  have hg := posOf_get hk
  have hlt : k < env.length := by rw [h.len]; exact (List.getElem?_eq_some_iff.1 hg).1
  cases hl : lookE σ i with
  | some e =>
    have hm := keepOf_mem (keep := keep) hl (l := keep) (j := k) (k0 := 0) hg
    rw [Nat.zero_add] at hm
    obtain ⟨u, hu, hum⟩ := parV_mem hvs k e hm
    rw [setAll_get vs env (by rw [parV_keys hvs]; exact keepOf_nodup _ _) hum hlt] at hv
    cases hv
    exact h.opn i e _ hl hu
  | none =>
    rw [setAll_get_ne vs env (fun p hp hpk => ?_)] at hv
    · exact h.env i k v hl hk hv
    · have : p.1 ∈ (keepOf keep σ keep 0).map (·.1) := by rw [← parV_keys hvs]; exact List.mem_map_of_mem hp
      obtain ⟨⟨k', e⟩, h1, h2⟩ := List.mem_map.1 this
      obtain ⟨j, i', h3, h4, h5⟩ := keepOf_back h1
      simp only at h2
      have : j = k := by omega
      subst this
      rw [hg] at h3; cases h3
      rw [hl] at h5; cases h5

/-- ... and what stays open -/
theorem RelE.flushed (h : RelE c keep nt env bs σ t) {vs : List (Nat × AV)} (hvs : parV c env bs (keepOf keep σ keep 0) = some vs) : RelE c keep nt (setAll env vs) bs (dropV keep (keepOf keep σ keep 0) σ) t where
  len := by rw [setAll_length]; exact h.len
  has := h.has
  uniq := h.uniq.filter _
  opn := fun i e v hl hv => by
    obtain ⟨h1, h2⟩ := h.uniq.look hl
    simp only [Bool.and_eq_true, List.all_eq_true, Bool.not_eq_true'] at h2
    rw [evE_setAll vs env (fun p hp => ?_)] at hv
    · exact h.opn i e v h1 hv
    · have : p.1 ∈ (keepOf keep σ keep 0).map (·.1) := by rw [← parV_keys hvs]; exact List.mem_map_of_mem hp
      obtain ⟨q, hq, hqp⟩ := List.mem_map.1 this
      rw [← hqp]; exact h2.2 q hq
  env := fun i k v _ hk hv => h.flush hvs i k v hk hv

theorem dropV_none {fl : List (Nat × E)} {i k : Nat} (hu : Uniq σ) (hk : posOf keep i = some k) : lookE (dropV keep fl σ) i = none := by
  cases hl : lookE (dropV keep fl σ) i with
  | none => rfl
  | some e =>
    have h := (hu.look hl).2
    simp only [hk, Option.isNone_some, Bool.false_and, Bool.false_eq_true] at h

end
end Go.Am
