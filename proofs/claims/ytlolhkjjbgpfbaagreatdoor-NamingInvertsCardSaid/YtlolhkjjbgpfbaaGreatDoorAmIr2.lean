/-
  What expressions ask, and what they hang on.
-/
import Derived.Test.YtlolhkjjbgpfbaaGreatDoorAmIr
set_option linter.all false
namespace Go.Am

theorem sameL_eq : ∀ {a b : List UInt8}, sameL a b = true → a = b
  | [], [], _ => rfl
  | [], _ :: _, h => by cases h
  | _ :: _, [], h => by cases h
  | a :: l, b :: m, h => by
    simp only [sameL, Bool.and_eq_true, beq_iff_eq] at h
    rw [h.1, sameL_eq h.2]

theorem sameAV_eq : ∀ {a b : AV}, sameAV a b = true → a = b := by
  intro a b h
  unfold sameAV at h
  split at h
  · simp only [Bool.and_eq_true, beq_iff_eq] at h; rw [h.1, h.2]
  · rw [beq_iff_eq] at h; rw [h]
  · rw [sameL_eq h]
  · rfl
  · cases h

theorem sameE_eq : ∀ {a b : E}, sameE a b = true → a = b := by
  intro a
  induction a <;> intro b h <;> cases b <;> simp only [sameE, Bool.and_eq_true, beq_iff_eq, Bool.false_eq_true] at h
  case cst.cst => rw [sameAV_eq h]
  case var.var => rw [h]
  case bin.bin ih1 ih2 _ _ _ _ => obtain ⟨⟨⟨rfl, rfl⟩, h1⟩, h2⟩ := h; rw [ih1 h1, ih2 h2]
  case un.un ih _ _ => obtain ⟨rfl, h1⟩ := h; rw [ih h1]
  case pick.pick ih1 ih2 ih3 _ _ _ => obtain ⟨⟨h1, h2⟩, h3⟩ := h; rw [ih1 h1, ih2 h2, ih3 h3]
  case guard.guard ih1 ih2 _ _ _ => obtain ⟨⟨h1, rfl⟩, h3⟩ := h; rw [ih1 h1, ih2 h3]
  case and.and ih1 ih2 _ _ => rw [ih1 h.1, ih2 h.2]
  case or.or ih1 ih2 _ _ => rw [ih1 h.1, ih2 h.2]
  case index.index ih1 ih2 _ _ _ => obtain ⟨⟨rfl, h1⟩, h2⟩ := h; rw [ih1 h1, ih2 h2]
  case field.field ih _ _ _ => obtain ⟨⟨rfl, h1⟩, rfl⟩ := h; rw [ih h1]
  case extract.extract ih _ _ => obtain ⟨h1, rfl⟩ := h; rw [ih h1]
  case conv.conv ih _ _ _ => obtain ⟨⟨rfl, rfl⟩, h1⟩ := h; rw [ih h1]
  case toInt.toInt ih _ _ => obtain ⟨rfl, h1⟩ := h; rw [ih h1]
  case len.len ih _ _ => obtain ⟨rfl, h1⟩ := h; rw [ih h1]
  case lenS.lenS ih _ => rw [ih h]
  case slA.slA ih _ => rw [ih h]
  case slL.slL ih1 ih2 _ _ => rw [ih1 h.1, ih2 h.2]
  case slH.slH ih1 ih2 _ _ => rw [ih1 h.1, ih2 h.2]
  case slB.slB ih1 ih2 ih3 _ _ _ => rw [ih1 h.1.1, ih2 h.1.2, ih3 h.2]
  case load.load ih _ _ => obtain ⟨rfl, h1⟩ := h; rw [ih h1]
  case faddr.faddr ih _ _ _ => obtain ⟨⟨rfl, h1⟩, rfl⟩ := h; rw [ih h1]
  case iaddr.iaddr ih1 ih2 _ _ _ => obtain ⟨⟨rfl, h1⟩, h2⟩ := h; rw [ih1 h1, ih2 h2]
  case nilck.nilck ih _ => rw [ih h]

theorem out1_some {o : Out} {v : AV} (h : out1 o = some v) : o = some (v, .none) := by
  unfold out1 at h
  split at h
  · cases h; rfl
  · cases h

theorem ap1_some {x : Option AV} {f : AV → Option AV} {v : AV} (h : ap1 x f = some v) : ∃ a, x = some a ∧ f a = some v := by
  cases x with
  | none => cases h
  | some a => exact ⟨a, rfl, h⟩

theorem ap2_some {x y : Option AV} {f : AV → AV → Option AV} {v : AV} (h : ap2 x y f = some v) : ∃ a b, x = some a ∧ y = some b ∧ f a b = some v := by
  cases x with
  | none => cases h
  | some a => cases y with
    | none => cases h
    | some b => exact ⟨a, b, rfl, rfl, h⟩

theorem ap3_some {x y z : Option AV} {f : AV → AV → AV → Option AV} {v : AV} (h : ap3 x y z f = some v) : ∃ a b d, x = some a ∧ y = some b ∧ z = some d ∧ f a b d = some v := by
  cases x with
  | none => cases h
  | some a => cases y with
    | none => cases h
    | some b => cases z with
      | none => cases h
      | some d => exact ⟨a, b, d, rfl, rfl, rfl, h⟩

/-- the ways in which a guarded one has a value -/
theorem guardV_some {g e : Option AV} {w : Bool} {v : AV} (h : guardV g w e = some v) : (g = some (.bool w) ∧ e = some v) ∨ (g = some (.bool (!w)) ∧ v = .tup []) ∨ (∃ l, g = some (.tup l)) ∧ v = .tup [] := by
  unfold guardV at h
  split at h
  · rename_i b
    split at h
    · rename_i hb; rw [beq_iff_eq] at hb; subst hb; exact .inl ⟨rfl, h⟩
    · rename_i hb; cases h; refine .inr (.inl ⟨?_, rfl⟩); cases b <;> cases w <;> simp_all
  · cases h; exact .inr (.inr ⟨⟨_, rfl⟩, rfl⟩)
  · cases h

theorem guardV_yes (w : Bool) (e : Option AV) : guardV (some (.bool w)) w e = e := by simp [guardV]
theorem guardV_no (w : Bool) (e : Option AV) : guardV (some (.bool (!w))) w e = some (.tup []) := by cases w <;> rfl
theorem guardV_tup (w : Bool) (l : List AV) (e : Option AV) : guardV (some (.tup l)) w e = some (.tup []) := rfl

theorem andV_some {p b : Option AV} {v : AV} (h : andV p b = some v) : (p = some (.bool true) ∧ b = some v) ∨ (p = some (.bool false) ∧ v = .bool false) := by
  unfold andV at h
  split at h
  · exact .inl ⟨rfl, h⟩
  · cases h; exact .inr ⟨rfl, rfl⟩
  · cases h

theorem orV_some {p b : Option AV} {v : AV} (h : orV p b = some v) : (p = some (.bool false) ∧ b = some v) ∨ (p = some (.bool true) ∧ v = .bool true) := by
  unfold orV at h
  split at h
  · cases h; exact .inr ⟨rfl, rfl⟩
  · exact .inl ⟨rfl, h⟩
  · cases h

section
variable {c : Cfg} {env : List (Option AV)}

theorem out1_sub {o o' : Out} {v : AV} (h : out1 o = some v) (hs : ∀ r e, e.soft → o = some (r, e) → o' = some (r, e)) : out1 o' = some v := by
  rw [hs v .none trivial (out1_some h)]; rfl

theorem lenT_sub {bs bs' : List Box} (hs : Sub bs bs') {ty : TypeId} {x r : AV} {e : Eff} (h : lenT c ty x bs = some (r, e)) : lenT c ty x bs' = some (r, e) := by
  unfold lenT at h ⊢
  split at h
  · exact len_sub hs h
  · cases h

/-- more boxes turn nothing -/
theorem evE_sub {bs bs' : List Box} (hs : Sub bs bs') : ∀ {e : E} {v : AV}, evE c env bs e = some v → evE c env bs' e = some v := by
  intro e
  induction e <;> intro v h <;> simp only [evE] at h ⊢
  case var => exact h
  case cst => exact h
  case bin ih1 ih2 => obtain ⟨a, b, h1, h2, h3⟩ := ap2_some h; rw [ih1 h1, ih2 h2]; exact h3
  case un ih => obtain ⟨a, h1, h2⟩ := ap1_some h; rw [ih h1]; exact h2
  case pick ih1 ih2 ih3 => obtain ⟨a, b, d, h1, h2, h3, h4⟩ := ap3_some h; rw [ih1 h1, ih2 h2, ih3 h3]; exact h4
  case guard ih1 ih2 =>
    rcases guardV_some h with ⟨h1, h2⟩ | ⟨h1, rfl⟩ | ⟨⟨l, h1⟩, rfl⟩
    · rw [ih1 h1, guardV_yes, ih2 h2]
    · rw [ih1 h1, guardV_no]
    · rw [ih1 h1, guardV_tup]
  case and ih1 ih2 =>
    rcases andV_some h with ⟨h1, h2⟩ | ⟨h1, rfl⟩
    · rw [ih1 h1, ih2 h2]; rfl
    · rw [ih1 h1]; rfl
  case or ih1 ih2 =>
    rcases orV_some h with ⟨h1, h2⟩ | ⟨h1, rfl⟩
    · rw [ih1 h1, ih2 h2]; rfl
    · rw [ih1 h1]; rfl
  case index ih1 ih2 => obtain ⟨a, b, h1, h2, h3⟩ := ap2_some h; rw [ih1 h1, ih2 h2]; exact h3
  case field ih => obtain ⟨a, h1, h2⟩ := ap1_some h; rw [ih h1]; exact h2
  case extract ih => obtain ⟨a, h1, h2⟩ := ap1_some h; rw [ih h1]; exact h2
  case conv ih => obtain ⟨a, h1, h2⟩ := ap1_some h; rw [ih h1]; exact out1_sub h2 fun r e _ h => convert_sub hs h
  case toInt ih => obtain ⟨a, h1, h2⟩ := ap1_some h; rw [ih h1]; exact h2
  case len ih => obtain ⟨a, h1, h2⟩ := ap1_some h; rw [ih h1]; exact out1_sub h2 fun r e _ h => lenT_sub hs h
  case lenS ih => obtain ⟨a, h1, h2⟩ := ap1_some h; rw [ih h1]; exact h2
  case slA ih => obtain ⟨a, h1, h2⟩ := ap1_some h; rw [ih h1]; exact h2
  case slL ih1 ih2 => obtain ⟨a, b, h1, h2, h3⟩ := ap2_some h; rw [ih1 h1, ih2 h2]; exact h3
  case slH ih1 ih2 => obtain ⟨a, b, h1, h2, h3⟩ := ap2_some h; rw [ih1 h1, ih2 h2]; exact h3
  case slB ih1 ih2 ih3 => obtain ⟨a, b, d, h1, h2, h3, h4⟩ := ap3_some h; rw [ih1 h1, ih2 h2, ih3 h3]; exact h4
  case load ih => obtain ⟨a, h1, h2⟩ := ap1_some h; rw [ih h1]; exact out1_sub h2 fun r e _ h => load_sub hs h
  case faddr ih => obtain ⟨a, h1, h2⟩ := ap1_some h; rw [ih h1]; exact out1_sub h2 fun r e _ h => fieldAddr_sub hs h
  case iaddr ih1 ih2 => obtain ⟨a, b, h1, h2, h3⟩ := ap2_some h; rw [ih1 h1, ih2 h2]; exact out1_sub h3 fun r e _ h => indexAddr_sub hs h
  case nilck ih => obtain ⟨a, h1, h2⟩ := ap1_some h; rw [ih h1]; exact h2

theorem evE_noread {bs bs' : List Box} : ∀ {e : E}, e.reads = false → evE c env bs e = evE c env bs' e := by
  intro e
  induction e <;> intro h <;> simp only [E.reads, Bool.or_eq_false_iff, Bool.true_eq_false] at h <;> simp only [evE]
  case bin ih1 ih2 => rw [ih1 h.1, ih2 h.2]
  case un ih => rw [ih h]
  case pick ih1 ih2 ih3 => rw [ih1 h.1.1, ih2 h.1.2, ih3 h.2]
  case guard ih1 ih2 => rw [ih1 h.1, ih2 h.2]
  case and ih1 ih2 => rw [ih1 h.1, ih2 h.2]
  case or ih1 ih2 => rw [ih1 h.1, ih2 h.2]
  case index ih1 ih2 => rw [ih1 h.1, ih2 h.2]
  case field ih => rw [ih h]
  case extract ih => rw [ih h]
  case toInt ih => rw [ih h]
  case lenS ih => rw [ih h]
  case slA ih => rw [ih h]
  case slL ih1 ih2 => rw [ih1 h.1, ih2 h.2]
  case slH ih1 ih2 => rw [ih1 h.1, ih2 h.2]
  case slB ih1 ih2 ih3 => rw [ih1 h.1.1, ih2 h.1.2, ih3 h.2]
  case nilck ih => rw [ih h]

theorem evE_set {bs : List Box} {k : Nat} {x : Option AV} : ∀ {e : E}, e.looks k = false → evE c (env.set k x) bs e = evE c env bs e := by
  intro e
  induction e <;> intro h <;> simp only [E.looks, Bool.or_eq_false_iff, beq_eq_false_iff_ne, ne_eq] at h <;> simp only [evE]
  case var i => simp only [vget, List.getD_eq_getElem?_getD, List.getElem?_set_ne h]
  case bin ih1 ih2 => rw [ih1 h.1, ih2 h.2]
  case un ih => rw [ih h]
  case pick ih1 ih2 ih3 => rw [ih1 h.1.1, ih2 h.1.2, ih3 h.2]
  case guard ih1 ih2 => rw [ih1 h.1, ih2 h.2]
  case and ih1 ih2 => rw [ih1 h.1, ih2 h.2]
  case or ih1 ih2 => rw [ih1 h.1, ih2 h.2]
  case index ih1 ih2 => rw [ih1 h.1, ih2 h.2]
  case field ih => rw [ih h]
  case extract ih => rw [ih h]
  case conv ih => rw [ih h]
  case toInt ih => rw [ih h]
  case len ih => rw [ih h]
  case lenS ih => rw [ih h]
  case slA ih => rw [ih h]
  case slL ih1 ih2 => rw [ih1 h.1, ih2 h.2]
  case slH ih1 ih2 => rw [ih1 h.1, ih2 h.2]
  case slB ih1 ih2 ih3 => rw [ih1 h.1.1, ih2 h.1.2, ih3 h.2]
  case load ih => rw [ih h]
  case faddr ih => rw [ih h]
  case iaddr ih1 ih2 => rw [ih1 h.1, ih2 h.2]
  case nilck ih => rw [ih h]

theorem evE_strip {bs : List Box} {g : E} {w : Bool} (hg : evE c env bs g = some (.bool w)) : ∀ (e : E), evE c env bs (stripE g w e) = evE c env bs e := by
  intro e
  induction e <;> simp only [stripE]
  case guard x v y ih1 ih2 =>
    split
    · rename_i h
      simp only [Bool.and_eq_true, beq_iff_eq] at h
      obtain ⟨h1, rfl⟩ := h
      obtain rfl := sameE_eq h1
      rw [ih2]; simp only [evE]; rw [hg, guardV_yes]
    · simp only [evE]; rw [ih1, ih2]
  all_goals simp only [evE, *]

theorem evE_headed {bs : List Box} {g : E} {w : Bool} (hg : evE c env bs g = some (.bool (!w)) ∨ ∃ l, evE c env bs g = some (.tup l)) : ∀ {e : E}, headedE g w e = true → evE c env bs e = some (.tup []) := by
  intro e
  induction e <;> intro h <;> simp only [headedE, Bool.false_eq_true] at h
  case guard x v y ih1 ih2 =>
    simp only [Bool.or_eq_true, Bool.and_eq_true, beq_iff_eq] at h
    simp only [evE]
    rcases h with ⟨h1, rfl⟩ | h1
    · obtain rfl := sameE_eq h1
      rcases hg with hg | ⟨l, hg⟩
      · rw [hg, guardV_no]
      · rw [hg, guardV_tup]
    · rw [ih1 h1, guardV_tup]

/-- what is asked has a value -/
theorem evE_within {bs : List Box} : ∀ {F e : E}, e.within F = true → (evE c env bs F).isSome = true → (evE c env bs e).isSome = true := by
  intro F
  induction F <;> intro e h hF <;> simp only [E.within, Bool.or_eq_true, Bool.and_eq_true] at h
  case var => rw [sameE_eq h]; exact hF
  case cst => rw [sameE_eq h]; exact hF
  case guard g w x ih1 ih2 =>
    rcases h with (h | h) | ⟨h1, h2⟩
    · rw [sameE_eq h]; exact hF
    · obtain ⟨v, hv⟩ := Option.isSome_iff_exists.1 hF
      refine ih1 h ?_
      simp only [evE] at hv
      rcases guardV_some hv with ⟨h1, h2⟩ | ⟨h1, rfl⟩ | ⟨⟨l, h1⟩, rfl⟩ <;> rw [h1] <;> rfl
    · obtain ⟨v, hv⟩ := Option.isSome_iff_exists.1 hF
      simp only [evE] at hv
      rcases guardV_some hv with ⟨h3, h4⟩ | ⟨h3, rfl⟩ | ⟨h3, rfl⟩
      · rw [← evE_strip h3]; exact ih2 h2 (by rw [h4]; rfl)
      · rw [evE_headed (.inl h3) h1]; rfl
      · rw [evE_headed (.inr h3) h1]; rfl
  case and g x ih1 ih2 =>
    rcases h with (h | h) | ⟨h1, h2⟩
    · rw [sameE_eq h]; exact hF
    · obtain ⟨v, hv⟩ := Option.isSome_iff_exists.1 hF
      refine ih1 h ?_
      simp only [evE] at hv
      rcases andV_some hv with ⟨h1, h2⟩ | ⟨h1, rfl⟩ <;> rw [h1] <;> rfl
    · obtain ⟨v, hv⟩ := Option.isSome_iff_exists.1 hF
      simp only [evE] at hv
      rcases andV_some hv with ⟨h3, h4⟩ | ⟨h3, rfl⟩
      · rw [← evE_strip h3]; exact ih2 h2 (by rw [h4]; rfl)
      · rw [evE_headed (.inl h3) h1]; rfl
  case or g x ih1 ih2 =>
    rcases h with (h | h) | ⟨h1, h2⟩
    · rw [sameE_eq h]; exact hF
    · obtain ⟨v, hv⟩ := Option.isSome_iff_exists.1 hF
      refine ih1 h ?_
      simp only [evE] at hv
      rcases orV_some hv with ⟨h1, h2⟩ | ⟨h1, rfl⟩ <;> rw [h1] <;> rfl
    · obtain ⟨v, hv⟩ := Option.isSome_iff_exists.1 hF
      simp only [evE] at hv
      rcases orV_some hv with ⟨h3, h4⟩ | ⟨h3, rfl⟩
      · rw [← evE_strip h3]; exact ih2 h2 (by rw [h4]; rfl)
      · rw [evE_headed (.inl h3) h1]; rfl
  case pick p x y ih1 ih2 ih3 =>
    obtain ⟨v, hv⟩ := Option.isSome_iff_exists.1 hF
    simp only [evE] at hv
    obtain ⟨a, b, d, h1, h2, h3, h4⟩ := ap3_some hv
    rcases h with ((h | h) | h) | h
    · rw [sameE_eq h]; exact hF
    · exact ih1 h (by rw [h1]; rfl)
    · exact ih2 h (by rw [h2]; rfl)
    · exact ih3 h (by rw [h3]; rfl)
  case slB p x y ih1 ih2 ih3 =>
    obtain ⟨v, hv⟩ := Option.isSome_iff_exists.1 hF
    simp only [evE] at hv
    obtain ⟨a, b, d, h1, h2, h3, h4⟩ := ap3_some hv
    rcases h with ((h | h) | h) | h
    · rw [sameE_eq h]; exact hF
    · exact ih1 h (by rw [h1]; rfl)
    · exact ih2 h (by rw [h2]; rfl)
    · exact ih3 h (by rw [h3]; rfl)
  case bin ih1 ih2 =>
    obtain ⟨v, hv⟩ := Option.isSome_iff_exists.1 hF
    simp only [evE] at hv
    obtain ⟨a, b, h1, h2, h3⟩ := ap2_some hv
    rcases h with (h | h) | h
    · rw [sameE_eq h]; exact hF
    · exact ih1 h (by rw [h1]; rfl)
    · exact ih2 h (by rw [h2]; rfl)
  case index ih1 ih2 =>
    obtain ⟨v, hv⟩ := Option.isSome_iff_exists.1 hF
    simp only [evE] at hv
    obtain ⟨a, b, h1, h2, h3⟩ := ap2_some hv
    rcases h with (h | h) | h
    · rw [sameE_eq h]; exact hF
    · exact ih1 h (by rw [h1]; rfl)
    · exact ih2 h (by rw [h2]; rfl)
  case slL ih1 ih2 =>
    obtain ⟨v, hv⟩ := Option.isSome_iff_exists.1 hF
    simp only [evE] at hv
    obtain ⟨a, b, h1, h2, h3⟩ := ap2_some hv
    rcases h with (h | h) | h
    · rw [sameE_eq h]; exact hF
    · exact ih1 h (by rw [h1]; rfl)
    · exact ih2 h (by rw [h2]; rfl)
  case slH ih1 ih2 =>
    obtain ⟨v, hv⟩ := Option.isSome_iff_exists.1 hF
    simp only [evE] at hv
    obtain ⟨a, b, h1, h2, h3⟩ := ap2_some hv
    rcases h with (h | h) | h
    · rw [sameE_eq h]; exact hF
    · exact ih1 h (by rw [h1]; rfl)
    · exact ih2 h (by rw [h2]; rfl)
  case iaddr ih1 ih2 =>
    obtain ⟨v, hv⟩ := Option.isSome_iff_exists.1 hF
    simp only [evE] at hv
    obtain ⟨a, b, h1, h2, h3⟩ := ap2_some hv
    rcases h with (h | h) | h
    · rw [sameE_eq h]; exact hF
    · exact ih1 h (by rw [h1]; rfl)
    · exact ih2 h (by rw [h2]; rfl)
  all_goals
    rename_i ih
    obtain ⟨v, hv⟩ := Option.isSome_iff_exists.1 hF
    simp only [evE] at hv
    obtain ⟨a, h1, h2⟩ := ap1_some hv
    rcases h with h | h
    · rw [sameE_eq h]; exact hF
    · exact ih h (by rw [h1]; rfl)

theorem shed_ok {bs : List Box} {bad : E → Bool} : ∀ {F e : E}, e ∈ shed bad F → (evE c env bs F).isSome = true → (evE c env bs e).isSome = true := by
  have grd : ∀ {g x e : E} {w : Bool} {v : AV}, e ∈ (shed bad x).map (.guard g w) → (∀ {e}, e ∈ shed bad x → (evE c env bs x).isSome = true → (evE c env bs e).isSome = true) → guardV (evE c env bs g) w (evE c env bs x) = some v → (evE c env bs e).isSome = true := by
    intro g x e w v he ih hv
    obtain ⟨y, hy, rfl⟩ := List.mem_map.1 he
    simp only [evE]
    rcases guardV_some hv with ⟨h1, h2⟩ | ⟨h1, rfl⟩ | ⟨⟨l, h1⟩, rfl⟩
    · rw [h1, guardV_yes]; exact ih hy (by rw [h2]; rfl)
    · rw [h1, guardV_no]; rfl
    · rw [h1, guardV_tup]; rfl
  intro F
  induction F <;> intro e h hF <;> simp only [shed] at h
  case guard g w x ih1 ih2 =>
    split at h
    case h_2 => simp only [List.mem_cons, List.not_mem_nil, or_false] at h; rw [h]; exact hF
    obtain ⟨v, hv⟩ := Option.isSome_iff_exists.1 hF
    simp only [evE] at hv
    rw [List.mem_append] at h
    rcases h with h | h
    · refine ih1 h ?_
      rcases guardV_some hv with ⟨h1, h2⟩ | ⟨h1, rfl⟩ | ⟨⟨l, h1⟩, rfl⟩ <;> rw [h1] <;> rfl
    · split at h
      · cases h
      · exact grd h ih2 hv
  case and g x ih1 ih2 =>
    split at h
    case h_2 => simp only [List.mem_cons, List.not_mem_nil, or_false] at h; rw [h]; exact hF
    obtain ⟨v, hv⟩ := Option.isSome_iff_exists.1 hF
    simp only [evE] at hv
    rw [List.mem_append] at h
    rcases h with h | h
    · refine ih1 h ?_
      rcases andV_some hv with ⟨h1, h2⟩ | ⟨h1, rfl⟩ <;> rw [h1] <;> rfl
    · split at h
      · cases h
      · rcases andV_some hv with ⟨h1, h2⟩ | ⟨h1, rfl⟩
        · exact grd (v := v) h ih2 (by rw [h1, guardV_yes]; exact h2)
        · exact grd (v := .tup []) h ih2 (by rw [h1]; rfl)
  case or g x ih1 ih2 =>
    split at h
    case h_2 => simp only [List.mem_cons, List.not_mem_nil, or_false] at h; rw [h]; exact hF
    obtain ⟨v, hv⟩ := Option.isSome_iff_exists.1 hF
    simp only [evE] at hv
    rw [List.mem_append] at h
    rcases h with h | h
    · refine ih1 h ?_
      rcases orV_some hv with ⟨h1, h2⟩ | ⟨h1, rfl⟩ <;> rw [h1] <;> rfl
    · split at h
      · cases h
      · rcases orV_some hv with ⟨h1, h2⟩ | ⟨h1, rfl⟩
        · exact grd (v := v) h ih2 (by rw [h1, guardV_yes]; exact h2)
        · exact grd (v := .tup []) h ih2 (by rw [h1]; rfl)
  all_goals
    split at h
    case h_2 => simp only [List.mem_cons, List.not_mem_nil, or_false] at h; rw [h]; exact hF
    obtain ⟨v, hv⟩ := Option.isSome_iff_exists.1 hF
    simp only [evE] at hv
    first
      | (simp only [List.not_mem_nil] at h; done)
      | (obtain ⟨a, b, d, h1, h2, h3, h4⟩ := ap3_some hv
         rename_i ih1 ih2 ih3 _ _
         simp only [List.mem_append] at h
         rcases h with h | h | h
         · exact ih1 h (by rw [h1]; rfl)
         · exact ih2 h (by rw [h2]; rfl)
         · exact ih3 h (by rw [h3]; rfl))
      | (obtain ⟨a, b, h1, h2, h3⟩ := ap2_some hv
         rename_i ih1 ih2 _ _
         simp only [List.mem_append] at h
         rcases h with h | h
         · exact ih1 h (by rw [h1]; rfl)
         · exact ih2 h (by rw [h2]; rfl))
      | (obtain ⟨a, h1, h2⟩ := ap1_some hv
         rename_i ih _ _
         exact ih h (by rw [h1]; rfl))

theorem shed_good {bad : E → Bool} (hb : ∀ g w x, bad (.guard g w x) = (bad g || bad x)) : ∀ {F e : E}, e ∈ shed bad F → bad e = false := by
  have grd : ∀ {g x e : E} {w : Bool}, e ∈ (match bad g with | true => [] | false => (shed bad x).map (E.guard g w)) → (∀ {e}, e ∈ shed bad x → bad e = false) → bad e = false := by
    intro g x e w he ih
    split at he
    · cases he
    · rename_i hg
      obtain ⟨y, hy, rfl⟩ := List.mem_map.1 he
      rw [hb, hg, ih hy]; rfl
  intro F
  induction F <;> intro e h <;> simp only [shed] at h
  case guard g w x ih1 ih2 =>
    split at h
    case h_2 => simp only [List.mem_cons, List.not_mem_nil, or_false] at h; rw [h]; assumption
    rw [List.mem_append] at h
    rcases h with h | h
    · exact ih1 h
    · exact grd h ih2
  case and g x ih1 ih2 =>
    split at h
    case h_2 => simp only [List.mem_cons, List.not_mem_nil, or_false] at h; rw [h]; assumption
    rw [List.mem_append] at h
    rcases h with h | h
    · exact ih1 h
    · exact grd h ih2
  case or g x ih1 ih2 =>
    split at h
    case h_2 => simp only [List.mem_cons, List.not_mem_nil, or_false] at h; rw [h]; assumption
    rw [List.mem_append] at h
    rcases h with h | h
    · exact ih1 h
    · exact grd h ih2
  all_goals
    split at h
    case h_2 => simp only [List.mem_cons, List.not_mem_nil, or_false] at h; rw [h]; assumption
    first
      | (simp only [List.not_mem_nil] at h; done)
      | (rename_i ih1 ih2 ih3 _ _
         simp only [List.mem_append] at h
         rcases h with h | h | h
         · exact ih1 h
         · exact ih2 h
         · exact ih3 h)
      | (rename_i ih1 ih2 _ _
         simp only [List.mem_append] at h
         rcases h with h | h
         · exact ih1 h
         · exact ih2 h)
      | (rename_i ih _ _
         exact ih h)
end
end Go.Am
