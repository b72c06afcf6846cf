/-
  The plainer form of a region is sound: where its steps have an end, the machine's operations have it, too.
-/
import Derived.Test.YtlolhkjjbgpfbaaGreatDoorAmIr2
set_option linter.all false
namespace Go.Am

theorem aop_E (c : Cfg) (op : Op) (t : Env) (bs : List Box) (id : Nat) : aop c op t bs id = aopE c op (ev t) bs id := by
  cases op <;> rfl

theorem doOp_E (c : Cfg) (cf : CallF) (op : Op) (t : Env) (bs : List Box) (id : Nat) : doOp c cf op t bs id = doOpE c cf op (ev t) bs id := by
  cases op
  case call k =>
    obtain ⟨callee, args, ts⟩ := k
    cases callee <;> rfl
  all_goals rfl

theorem map_congr' {φ ψ : Operand → AV} {l : List Operand} (h : ∀ x ∈ l, φ x = ψ x) : l.map φ = l.map ψ := List.map_congr_left h

theorem partsE_congr {φ ψ : Operand → AV} {l : List (Nat × Operand)} (h : ∀ x ∈ l.map (·.2), φ x = ψ x) : (l.map fun p => (p.1, φ p.2)) = l.map fun p => (p.1, ψ p.2) :=
  List.map_congr_left fun p hp => by rw [h p.2 (List.mem_map_of_mem hp)]

theorem optE_congr {φ ψ : Operand → AV} {x : Option Operand} (h : ∀ y ∈ x.toArray, φ y = ψ y) : x.map φ = x.map ψ := by
  cases x with
  | none => rfl
  | some x => simp only [Option.map_some]; rw [h x (by simp)]

theorem aopE_congr (c : Cfg) {op : Op} {φ ψ : Operand → AV} (h : ∀ x ∈ op.operands, φ x = ψ x) (bs : List Box) (id : Nat) : aopE c op φ bs id = aopE c op ψ bs id := by
  cases op <;> simp only [Op.operands] at h
  case move x => simp only [aopE]; rw [h x (by simp)]
  case assign x => simp only [aopE]; rw [h x (by simp)]
  case pick x y z => simp only [aopE]; rw [h x (by simp), h y (by simp), h z (by simp)]
  case box e x => simp only [aopE]; rw [h x (by simp)]
  case build ty ps => simp only [aopE]; rw [partsE_congr (fun x hx => h x (by simpa using hx))]
  case buildSlice ty n ps => simp only [aopE]; rw [partsE_congr (fun x hx => h x (by simpa using hx))]
  case load ty x => simp only [aopE]; rw [h x (by simp)]
  case store ty x y => simp only [aopE]; rw [h x (by simp), h y (by simp)]
  case nilCheck x => simp only [aopE]; rw [h x (by simp)]
  case binOp o ty x y ty' => simp only [aopE]; rw [h x (by simp), h y (by simp)]
  case unOp o ty x => simp only [aopE]; rw [h x (by simp)]
  case convert s d x => simp only [aopE]; rw [h x (by simp)]
  case makeFunc fn first caps =>
    cases fn <;> first
      | rfl
      | (simp only [aopE]; rw [map_congr' (fun x hx => h x (by simp at hx ⊢; exact .inl hx)), map_congr' (fun x hx => h x (by simp at hx ⊢; exact .inr hx))])
  case makeSlice ty x y => simp only [aopE]; rw [h x (by simp), h y (by simp)]
  case slice ty x lo hi mx =>
    have h1 := optE_congr (x := lo) (fun y hy => h y (by simp only [Array.mem_append]; exact .inl (.inl (.inr hy))))
    have h2 := optE_congr (x := hi) (fun y hy => h y (by simp only [Array.mem_append]; exact .inl (.inr hy)))
    simp only [aopE]
    rw [h x (by simp), h1, h2]
    cases mx with
    | none => rfl
    | some m => simp only; rw [h m (by simp)]
  case fieldAddr ty x f => simp only [aopE]; rw [h x (by simp)]
  case field ty x f => simp only [aopE]; rw [h x (by simp)]
  case indexAddr ty x y => simp only [aopE]; rw [h x (by simp), h y (by simp)]
  case index ty x y => simp only [aopE]; rw [h x (by simp), h y (by simp)]
  case extract x i => simp only [aopE]; rw [h x (by simp)]
  case makeMap ty r => simp only [aopE]; rw [optE_congr h]
  case range ty x => simp only [aopE]; rw [h x (by simp)]
  case next x str => simp only [aopE]; rw [h x (by simp)]
  case lookup ty x k ok => simp only [aopE]; rw [h x (by simp), h k (by simp)]
  case mapUpdate ty m k x => simp only [aopE]; rw [h m (by simp), h k (by simp), h x (by simp)]
  case insert ty m k x => simp only [aopE]; rw [h m (by simp), h k (by simp), h x (by simp)]
  case mapEntry ty m k => simp only [aopE]; rw [h m (by simp), h k (by simp)]
  case entryStore ty m s x => simp only [aopE]; rw [h m (by simp), h s (by simp), h x (by simp)]
  case call k =>
    obtain ⟨callee, args, ts⟩ := k
    simp only [aopE]
    rw [map_congr' (fun x hx => h x (by simp only [Call.operands, Array.mem_append]; exact .inr (by simpa using hx)))]
  all_goals rfl

theorem doOpE_congr (c : Cfg) (cf : CallF) {op : Op} {φ ψ : Operand → AV} (h : ∀ x ∈ op.operands, φ x = ψ x) (bs : List Box) (id : Nat) : doOpE c cf op φ bs id = doOpE c cf op ψ bs id := by
  unfold doOpE
  split
  · rename_i k
    obtain ⟨callee, args, ts⟩ := k
    simp only
    cases callee with
    | value f =>
      simp only
      rw [h f (by simp [Op.operands, Call.operands]), map_congr' (fun x hx => h x (by simp only [Op.operands, Call.operands, Array.mem_append]; exact .inr (by simpa using hx)))]
    | invoke r m => exact aopE_congr c h bs id
    | builtin b => exact aopE_congr c h bs id
  · exact aopE_congr c h bs id

/-! ### Operations that are expressions -/

theorem bind1_some {x : Option E} {f : E → E} {e : E} (h : bind1 x f = some e) : ∃ a, x = some a ∧ e = f a := by
  unfold bind1 at h
  cases x with
  | none => cases h
  | some a => cases h; exact ⟨a, rfl, rfl⟩
theorem bind2_some {x y : Option E} {f : E → E → E} {e : E} (h : bind2 x y f = some e) : ∃ a b, x = some a ∧ y = some b ∧ e = f a b := by
  unfold bind2 at h
  split at h
  · cases h; exact ⟨_, _, rfl, rfl, rfl⟩
  · cases h
theorem bind3_some {x y z : Option E} {f : E → E → E → E} {e : E} (h : bind3 x y z f = some e) : ∃ a b d, x = some a ∧ y = some b ∧ z = some d ∧ e = f a b d := by
  unfold bind3 at h
  split at h
  · cases h; exact ⟨_, _, _, rfl, rfl, rfl, rfl⟩
  · cases h

theorem evE_mkPick {c : Cfg} {env : List (Option AV)} {bs : List Box} {p a b : E} {v : AV} (h : evE c env bs (mkPick p a b) = some v) : evE c env bs (.pick p a b) = some v := by
  unfold mkPick at h
  split at h
  · split at h
    · rename_i hs
      obtain rfl := sameE_eq hs
      simp only [evE] at h ⊢
      rcases andV_some h with ⟨h1, h2⟩ | ⟨h1, rfl⟩
      · rw [h1, guardV_yes, h2]; rfl
      · rw [h1]; rfl
    · exact h
  · split at h
    · rename_i hs
      obtain rfl := sameE_eq hs
      simp only [evE] at h ⊢
      rcases orV_some h with ⟨h1, h2⟩ | ⟨h1, rfl⟩
      · rw [h1, guardV_yes, h2]; rfl
      · rw [h1]; rfl
    · exact h
  · exact h

theorem convert_id {c : Cfg} {s d : Option TI} {x r : AV} {bs : List Box} {i j : Nat} (h : convertA c s d x bs i = some (r, .none)) : convertA c s d x bs j = some (r, .none) := by
  unfold convertA at h ⊢
  repeat' (first | exact h | (split at h <;> try (cases h; done)))
  all_goals first
    | exact h
    | (simp_all; done)

theorem pure_ok {c : Cfg} {cf : CallF} {env : List (Option AV)} {bs : List Box} {ρ : Operand → Option E} {φ : Operand → AV} (hρ : ∀ x e v, ρ x = some e → evE c env bs e = some v → φ x = v) {op : Op} {e : E} {v : AV}
    (h : pureOf c ρ op = some e) (hv : evE c env bs e = some v) (id : Nat) : doOpE c cf op φ bs id = some (v, .none) := by
  unfold pureOf at h
  split at h
  · simp only [doOpE, aopE]; rw [hρ _ _ _ h hv]
  · simp only [doOpE, aopE]; rw [hρ _ _ _ h hv]
  · obtain ⟨a, b, d, h1, h2, h3, rfl⟩ := bind3_some h
    have hv := evE_mkPick hv
    simp only [evE] at hv
    obtain ⟨x, y, z, k1, k2, k3, k4⟩ := ap3_some hv
    simp only [doOpE, aopE]
    rw [hρ _ _ _ h1 k1, hρ _ _ _ h2 k2, hρ _ _ _ h3 k3]; exact out1_some k4
  · split at h
    · cases h
    rename_i hq
    obtain ⟨a, b, h1, h2, rfl⟩ := bind2_some h
    simp only [evE] at hv
    obtain ⟨x, y, k1, k2, k3⟩ := ap2_some hv
    simp only [doOpE, aopE, binN, hq]
    rw [hρ _ _ _ h1 k1, hρ _ _ _ h2 k2, k3]; rfl
  · obtain ⟨a, h1, rfl⟩ := bind1_some h
    simp only [evE] at hv
    obtain ⟨x, k1, k2⟩ := ap1_some hv
    simp only [doOpE, aopE]
    rw [hρ _ _ _ h1 k1, k2]; rfl
  · obtain ⟨a, b, h1, h2, rfl⟩ := bind2_some h
    simp only [evE] at hv
    obtain ⟨x, y, k1, k2, k3⟩ := ap2_some hv
    simp only [doOpE, aopE]
    rw [hρ _ _ _ h1 k1, hρ _ _ _ h2 k2]; exact out1_some k3
  · obtain ⟨a, h1, rfl⟩ := bind1_some h
    simp only [evE] at hv
    obtain ⟨x, k1, k2⟩ := ap1_some hv
    simp only [doOpE, aopE]
    rw [hρ _ _ _ h1 k1]; exact out1_some k2
  · obtain ⟨a, h1, rfl⟩ := bind1_some h
    simp only [evE] at hv
    obtain ⟨x, k1, k2⟩ := ap1_some hv
    simp only [doOpE, aopE]
    rw [hρ _ _ _ h1 k1]; exact out1_some k2
  · -- convert
    simp only [doOpE, aopE]
    split at h
    · rename_i hs hd
      obtain ⟨a, h1, rfl⟩ := bind1_some h
      simp only [evE] at hv
      obtain ⟨x, k1, k2⟩ := ap1_some hv
      rw [hρ _ _ _ h1 k1]
      simp only [Cfg.descOf, Option.map_eq_some_iff] at hs hd
      obtain ⟨i, hi, hi2⟩ := hs
      obtain ⟨j, hj, hj2⟩ := hd
      unfold toInt1 at k2
      split at k2
      · cases k2; simp only [hi, hj, convertA, hj2]
      · cases k2
    · cases h
    · obtain ⟨a, h1, rfl⟩ := bind1_some h
      simp only [evE] at hv
      obtain ⟨x, k1, k2⟩ := ap1_some hv
      rw [hρ _ _ _ h1 k1]; exact convert_id (out1_some k2)
  · obtain ⟨a, h1, rfl⟩ := bind1_some h
    simp only [evE] at hv
    obtain ⟨x, k1, k2⟩ := ap1_some hv
    simp only [doOpE, aopE]
    rw [hρ _ _ _ h1 k1]; exact out1_some k2
  · obtain ⟨a, h1, rfl⟩ := bind1_some h
    simp only [evE] at hv
    obtain ⟨x, k1, k2⟩ := ap1_some hv
    simp only [doOpE, aopE]
    rw [hρ _ _ _ h1 k1]; exact out1_some k2
  · obtain ⟨a, b, h1, h2, rfl⟩ := bind2_some h
    simp only [evE] at hv
    obtain ⟨x, y, k1, k2, k3⟩ := ap2_some hv
    simp only [doOpE, aopE]
    rw [hρ _ _ _ h1 k1, hρ _ _ _ h2 k2]; exact out1_some k3
  · obtain ⟨a, h1, rfl⟩ := bind1_some h
    simp only [evE] at hv
    obtain ⟨x, k1, k2⟩ := ap1_some hv
    simp only [doOpE, aopE]
    rw [hρ _ _ _ h1 k1]; exact out1_some k2
  · -- slice
    have sl : ∀ {x r : AV} {lo hi : Option AV}, sliceS x lo hi = some r → slice2A c .string x lo hi bs = some (r, .none) := by
      intro x r lo hi h
      unfold sliceS at h
      split at h
      · simp only [slice2A]
        split at h
        · rename_i hh; rw [hh]
          simp only
          split at h
          · rename_i hl; rw [hl]; cases h; rfl
          · cases h
        · cases h
      · cases h
    split at h
    · rename_i hd
      simp only [Cfg.descOf, Option.map_eq_some_iff] at hd
      obtain ⟨j, hj, hj2⟩ := hd
      simp only [doOpE, aopE, hj, hj2]
      split at h
      · obtain ⟨a, h1, rfl⟩ := bind1_some h
        simp only [evE] at hv
        obtain ⟨x, k1, k2⟩ := ap1_some hv
        rw [hρ _ _ _ h1 k1]; exact sl k2
      · obtain ⟨a, b, h1, h2, rfl⟩ := bind2_some h
        simp only [evE] at hv
        obtain ⟨x, y, k1, k2, k3⟩ := ap2_some hv
        simp only [Option.map_some, Option.map_none]
        rw [hρ _ _ _ h1 k1, hρ _ _ _ h2 k2]; exact sl k3
      · obtain ⟨a, b, h1, h2, rfl⟩ := bind2_some h
        simp only [evE] at hv
        obtain ⟨x, y, k1, k2, k3⟩ := ap2_some hv
        simp only [Option.map_some, Option.map_none]
        rw [hρ _ _ _ h1 k1, hρ _ _ _ h2 k2]; exact sl k3
      · obtain ⟨a, b, d, h1, h2, h3, rfl⟩ := bind3_some h
        simp only [evE] at hv
        obtain ⟨x, y, z, k1, k2, k3, k4⟩ := ap3_some hv
        simp only [Option.map_some]
        rw [hρ _ _ _ h1 k1, hρ _ _ _ h2 k2, hρ _ _ _ h3 k3]; exact sl k4
    · cases h
  · -- len
    rename_i k
    obtain ⟨callee, args, ts⟩ := k
    simp only at h
    split at h
    · rename_i hts hargs
      simp only [doOpE, aopE]
      rw [hts, hargs]
      simp only [List.map_cons, List.map_nil, builtinA]
      split at h
      · rename_i hd
        simp only [Cfg.descOf, Option.map_eq_some_iff] at hd
        obtain ⟨j, hj, hj2⟩ := hd
        obtain ⟨a, h1, rfl⟩ := bind1_some h
        simp only [evE] at hv
        obtain ⟨x, k1, k2⟩ := ap1_some hv
        rw [hρ _ _ _ h1 k1]
        unfold lenS1 at k2
        split at k2
        · cases k2; simp only [hj, hj2, lenA]
        · cases k2
      · obtain ⟨a, h1, rfl⟩ := bind1_some h
        simp only [evE] at hv
        obtain ⟨x, k1, k2⟩ := ap1_some hv
        rw [hρ _ _ _ h1 k1]
        have := out1_some k2
        unfold lenT at this
        exact this
    · cases h
  · cases h

end Go.Am
