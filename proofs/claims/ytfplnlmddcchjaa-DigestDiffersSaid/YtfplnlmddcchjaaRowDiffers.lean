/-
  Keccak's permutation takes different states to different ones, and equal ones to equal ones, for every two states. No condition.
-/
import Derived.Test.YtfplnlmddcchjaaRows
import Derived.Test.YtfplnlmddcchjaaDiffers
namespace Go.Proofs.Ytfplnlmddcchjaa
open Go.ChangeShapes Go.WideShapes Go.ChangeAt Go.RowKit Go.Am

theorem own : ownKnob Try.checked.prog.godebug = none := by kernel_rfl
theorem laidOut : laidOutB Try.prog = true := by kernel_rfl
theorem theAns {H : Type} (enc : TypeId × Value → H) (W : World) (ds : List (DataW H)) (xs : List AV) (h : Args Try.prog enc W Try.f6.params.toList ds xs) : ansF cfg 6 xs [] = some (.bool true, []) := by
  have hp : Try.f6.params.toList = [23, 23] := by kernel_rfl
  rw [hp] at h
  exact ansDiffers h.shp

set_option maxRecDepth 100000 in
theorem digestDiffersLifted (os : Os) (started : os.Started) (H : Type) (enc : TypeId × Value → H) :
    ReturnsInHanded {} Try.checked os 6 .any (Rows.digestDiffersSpec.pre6 enc Try.prog Try.f6 Rows.digestDiffersRow.domain false) (Rows.digestDiffersSpec.post enc Try.prog Try.f6 false true false false) := by
  refine returnsInHanded_of_change (C := Try.checked) own started (by kernel_rfl) Try.func6
    (ChangeSpec.witness6 (enc := enc) (C := Try.checked) false ⟨#[], #[.agg #[.int .u64 0, .int .u64 0, .int .u64 0, .int .u64 0, .int .u64 0, .int .u64 0, .int .u64 0, .int .u64 0, .int .u64 0, .int .u64 0, .int .u64 0, .int .u64 0, .int .u64 0, .int .u64 0, .int .u64 0, .int .u64 0, .int .u64 0, .int .u64 0, .int .u64 0, .int .u64 0, .int .u64 0, .int .u64 0, .int .u64 0, .int .u64 0, .int .u64 0], .agg #[.int .u64 0, .int .u64 0, .int .u64 0, .int .u64 0, .int .u64 0, .int .u64 0, .int .u64 0, .int .u64 0, .int .u64 0, .int .u64 0, .int .u64 0, .int .u64 0, .int .u64 0, .int .u64 0, .int .u64 0, .int .u64 0, .int .u64 0, .int .u64 0, .int .u64 0, .int .u64 0, .int .u64 0, .int .u64 0, .int .u64 0, .int .u64 0, .int .u64 0]], []⟩ 8 (by kernel_rfl) (by kernel_rfl) (by kernel_rfl) (by kernel_rfl)) ?_
  intro W base args ds gs before hval0 hW hcnd _
  have hval : ∀ (j : Nat) t v, Try.f6.params[j]? = some t → args[j]? = some v → Value.okWide Try.prog W .any base t v := hval0
  have hW' := hW
  obtain ⟨p, q, hA0, hV, rfl, hfz, hnd⟩ := hW
  obtain ⟨rfl, rfl⟩ := trodVars_none hV
  have fine := typesFine_spec (P := Try.prog) (ts := Try.f6.params.toList) (by kernel_rfl)
  obtain ⟨xs, h1, h2⟩ := args_rd (base := base) laidOut (fun t ht => (fine t ht).2) (fun j t v ht hv => hval j t v (by simpa using ht) (by simpa using hv)) hA0
  have hlt : ∀ x ∈ p, x.block < W.heap.size := fun x hx => hW'.lt x (by simpa using hx)
  refine (calls_bool cfg_ok (theAns enc W ds xs h1) W args h2).mono fun e W' ⟨he, bel⟩ => ?_
  subst he
  have hB := trodAll_below laidOut bel fine hA0 hlt
  obtain ⟨v0, vs0, d0, ds0, p0, q0, hargs, rfl, rfl, h0, r0⟩ := trodAll_cons hA0
  obtain ⟨v1, vs1, d1, ds1, p1, q1, rfl, rfl, rfl, h1, r1⟩ := trodAll_cons r0
  obtain ⟨rfl, rfl, rfl⟩ := trodAll_nil r1
  exact ⟨_, rfl, _, _, _, [], _, [], hW', trodAll_mk1 (shut_bool Try.underlying4 _), hB, rfl, bel.frame _, fun h => by cases h⟩

theorem digestDiffersOver : Rows.digestDiffersRow.holds Try.pinned (OpenSpec.ofChange Rows.digestDiffersSpec) :=
  OpenClaim.holds_of_wide 6 Try.f6 rfl rfl rfl rfl rfl rfl rfl ⟨rfl, rfl, rfl, rfl, rfl⟩ rfl rfl rfl rfl rfl (by kernel_rfl) Try.func6 (by kernel_rfl)
    (of_decide_eq_true (by kernel_rfl)) (by unfold Func.isWrapper; first | (rw [if_pos (by decide +kernel)]; kernel_rfl) | (rw [if_neg (by decide +kernel)]; exact ⟨rfl, rfl⟩))
    (fun os started H enc _ => digestDiffersLifted os started H enc)

/-- THE STATEMENT -/
theorem digestDiffersProved : Rows.DigestDiffersSaid := digestDiffersOver
end Go.Proofs.Ytfplnlmddcchjaa
