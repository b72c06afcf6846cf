/-
  Parse restores a document from its text unless this is too long. No condition.
-/
import Derived.Test.YtibakcohkdfnoaaDoorRows
import Derived.Test.YtibakcohkdfnoaaDoorCards
import Derived.Test.YtibakcohkdfnoaaDoorTie
import Derived.Test.YtibakcohkdfnoaaDoorLawsM
import Derived.LaidMore
import Derived.Lay
import Derived.SevenTiedAt
import Derived.Stop.Joined
namespace Go.Proofs.YtibakcohkdfnoaaDoor
open Go.ChangeShapes Go.WideShapes Go.ChangeAt Go.RowKit Go.Am

theorem own : ownKnob Tryd.checked.prog.godebug = none := by kernel_rfl
theorem laidOut : laidOutB Tryd.prog = true := by kernel_rfl
theorem theTypes : Tryd.f10.params.toList = [23] := by kernel_rfl
theorem theAns {H : Type} (enc : TypeId × Value → H) (W : World) (ds : List (DataW H)) (xs : List AV) (h : Args Tryd.prog enc W Tryd.f10.params.toList ds xs) : ansF cfg 10 xs [] = some (.bool true, []) := by
  rw [theTypes] at h
  exact ansReturns h.shp

set_option maxRecDepth 100000 in
theorem markupReturnsLifted (os : Os) (started : os.Started) (H : Type) (enc : TypeId × Value → H) :
    ReturnsInHanded {} Tryd.checked os 10 .any (fun w args => (Rows.markupReturnsSpec.pre enc Tryd.prog Tryd.f10 Rows.markupReturnsRow.domain false w args ∧ laidMetH Tryd.prog Rows.markupReturnsRow.laid w) ∧ sizedMet enc Tryd.prog Tryd.f10 (OpenSpec.ofChange Rows.markupReturnsSpec) false w args)
      (Rows.markupReturnsSpec.post enc Tryd.prog Tryd.f10 false true false false) := by
  refine returnsInHanded_of_change_and (C := Tryd.checked) (X := fun w _ => laidMetH Tryd.prog Rows.markupReturnsRow.laid w) (fun _ _ _ hh h => h.of_heap hh) own started (by kernel_rfl) Tryd.func10
    (ChangeSpec.witness_shaped (enc := enc) (C := Tryd.checked) (os := os) (X := fun w _ => laidMetH Tryd.prog Rows.markupReturnsRow.laid w) false (World.laidAll Tryd.prog os Rows.markupReturnsRow.laid) #[.slice none 0 0] 8 (World.laidAll_os _ _ _)
      (World.shaped_of_ZipB (by kernel_rfl) (by kernel_rfl)) (by kernel_rfl) (by kernel_rfl) (by kernel_rfl)
      (by rw [MakeChecks.laidMetH_plain _ _ _ (by kernel_rfl)]; exact laidMet_laidAll _ (by kernel_rfl) (by kernel_rfl))) ?_
  intro W base args ds gs before hval0 hW hcnd _ _ _
  have hval : ∀ (j : Nat) t v, Tryd.f10.params[j]? = some t → args[j]? = some v → Value.okWide Tryd.prog W .any base t v := hval0
  have hW' := hW
  obtain ⟨p, q, hA0, hV, rfl, hfz, hnd⟩ := hW
  obtain ⟨rfl, rfl⟩ := trodVars_none hV
  have fine := typesFine_spec (P := Tryd.prog) (ts := Tryd.f10.params.toList) (by kernel_rfl)
  obtain ⟨xs, h1, h2⟩ := args_rd (base := base) laidOut (fun t ht => (fine t ht).2) (fun j t v ht hv => hval j t v (by simpa using ht) (by simpa using hv)) hA0
  have hlt : ∀ x ∈ p, x.block < W.heap.size := fun x hx => hW'.lt x (by simpa using hx)
  refine (calls_bool cfg_ok (theAns enc W ds xs h1) W args h2).mono fun e W' ⟨he, bel⟩ => ?_
  subst he
  have hB := trodAll_below laidOut bel fine hA0 hlt
  obtain ⟨v0, vs0, d0, ds0, p0, q0, hargs, rfl, rfl, h0x, r0⟩ := trodAll_cons hA0
  obtain ⟨rfl, rfl, rfl⟩ := trodAll_nil r0
  exact ⟨_, rfl, _, _, _, [], _, [], hW', trodAll_mk1 (shut_bool Tryd.underlying4 _), hB, rfl, bel.frame _, fun h => by cases h⟩

theorem markupReturnsOver : Rows.markupReturnsRow.holds Tryd.pinned (OpenSpec.ofChange Rows.markupReturnsSpec) :=
  OpenClaim.holds_of_wide 10 Tryd.f10 rfl rfl rfl rfl rfl rfl rfl ⟨rfl, rfl, rfl, rfl, rfl⟩ rfl rfl rfl rfl rfl (by kernel_rfl) Tryd.func10 (by kernel_rfl)
    (of_decide_eq_true (by kernel_rfl)) (by unfold Func.isWrapper; first | (rw [if_pos (by decide +kernel)]; kernel_rfl) | (rw [if_neg (by decide +kernel)]; exact ⟨rfl, rfl⟩))
    (fun os started H enc _ => markupReturnsLifted os started H enc)

/-- THE STATEMENT -/
theorem markupReturnsProved : Rows.MarkupReturnsCardSaid :=
  Claim7.holds_tied_plain_at .later [] [.data, .pinned] true (true, "6ec8d6d732ca7582cdc1e3be9e8f6012886dd27fd7e0db3343a454aaafc0e293") false markupReturnsOver (fun _ h => by cases h) (by kernel_rfl) (fun _ h => by cases h) markupReturns_row_tie rfl ⟨rfl, rfl⟩ (by kernel_rfl) rfl
    (fun f fn hf hfn => by
      obtain rfl : f = 10 := Option.some.inj ((show Tryd.prog.funcNamed "archivum/archivumlaw46.MarkupReturns" = some 10 by kernel_rfl).symm.trans hf) |>.symm
      obtain rfl : fn = Tryd.f10 := (Option.some.inj (Tryd.func10.symm.trans hfn)).symm
      exact ⟨by kernel_rfl, fun j t ht => by
        have hm : t ∈ Tryd.f10.params.toList := by simpa using Array.mem_of_getElem? ht
        rw [theTypes] at hm
        have hall : (([23] : List TypeId).all fun u => !Tryd.prog.wantsStandIn u) = true := by kernel_rfl
        exact (show Tryd.prog.wantsStandIn t = false by simpa using List.all_eq_true.1 hall t hm)⟩)
    (by kernel_rfl)
end Go.Proofs.YtibakcohkdfnoaaDoor
