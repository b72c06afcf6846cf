/-
  Folding twice is folding once; bytes that belong to no word, and capital letters, do not matter (texts of at most 300 bytes, as the law says). No condition.
-/
import Derived.Test.YtlolhkjjbgpfbaaGreatDoorRows
import Derived.Test.YtlolhkjjbgpfbaaGreatDoorCards
import Derived.Test.YtlolhkjjbgpfbaaGreatDoorTie
import Derived.Test.YtlolhkjjbgpfbaaGreatDoorFoldsM
import Derived.Test.YtlolhkjjbgpfbaaGreatDoorKnowsM
import Derived.LaidMore
import Derived.Lay
import Derived.SevenTiedAt
import Derived.Stop.Joined
set_option linter.all false
namespace Go.Proofs.YtlolhkjjbgpfbaaGreatDoor
open Go.ChangeShapes Go.WideShapes Go.ChangeAt Go.RowKit Go.Am
theorem own : ownKnob Tryz.checked.prog.godebug = none := by kernel_rfl
theorem laidOut : laidOutB Tryz.prog = true := by kernel_rfl
theorem theTypes : Tryz.f10.params.toList = [9, 5] := by kernel_rfl
theorem theAns {H : Type} (enc : TypeId × Value → H) (W : World) (ds : List (DataW H)) (xs : List AV) (h : Args Tryz.prog enc W Tryz.f10.params.toList ds xs) : ansF cfg 10 xs [] = some (.bool true, []) := by
  rw [theTypes] at h
  exact ansFolds h.shp
set_option maxRecDepth 100000 in
theorem namingFoldsLifted (os : Os) (started : os.Started) (H : Type) (enc : TypeId × Value → H) :
    ReturnsInHanded {} Tryz.checked os 10 .any (fun w args => (Rows.namingFoldsSpec.pre enc Tryz.prog Tryz.f10 Rows.namingFoldsRow.domain false w args ∧ laidMetH Tryz.prog Rows.namingFoldsRow.laid w) ∧ sizedMet enc Tryz.prog Tryz.f10 (OpenSpec.ofChange Rows.namingFoldsSpec) false w args)
      (Rows.namingFoldsSpec.post enc Tryz.prog Tryz.f10 false true false false) := by
  refine returnsShaped (C := Tryz.checked) (X := fun w _ => laidMetH Tryz.prog Rows.namingFoldsRow.laid w) (fun _ _ _ hh h => h.of_heap hh) own started (by kernel_rfl) Tryz.func10
    (ChangeSpec.witness_shaped (enc := enc) (C := Tryz.checked) (os := os) (X := fun w _ => laidMetH Tryz.prog Rows.namingFoldsRow.laid w) false (World.laidAll Tryz.prog os Rows.namingFoldsRow.laid) #[.string ⟨#[]⟩, .int .u8 0] 8 (World.laidAll_os _ _ _)
      (World.shaped_of_ZipB (by kernel_rfl) (by kernel_rfl)) (by kernel_rfl) (by kernel_rfl) (by kernel_rfl)
      (by rw [MakeChecks.laidMetH_plain _ _ _ (by kernel_rfl)]; exact laidMet_laidAll _ (by kernel_rfl) (by kernel_rfl))) ?_
  intro W base args ds gs before hShape hval0 hW hLaid
  obtain ⟨K, hK, hkn⟩ := knows hLaid hShape (by kernel_rfl)
  letI : Kn := K
  have hval : ∀ (j : Nat) t v, Tryz.f10.params[j]? = some t → args[j]? = some v → Value.okWide Tryz.prog W .any base t v := hval0
  have hW' := hW
  obtain ⟨p, q, hA0, hV, rfl, hfz, hnd⟩ := hW
  obtain ⟨rfl, rfl⟩ := trodVars_none hV
  have fine := typesFine_spec (P := Tryz.prog) (ts := Tryz.f10.params.toList) (by kernel_rfl)
  obtain ⟨xs, h1, h2⟩ := args_rd (base := base) laidOut (fun t ht => (fine t ht).2) (fun j t v ht hv => hval j t v (by simpa using ht) (by simpa using hv)) hA0
  have hlt : ∀ x ∈ p, x.block < W.heap.size := fun x hx => hW'.lt x (by simpa using hx)
  refine (calls_bool (cfg_ok hK) (theAns enc W ds xs h1) W hkn args h2).mono fun e W' ⟨he, bel⟩ => ?_
  subst he
  have hB := trodAll_below laidOut bel fine hA0 hlt
  obtain ⟨v0, vs0, d0, ds0, p0, q0, hargs, rfl, rfl, h0x, r0⟩ := trodAll_cons hA0
  obtain ⟨v1, vs1, d1, ds1, p1, q1, rfl, rfl, rfl, h1x, r1⟩ := trodAll_cons r0
  obtain ⟨rfl, rfl, rfl⟩ := trodAll_nil r1
  exact ⟨_, rfl, _, _, _, [], _, [], hW', trodAll_mk1 (shut_bool Tryz.underlying4 _), hB, rfl, bel.frame _, fun h => by cases h⟩
theorem namingFoldsOver : Rows.namingFoldsRow.holds Tryz.pinned (OpenSpec.ofChange Rows.namingFoldsSpec) :=
  OpenClaim.holds_of_wide 10 Tryz.f10 rfl rfl rfl rfl rfl rfl rfl ⟨rfl, rfl, rfl, rfl, rfl⟩ rfl rfl rfl rfl rfl (by kernel_rfl) Tryz.func10 (by kernel_rfl)
    (of_decide_eq_true (by kernel_rfl)) (by unfold Func.isWrapper; first | (rw [if_pos (by decide +kernel)]; kernel_rfl) | (rw [if_neg (by decide +kernel)]; exact ⟨rfl, rfl⟩))
    (fun os started H enc _ => namingFoldsLifted os started H enc)
theorem namingFoldsProved : Rows.NamingFoldsCardSaid :=
  Claim7.holds_tied_plain_at .later [] [.data, .data, .data, .data, .pinned] true (true, "b5969763cd73637f79d20d58711c271fd9a0790c56011b2ee554320f03958a90") false namingFoldsOver (fun _ h => by cases h) (by kernel_rfl) (fun _ h => by cases h) namingFolds_row_tie rfl ⟨rfl, rfl⟩ (by kernel_rfl) rfl
    (fun f fn hf hfn => by
      obtain rfl : f = 10 := Option.some.inj ((show Tryz.prog.funcNamed "archivum/archivumlaw24.NamingFolds" = some 10 by kernel_rfl).symm.trans hf) |>.symm
      obtain rfl : fn = Tryz.f10 := (Option.some.inj (Tryz.func10.symm.trans hfn)).symm
      exact ⟨by kernel_rfl, fun j t ht => by
        have hm : t ∈ Tryz.f10.params.toList := by simpa using Array.mem_of_getElem? ht
        rw [theTypes] at hm
        have hall : (([9, 5] : List TypeId).all fun u => !Tryz.prog.wantsStandIn u) = true := by kernel_rfl
        exact (show Tryz.prog.wantsStandIn t = false by simpa using List.all_eq_true.1 hall t hm)⟩)
    (by kernel_rfl)
end Go.Proofs.YtlolhkjjbgpfbaaGreatDoor
