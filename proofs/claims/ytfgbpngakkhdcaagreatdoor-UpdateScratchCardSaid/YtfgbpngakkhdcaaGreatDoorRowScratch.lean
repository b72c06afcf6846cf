/- What was updated for one catalog after the other is the finding aid that is compiled from the beginning; catalogs without this unit or language change nothing (at most 5 catalogs with 14 sheets, as the law says). No condition. -/
import Derived.Test.YtfgbpngakkhdcaaGreatDoorCards
import Derived.Test.YtfgbpngakkhdcaaGreatDoorTie
import Derived.Test.YtfgbpngakkhdcaaGreatDoorLwScrM
import Derived.Test.YtfgbpngakkhdcaaGreatDoorKnowsM
import Derived.LaidMore
import Derived.Lay
import Derived.Stop.Joined
set_option linter.all false
namespace Go.Proofs.YtfgbpngakkhdcaaGreatDoor
open Go.ChangeShapes Go.WideShapes Go.ChangeAt Go.RowKit Go.Am
theorem own:ownKnob Tryz.checked.prog.godebug=none:=by kernel_rfl
theorem laidOut:laidOutB Tryz.prog=true:=by kernel_rfl
theorem theTypes:Tryz.f5.params.toList= [46,3,9]:=by kernel_rfl
theorem theAns {H:Type} (enc:TypeId×Value->H) (W:World) (ds:List (DataW H)) (xs:List AV) (h:yh Tryz.prog enc W Tryz.f5.params.toList ds xs):aq cfg 5 xs []=some (.bool true, []):=by rw [theTypes] at h;exact Gq h.Vx
set_option maxRecDepth 100000 in
theorem updateScratchLifted (os:Os) (started:os.Started) (H:Type) (enc:TypeId×Value->H):
  ReturnsInHanded {} Tryz.checked os 5 .any (fun w args=>(Rows.updateScratchSpec.pre enc Tryz.prog Tryz.f5 Rows.updateScratchRow.domain false w args∧laidMetH Tryz.prog Rows.updateScratchRow.laid w)∧sizedMet enc Tryz.prog Tryz.f5 (OpenSpec.ofChange Rows.updateScratchSpec) false w args)
   (Rows.updateScratchSpec.post enc Tryz.prog Tryz.f5 false true false false):=by
 refine iz (C:=Tryz.checked) (X:=fun w _=>laidMetH Tryz.prog Rows.updateScratchRow.laid w) (fun _ _ _ hh h=>h.of_heap hh) own started (by kernel_rfl) Tryz.func5
  (ChangeSpec.witness_shaped (enc:=enc) (C:=Tryz.checked) (os:=os) (X:=fun w _=>laidMetH Tryz.prog Rows.updateScratchRow.laid w) false (World.laidAll Tryz.prog os Rows.updateScratchRow.laid) #[.slice none 0 0,.int .i64 0,.string ⟨#[]⟩] 8 (World.laidAll_os _ _ _)
   (World.shaped_of_ZipB (by kernel_rfl) (by kernel_rfl)) (by kernel_rfl) (by kernel_rfl) (by kernel_rfl)
   (by rw [MakeChecks.laidMetH_plain _ _ _ (by kernel_rfl)];exact laidMet_laidAll _ (by kernel_rfl) (by kernel_rfl))) ?_
 intro W base args ds gs before hShape hval0 hW hLaid;obtain ⟨K,hK,hkn⟩:=Hz hLaid hShape;letI:Kn:=K;have hval: ∀(j:Nat) t v,Tryz.f5.params[j]?=some t->args[j]?=some v->Value.okWide Tryz.prog W .any base t v:=hval0;have hW':=hW;obtain ⟨p,q,hA0,hV,rfl,hfz,hnd⟩:=hW;obtain ⟨rfl,rfl⟩:=trodVars_none hV;have fine:=gG (P:=Tryz.prog) (ts:=Tryz.f5.params.toList) (by kernel_rfl);obtain ⟨xs,h1,h2⟩:=rL (base:=base) laidOut (fun t ht=>(fine t ht).2) (fun j t v ht hv=>hval j t v (by simpa using ht) (by simpa using hv)) hA0;have hlt: ∀x∈p,x.block<W.heap.size:=fun x hx=>hW'.lt x (by simpa using hx);refine (mW (Bv hK) (theAns enc W ds xs h1) W hkn args h2).mono fun e W' ⟨he,bel⟩=> ?_;subst he;have hB:=fM laidOut bel fine hA0 hlt;obtain ⟨v0,vs0,d0,ds0,p0,q0,hargs,rfl,rfl,h0x,r0⟩:=trodAll_cons hA0;obtain ⟨v1,vs1,d1,ds1,p1,q1,rfl,rfl,rfl,h1x,r1⟩:=trodAll_cons r0;obtain ⟨v2,vs2,d2,ds2,p2,q2,rfl,rfl,rfl,h2x,r2⟩:=trodAll_cons r1;obtain ⟨rfl,rfl,rfl⟩:=trodAll_nil r2;exact ⟨_,rfl,_,_,_, [],_, [],hW',trodAll_mk1 (shut_bool Tryz.underlying4 _),hB,rfl,bel.frame _,fun h=>by cases h⟩
theorem updateScratchClosed:joinedFacts Tryz.pinned.checked.prog 5 Tryz.f5 Rows.updateScratchSpec Rows.updateScratchRow=true:=by kernel_rfl
theorem updateScratchOver:Rows.updateScratchRow.holds Tryz.pinned (OpenSpec.ofChange Rows.updateScratchSpec):=
 OpenClaim.holds_of_wide 5 Tryz.f5 rfl rfl rfl rfl rfl rfl rfl ⟨rfl,rfl,rfl,rfl,rfl⟩ rfl rfl rfl rfl rfl (by kernel_rfl) Tryz.func5 updateScratchClosed
  (of_decide_eq_true (by kernel_rfl)) (by unfold Func.isWrapper;first | (rw [if_pos (by decide+kernel)];kernel_rfl) | (rw [if_neg (by decide+kernel)];exact ⟨rfl,rfl⟩))
  (fun os started H enc _=>updateScratchLifted os started H enc)
theorem updateScratchProved:Rows.UpdateScratchCardSaid:=
 Claim7.holds_tied_plain_at .later [] [.data,.data,.data,.data,.sentinel,.sentinel,.listed,.data,.pinned] true (true, "bc864bd0a8c2b8f6b20ac4e8beef91f8c59047e52b4a66b6b78ef8cb33364912") true updateScratchOver (fun _ h=>by cases h) (by kernel_rfl) (fun _ h=>by cases h) updateScratch_row_tie rfl ⟨rfl,rfl⟩ (by kernel_rfl) rfl
  (fun f fn hf hfn=>by
   obtain rfl:f=5:=Option.some.inj ((show Tryz.prog.funcNamed "archivum/archivumlaw52.UpdateScratch" =some 5 by kernel_rfl).symm.trans hf) |>.symm;obtain rfl:fn=Tryz.f5:=(Option.some.inj (Tryz.func5.symm.trans hfn)).symm
   exact ⟨by kernel_rfl,fun j t ht=>by
    have hm:t∈Tryz.f5.params.toList:=by simpa using Array.mem_of_getElem? ht
    rw [theTypes] at hm;have hall:(([46,3,9]:List TypeId).all fun u=> !Tryz.prog.wantsStandIn u)=true:=by kernel_rfl
    exact (show Tryz.prog.wantsStandIn t=false by simpa using List.all_eq_true.1 hall t hm)⟩)
  (by kernel_rfl)
end Go.Proofs.YtfgbpngakkhdcaaGreatDoor
