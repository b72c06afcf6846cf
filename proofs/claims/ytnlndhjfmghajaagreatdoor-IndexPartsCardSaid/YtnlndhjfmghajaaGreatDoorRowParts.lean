/- Parts, Key and Compare return what the definitions specify (at most 200 bytes, as the law says). No condition. -/
import Derived.Test.YtnlndhjfmghajaaGreatDoorCards
import Derived.Test.YtnlndhjfmghajaaGreatDoorTie
import Derived.Test.YtnlndhjfmghajaaGreatDoorLwParM
import Derived.Test.YtnlndhjfmghajaaGreatDoorKnowsM
import Derived.LaidMore
import Derived.Lay
import Derived.Stop.Joined
set_option linter.all false
namespace Go.Proofs.YtnlndhjfmghajaaGreatDoor
open Go.ChangeShapes Go.WideShapes Go.ChangeAt Go.RowKit Go.Am
theorem own:ownKnob Tryz.checked.prog.godebug=none:=by kernel_rfl
theorem laidOut:laidOutB Tryz.prog=true:=by kernel_rfl
theorem theTypes:Tryz.f3.params.toList= [9,9,22]:=by kernel_rfl
theorem theAns {H:Type} (enc:TypeId×Value→H) (W:World) (ds:List (DataW H)) (xs:List AV) (h:Args Tryz.prog enc W Tryz.f3.params.toList ds xs):ansF cfg 3 xs []=some (.bool true, []):=by
 rw [theTypes] at h
 exact ansPartsL h.shp
set_option maxRecDepth 100000 in
theorem indexPartsLifted (os:Os) (started:os.Started) (H:Type) (enc:TypeId×Value→H):
  ReturnsInHanded {} Tryz.checked os 3 .any (fun w args=>(Rows.indexPartsSpec.pre enc Tryz.prog Tryz.f3 Rows.indexPartsRow.domain false w args∧laidMetH Tryz.prog Rows.indexPartsRow.laid w)∧sizedMet enc Tryz.prog Tryz.f3 (OpenSpec.ofChange Rows.indexPartsSpec) false w args)
   (Rows.indexPartsSpec.post enc Tryz.prog Tryz.f3 false true false false):=by
 refine returnsShaped (C:=Tryz.checked) (X:=fun w _=>laidMetH Tryz.prog Rows.indexPartsRow.laid w) (fun _ _ _ hh h=>h.of_heap hh) own started (by kernel_rfl) Tryz.func3
  (ChangeSpec.witness_shaped (enc:=enc) (C:=Tryz.checked) (os:=os) (X:=fun w _=>laidMetH Tryz.prog Rows.indexPartsRow.laid w) false (World.laidAll Tryz.prog os Rows.indexPartsRow.laid) #[.string ⟨#[]⟩,.string ⟨#[]⟩,.agg #[.int .i64 0,.int .i64 0]] 8 (World.laidAll_os _ _ _)
   (World.shaped_of_ZipB (by kernel_rfl) (by kernel_rfl)) (by kernel_rfl) (by kernel_rfl) (by kernel_rfl)
   (by rw [MakeChecks.laidMetH_plain _ _ _ (by kernel_rfl)];exact laidMet_laidAll _ (by kernel_rfl) (by kernel_rfl))) ?_
 intro W base args ds gs before hShape hval0 hW hLaid
 obtain ⟨K,hK,hkn⟩:=knows hLaid hShape
 letI:Kn:=K
 have hval: ∀(j:Nat) t v,Tryz.f3.params[j]?=some t→args[j]?=some v→Value.okWide Tryz.prog W .any base t v:=hval0
 have hW':=hW
 obtain ⟨p,q,hA0,hV,rfl,hfz,hnd⟩:=hW
 obtain ⟨rfl,rfl⟩:=trodVars_none hV
 have fine:=typesFine_spec (P:=Tryz.prog) (ts:=Tryz.f3.params.toList) (by kernel_rfl)
 obtain ⟨xs,h1,h2⟩:=args_rd (base:=base) laidOut (fun t ht=>(fine t ht).2) (fun j t v ht hv=>hval j t v (by simpa using ht) (by simpa using hv)) hA0
 have hlt: ∀x∈p,x.block<W.heap.size:=fun x hx=>hW'.lt x (by simpa using hx)
 refine (calls_bool (cfg_ok hK) (theAns enc W ds xs h1) W hkn args h2).mono fun e W' ⟨he,bel⟩=> ?_
 subst he
 have hB:=trodAll_below laidOut bel fine hA0 hlt
 obtain ⟨v0,vs0,d0,ds0,p0,q0,hargs,rfl,rfl,h0x,r0⟩:=trodAll_cons hA0
 obtain ⟨v1,vs1,d1,ds1,p1,q1,rfl,rfl,rfl,h1x,r1⟩:=trodAll_cons r0
 obtain ⟨v2,vs2,d2,ds2,p2,q2,rfl,rfl,rfl,h2x,r2⟩:=trodAll_cons r1
 obtain ⟨rfl,rfl,rfl⟩:=trodAll_nil r2
 exact ⟨_,rfl,_,_,_, [],_, [],hW',trodAll_mk1 (shut_bool Tryz.underlying4 _),hB,rfl,bel.frame _,fun h=>by cases h⟩
theorem indexPartsClosed:joinedFacts Tryz.pinned.checked.prog 3 Tryz.f3 Rows.indexPartsSpec Rows.indexPartsRow=true:=by kernel_rfl
theorem indexPartsOver:Rows.indexPartsRow.holds Tryz.pinned (OpenSpec.ofChange Rows.indexPartsSpec):=
 OpenClaim.holds_of_wide 3 Tryz.f3 rfl rfl rfl rfl rfl rfl rfl ⟨rfl,rfl,rfl,rfl,rfl⟩ rfl rfl rfl rfl rfl (by kernel_rfl) Tryz.func3 indexPartsClosed
  (of_decide_eq_true (by kernel_rfl)) (by unfold Func.isWrapper;first | (rw [if_pos (by decide+kernel)];kernel_rfl) | (rw [if_neg (by decide+kernel)];exact ⟨rfl,rfl⟩))
  (fun os started H enc _=>indexPartsLifted os started H enc)
theorem indexPartsProved:Rows.IndexPartsCardSaid:=
 Claim7.holds_tied_plain_at .later [] [.data,.data,.data,.data,.sentinel,.sentinel,.pinned] true (true, "86109f79c576892cc3d9c56e4eafa7dd59a2e72d3c1a1b3eecf004c3e45cd174") true indexPartsOver (fun _ h=>by cases h) (by kernel_rfl) (fun _ h=>by cases h) indexParts_row_tie rfl ⟨rfl,rfl⟩ (by kernel_rfl) rfl
  (fun f fn hf hfn=>by
   obtain rfl:f=3:=Option.some.inj ((show Tryz.prog.funcNamed "archivum/archivumlaw48.IndexParts" =some 3 by kernel_rfl).symm.trans hf) |>.symm
   obtain rfl:fn=Tryz.f3:=(Option.some.inj (Tryz.func3.symm.trans hfn)).symm
   exact ⟨by kernel_rfl,fun j t ht=>by
    have hm:t∈Tryz.f3.params.toList:=by simpa using Array.mem_of_getElem? ht
    rw [theTypes] at hm
    have hall:(([9,9,22]:List TypeId).all fun u=> !Tryz.prog.wantsStandIn u)=true:=by kernel_rfl
    exact (show Tryz.prog.wantsStandIn t=false by simpa using List.all_eq_true.1 hall t hm)⟩)
  (by kernel_rfl)
end Go.Proofs.YtnlndhjfmghajaaGreatDoor
