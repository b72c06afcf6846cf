/-
 Section of package depend returns the section from any reads, or the specified error, as the reference does (at most 30 reads with values of 1000 bytes, as the law says). No condition.
-/
import Derived.Test.YtfnkchadeaedlaaGreatDoorRows
import Derived.Test.YtfnkchadeaedlaaGreatDoorCards
import Derived.Test.YtfnkchadeaedlaaGreatDoorTie
import Derived.Test.YtfnkchadeaedlaaGreatDoorLwSecM
import Derived.Test.YtfnkchadeaedlaaGreatDoorKnowsM
import Derived.LaidMore
import Derived.Lay
import Derived.SevenTiedAt
import Derived.Stop.Joined
set_option linter.all false
namespace Go.Proofs.YtfnkchadeaedlaaGreatDoor
open Go.ChangeShapes Go.WideShapes Go.ChangeAt Go.RowKit Go.Am
theorem own:ownKnob Tryz.checked.prog.godebug=none:=by kernel_rfl
theorem laidOut:laidOutB Tryz.prog=true:=by kernel_rfl
theorem Br:Tryz.f8.params.toList= [3,31]:=by kernel_rfl
theorem Nv {H:Type} (enc:TypeId×Value→H) (W:World) (ds:List (DataW H)) (xs:List AV) (h:B5 Tryz.prog enc W Tryz.f8.params.toList ds xs):aq cfg 8 xs []=some (.bool true, []):=by rw [Br] at h;exact Bl h.Um
set_option maxRecDepth 100000 in
theorem dependSectionsLifted (os:Os) (started:os.Started) (H:Type) (enc:TypeId×Value→H):
  ReturnsInHanded {} Tryz.checked os 8 .any (fun w args=>(Rows.dependSectionsSpec.pre enc Tryz.prog Tryz.f8 Rows.dependSectionsRow.domain false w args∧laidMetH Tryz.prog Rows.dependSectionsRow.laid w)∧sizedMet enc Tryz.prog Tryz.f8 (OpenSpec.ofChange Rows.dependSectionsSpec) false w args)
   (Rows.dependSectionsSpec.post enc Tryz.prog Tryz.f8 false true false false):=by
 refine vM (C:=Tryz.checked) (X:=fun w _=>laidMetH Tryz.prog Rows.dependSectionsRow.laid w) (fun _ _ _ hh h=>h.of_heap hh) own started (by kernel_rfl) Tryz.func8
  (ChangeSpec.witness_shaped (enc:=enc) (C:=Tryz.checked) (os:=os) (X:=fun w _=>laidMetH Tryz.prog Rows.dependSectionsRow.laid w) false (World.laidAll Tryz.prog os Rows.dependSectionsRow.laid) #[.int .i64 0,.slice none 0 0] 8 (World.laidAll_os _ _ _)
   (World.shaped_of_ZipB (by kernel_rfl) (by kernel_rfl)) (by kernel_rfl) (by kernel_rfl) (by kernel_rfl)
   (by rw [MakeChecks.laidMetH_plain _ _ _ (by kernel_rfl)];exact laidMet_laidAll _ (by kernel_rfl) (by kernel_rfl))) ?_
 intro W base args ds gs before hShape hval0 hW hLaid;obtain ⟨K,hK,hkn⟩:=Rx hLaid hShape;letI:Kn:=K;have hval: ∀(j:Nat) t v,Tryz.f8.params[j]?=some t→args[j]?=some v→Value.okWide Tryz.prog W .any base t v:=hval0;have hW':=hW;obtain ⟨p,q,hA0,hV,rfl,hfz,hnd⟩:=hW;obtain ⟨rfl,rfl⟩:=trodVars_none hV;have fine:=tQ (P:=Tryz.prog) (ts:=Tryz.f8.params.toList) (by kernel_rfl);obtain ⟨xs,h1,h2⟩:=Du (base:=base) laidOut (fun t ht=>(fine t ht).2) (fun j t v ht hv=>hval j t v (by simpa using ht) (by simpa using hv)) hA0;have hlt: ∀x∈p,x.block<W.heap.size:=fun x hx=>hW'.lt x (by simpa using hx);refine (CE (Nw hK) (Nv enc W ds xs h1) W hkn args h2).mono fun e W' ⟨he,bel⟩=> ?_;subst he;have hB:=nF laidOut bel fine hA0 hlt;obtain ⟨v0,vs0,d0,ds0,p0,q0,hargs,rfl,rfl,h0x,r0⟩:=trodAll_cons hA0;obtain ⟨v1,vs1,d1,ds1,p1,q1,rfl,rfl,rfl,h1x,r1⟩:=trodAll_cons r0;obtain ⟨rfl,rfl,rfl⟩:=trodAll_nil r1;exact ⟨_,rfl,_,_,_, [],_, [],hW',trodAll_mk1 (shut_bool Tryz.underlying4 _),hB,rfl,bel.frame _,fun h=>by cases h⟩
theorem dependSectionsOver:Rows.dependSectionsRow.holds Tryz.pinned (OpenSpec.ofChange Rows.dependSectionsSpec):=
 OpenClaim.holds_of_wide 8 Tryz.f8 rfl rfl rfl rfl rfl rfl rfl ⟨rfl,rfl,rfl,rfl,rfl⟩ rfl rfl rfl rfl rfl (by kernel_rfl) Tryz.func8 (by kernel_rfl)
  (of_decide_eq_true (by kernel_rfl)) (by unfold Func.isWrapper;first | (rw [if_pos (by decide+kernel)];kernel_rfl) | (rw [if_neg (by decide+kernel)];exact ⟨rfl,rfl⟩))
  (fun os started H enc _=>dependSectionsLifted os started H enc)
theorem dependSectionsProved:Rows.DependSectionsCardSaid:=
 Claim7.holds_tied_plain_at .later [] [.data,.data,.data,.data,.sentinel,.sentinel,.listed,.data,.pinned] true (true, "cb77caa43029141e3a9fbc37316bbe426664f4f9db7c666c9e2e9013af1b4ade") true dependSectionsOver (fun _ h=>by cases h) (by kernel_rfl) (fun _ h=>by cases h) dependSections_row_tie rfl ⟨rfl,rfl⟩ (by kernel_rfl) rfl
  (fun f fn hf hfn=>by
   obtain rfl:f=8:=Option.some.inj ((show Tryz.prog.funcNamed "archivum/archivumlaw51.DependSections" =some 8 by kernel_rfl).symm.trans hf) |>.symm;obtain rfl:fn=Tryz.f8:=(Option.some.inj (Tryz.func8.symm.trans hfn)).symm
   exact ⟨by kernel_rfl,fun j t ht=>by
    have hm:t∈Tryz.f8.params.toList:=by simpa using Array.mem_of_getElem? ht
    rw [Br] at hm;have hall:(([3,31]:List TypeId).all fun u=> !Tryz.prog.wantsStandIn u)=true:=by kernel_rfl
    exact (show Tryz.prog.wantsStandIn t=false by simpa using List.all_eq_true.1 hall t hm)⟩)
  (by kernel_rfl)
end Go.Proofs.YtfnkchadeaedlaaGreatDoor
