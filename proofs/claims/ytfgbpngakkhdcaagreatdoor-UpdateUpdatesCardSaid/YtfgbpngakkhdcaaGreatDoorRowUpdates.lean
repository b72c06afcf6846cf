/- Check and Update return what the definitions specify (at most 14 sheets and memos, as the law says). No condition. -/
import Derived.Test.YtfgbpngakkhdcaaGreatDoorCards
import Derived.Test.YtfgbpngakkhdcaaGreatDoorTie
import Derived.Test.YtfgbpngakkhdcaaGreatDoorLwUpdM
import Derived.Test.YtfgbpngakkhdcaaGreatDoorKnowsM
import Derived.LaidMore
import Derived.Lay
import Derived.Stop.Joined
open Bool renaming false->A,true->B
set_option linter.all false
namespace Go.Proofs.YtfgbpngakkhdcaaGreatDoor
open Go.Proofs.Tryz
open Go.ChangeShapes Go.WideShapes Go.ChangeAt Go.RowKit Go.Am
theorem own:ownKnob checked.prog.godebug=none:=by kernel_rfl
theorem laidOut:laidOutB prog=true:=by kernel_rfl
theorem theTypes:f4.params.toList= [31,26]:=by kernel_rfl
theorem theAns {H:Type} (enc:TypeId×Value->H) (W:World) (ds:List (DataW H)) (xs:List AV) (h:Em prog enc W f4.params.toList ds xs):ar cfg 4 xs []=some (.bool B, []):=by rw [theTypes] at h;exact IB h.shp
set_option maxRecDepth 100000 in
theorem updateUpdatesLifted (os:Os) (started:os.Started) (H:Type) (enc:TypeId×Value->H):
  ReturnsInHanded {} checked os 4 .any (fun w args=>(Rows.updateUpdatesSpec.pre enc prog f4 Rows.updateUpdatesRow.domain A w args/\laidMetH prog Rows.updateUpdatesRow.laid w)/\sizedMet enc prog f4 (OpenSpec.ofChange Rows.updateUpdatesSpec) A w args)
   (Rows.updateUpdatesSpec.post enc prog f4 A B A A):=by
 refine ri (C:=Tryz.checked) (X:=fun w _=>laidMetH prog Rows.updateUpdatesRow.laid w) (fun _ _ _ hh h=>h.of_heap hh) own started (by kernel_rfl) func4
  (ChangeSpec.witness_shaped (enc:=enc) (C:=Tryz.checked) (os:=os) (X:=fun w _=>laidMetH prog Rows.updateUpdatesRow.laid w) A (World.laidAll prog os Rows.updateUpdatesRow.laid) #[.agg #[.int .i64 0,.string ⟨#[]⟩,.slice none 0 0],.agg #[.slice none 0 0,.slice none 0 0,.slice none 0 0]] 8 (World.laidAll_os _ _ _)
   (World.shaped_of_ZipB (by kernel_rfl) (by kernel_rfl)) (by kernel_rfl) (by kernel_rfl) (by kernel_rfl)
   (by rw [MakeChecks.laidMetH_plain _ _ _ (by kernel_rfl)];exact laidMet_laidAll _ (by kernel_rfl) (by kernel_rfl))) ?_
 intro W base args ds gs before Ā ā hW Ă;obtain ⟨K,hK,Ĉ⟩:=Ti Ă Ā;letI:Kn:=K;have hval: ∀(j:Nat) t v,f4.params[j]?=some t->args[j]?=some v->Value.okWide prog W .any base t v:=ā;have Ć:=hW;obtain ⟨p,q,Ą,hV,rfl,hfz,hnd⟩:=hW;obtain ⟨rfl,rfl⟩:=trodVars_none hV;have ă:=o9 (P:=Tryz.prog) (ts:=f4.params.toList) (by kernel_rfl);obtain ⟨xs,h1,h2⟩:=CO (base:=base) laidOut (fun t ht=>(ă t ht).2) (fun j t v ht hv=>hval j t v (by simpa using ht) (by simpa using hv)) Ą;have hlt: ∀x∈p,x.block<W.heap.size:=fun x hx=>Ć.lt x (by simpa using hx);refine (yV (Oj hK) (theAns enc W ds xs h1) W Ĉ args h2).mono fun e W' ⟨he,ć⟩=> ?_;subst he;have hB:=lY laidOut ć ă Ą hlt;obtain ⟨v0,vs0,d0,ds0,p0,q0,hargs,rfl,rfl,h0x,r0⟩:=trodAll_cons Ą;obtain ⟨v1,vs1,d1,ds1,p1,q1,rfl,rfl,rfl,h1x,r1⟩:=trodAll_cons r0;obtain ⟨rfl,rfl,rfl⟩:=trodAll_nil r1;exact ⟨_,rfl,_,_,_, [],_, [],Ć,trodAll_mk1 (shut_bool underlying4 _),hB,rfl,ć.frame _,fun h=>by cases h⟩
theorem updateUpdatesClosed:joinedFacts Tryz.pinned.checked.prog 4 f4 Rows.updateUpdatesSpec Rows.updateUpdatesRow=true:=by kernel_rfl
theorem updateUpdatesOver:Rows.updateUpdatesRow.holds Tryz.pinned (OpenSpec.ofChange Rows.updateUpdatesSpec):=
 OpenClaim.holds_of_wide 4 f4 rfl rfl rfl rfl rfl rfl rfl ⟨rfl,rfl,rfl,rfl,rfl⟩ rfl rfl rfl rfl rfl (by kernel_rfl) func4 updateUpdatesClosed
  (of_decide_eq_true (by kernel_rfl)) (by unfold Func.isWrapper;first | (rw [if_pos (by decide+kernel)];kernel_rfl) | (rw [if_neg (by decide+kernel)];exact ⟨rfl,rfl⟩))
  (fun os started H enc _=>updateUpdatesLifted os started H enc)
theorem updateUpdatesProved:Rows.UpdateUpdatesCardSaid:=
 Claim7.holds_tied_plain_at .later [] [.data,.data,.data,.data,.sentinel,.sentinel,.listed,.data,.pinned] B (B, "bc864bd0a8c2b8f6b20ac4e8beef91f8c59047e52b4a66b6b78ef8cb33364912") B updateUpdatesOver (fun _ h=>by cases h) (by kernel_rfl) (fun _ h=>by cases h) updateUpdates_row_tie rfl ⟨rfl,rfl⟩ (by kernel_rfl) rfl
  (fun f fn hf ĉ=>by
   obtain rfl:f=4:=Option.some.inj ((show prog.funcNamed "archivum/archivumlaw52.UpdateUpdates" =some 4 by kernel_rfl).symm.trans hf) |>.symm;obtain rfl:fn=f4:=(Option.some.inj (func4.symm.trans ĉ)).symm
   exact ⟨by kernel_rfl,fun j t ht=>by
    have hm:t∈f4.params.toList:=by simpa using Array.mem_of_getElem? ht
    rw [theTypes] at hm;have ą:(([31,26]:List TypeId).all fun u=> !Tryz.prog.wantsStandIn u)=true:=by kernel_rfl
    exact (show prog.wantsStandIn t=A by simpa using List.all_eq_true.1 ą t hm)⟩)
  (by kernel_rfl)
