/-
 Value of package depend returns the value of any cell, and Reads the reads of a section or the specified error, as the reference does (at most 14 sheets and 20 labels, as the law says). No condition.
-/
import Derived.Test.YtfnkchadeaedlaaGreatDoorRows
import Derived.Test.YtfnkchadeaedlaaGreatDoorCards
import Derived.Test.YtfnkchadeaedlaaGreatDoorTie
import Derived.Test.YtfnkchadeaedlaaGreatDoorLwValM
import Derived.Test.YtfnkchadeaedlaaGreatDoorKnowsM
import Derived.LaidMore
import Derived.Lay
import Derived.SevenTiedAt
import Derived.Stop.Joined
set_option linter.all false
namespace Go.Proofs.YtfnkchadeaedlaaGreatDoor
open Go.ChangeShapes Go.WideShapes Go.ChangeAt Go.RowKit Go.Am
theorem own:ownKnob Tryz.checked.prog.godebug=none:=by kernel_rfl
theorem laidOut:laidOutB Tryz.prog=true:=by kernel_rfl
theorem Cw:Tryz.f3.params.toList= [26,3,3,9,28]:=by kernel_rfl
theorem PT {H:Type} (enc:TypeId×Value→H) (W:World) (ds:List (DataW H)) (xs:List AV) (h:Dg Tryz.prog enc W Tryz.f3.params.toList ds xs):ar cfg 3 xs []=some (.bool true, []):=by rw [Cw] at h;exact G1 h.Xg
set_option maxRecDepth 100000 in
theorem pI (os:Os) (started:os.Started) (H:Type) (enc:TypeId×Value→H):
  ReturnsInHanded {} Tryz.checked os 3 .any (fun w args=>(Rows.dependValuesSpec.pre enc Tryz.prog Tryz.f3 Rows.dependValuesRow.domain false w args∧laidMetH Tryz.prog Rows.dependValuesRow.laid w)∧sizedMet enc Tryz.prog Tryz.f3 (OpenSpec.ofChange Rows.dependValuesSpec) false w args)
   (Rows.dependValuesSpec.post enc Tryz.prog Tryz.f3 false true false false):=by
 refine wS (C:=Tryz.checked) (X:=fun w _=>laidMetH Tryz.prog Rows.dependValuesRow.laid w) (fun _ _ _ hh h=>h.of_heap hh) own started (by kernel_rfl) Tryz.func3
  (ChangeSpec.witness_shaped (enc:=enc) (C:=Tryz.checked) (os:=os) (X:=fun w _=>laidMetH Tryz.prog Rows.dependValuesRow.laid w) false (World.laidAll Tryz.prog os Rows.dependValuesRow.laid) #[.agg #[.slice none 0 0,.slice none 0 0,.slice none 0 0],.int .i64 0,.int .i64 0,.string ⟨#[]⟩,.agg #[.int .i64 0,.int .i64 0]] 8 (World.laidAll_os _ _ _)
   (World.shaped_of_ZipB (by kernel_rfl) (by kernel_rfl)) (by kernel_rfl) (by kernel_rfl) (by kernel_rfl)
   (by rw [MakeChecks.laidMetH_plain _ _ _ (by kernel_rfl)];exact laidMet_laidAll _ (by kernel_rfl) (by kernel_rfl))) ?_
 intro W base args ds gs before hShape hval0 hW hLaid;obtain ⟨K,hK,hkn⟩:=TM hLaid hShape;letI:Kn:=K;have hval: ∀(j:Nat) t v,Tryz.f3.params[j]?=some t→args[j]?=some v→Value.okWide Tryz.prog W .any base t v:=hval0;have hW':=hW;obtain ⟨p,q,hA0,hV,rfl,hfz,hnd⟩:=hW;obtain ⟨rfl,rfl⟩:=trodVars_none hV;have fine:=uV (P:=Tryz.prog) (ts:=Tryz.f3.params.toList) (by kernel_rfl);obtain ⟨xs,h1,h2⟩:=ER (base:=base) laidOut (fun t ht=>(fine t ht).2) (fun j t v ht hv=>hval j t v (by simpa using ht) (by simpa using hv)) hA0;have hlt: ∀x∈p,x.block<W.heap.size:=fun x hx=>hW'.lt x (by simpa using hx);refine (DR (PU hK) (PT enc W ds xs h1) W hkn args h2).mono fun e W' ⟨he,bel⟩=> ?_;subst he;have hB:=oz laidOut bel fine hA0 hlt;obtain ⟨v0,vs0,d0,ds0,p0,q0,hargs,rfl,rfl,h0x,r0⟩:=trodAll_cons hA0;obtain ⟨v1,vs1,d1,ds1,p1,q1,rfl,rfl,rfl,h1x,r1⟩:=trodAll_cons r0;obtain ⟨v2,vs2,d2,ds2,p2,q2,rfl,rfl,rfl,h2x,r2⟩:=trodAll_cons r1;obtain ⟨v3,vs3,d3,ds3,p3,q3,rfl,rfl,rfl,h3x,r3⟩:=trodAll_cons r2;obtain ⟨v4,vs4,d4,ds4,p4,q4,rfl,rfl,rfl,h4x,r4⟩:=trodAll_cons r3;obtain ⟨rfl,rfl,rfl⟩:=trodAll_nil r4;exact ⟨_,rfl,_,_,_, [],_, [],hW',trodAll_mk1 (shut_bool Tryz.underlying4 _),hB,rfl,bel.frame _,fun h=>by cases h⟩
theorem sy:Rows.dependValuesRow.holds Tryz.pinned (OpenSpec.ofChange Rows.dependValuesSpec):=
 OpenClaim.holds_of_wide 3 Tryz.f3 rfl rfl rfl rfl rfl rfl rfl ⟨rfl,rfl,rfl,rfl,rfl⟩ rfl rfl rfl rfl rfl (by kernel_rfl) Tryz.func3 (by kernel_rfl)
  (of_decide_eq_true (by kernel_rfl)) (by unfold Func.isWrapper;first | (rw [if_pos (by decide+kernel)];kernel_rfl) | (rw [if_neg (by decide+kernel)];exact ⟨rfl,rfl⟩))
  (fun os started H enc _=>pI os started H enc)
theorem dependValuesProved:Rows.DependValuesCardSaid:=
 Claim7.holds_tied_plain_at .later [] [.data,.data,.data,.data,.sentinel,.sentinel,.listed,.data,.pinned] true (true, "cb77caa43029141e3a9fbc37316bbe426664f4f9db7c666c9e2e9013af1b4ade") true sy (fun _ h=>by cases h) (by kernel_rfl) (fun _ h=>by cases h) dependValues_row_tie rfl ⟨rfl,rfl⟩ (by kernel_rfl) rfl
  (fun f fn hf hfn=>by
   obtain rfl:f=3:=Option.some.inj ((show Tryz.prog.funcNamed "archivum/archivumlaw51.DependValues" =some 3 by kernel_rfl).symm.trans hf) |>.symm;obtain rfl:fn=Tryz.f3:=(Option.some.inj (Tryz.func3.symm.trans hfn)).symm
   exact ⟨by kernel_rfl,fun j t ht=>by
    have hm:t∈Tryz.f3.params.toList:=by simpa using Array.mem_of_getElem? ht
    rw [Cw] at hm;have hall:(([26,3,3,9,28]:List TypeId).all fun u=> !Tryz.prog.wantsStandIn u)=true:=by kernel_rfl
    exact (show Tryz.prog.wantsStandIn t=false by simpa using List.all_eq_true.1 hall t hm)⟩)
  (by kernel_rfl)
end Go.Proofs.YtfnkchadeaedlaaGreatDoor
