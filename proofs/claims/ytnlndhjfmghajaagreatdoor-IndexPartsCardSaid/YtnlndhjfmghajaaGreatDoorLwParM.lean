/- The law IndexParts. -/
import Derived.Test.YtnlndhjfmghajaaGreatDoorLwKeyM
set_option linter.all false
namespace Go.Proofs.YtnlndhjfmghajaaGreatDoor
open Go.Am Go.ChangeShapes Go.WideShapes Go.RowKit
set_option maxRecDepth 10000
set_option maxHeartbeats 4000000
theorem args_two {ts:List TypeId} {xs:List AV} (h:ShpArgs Tryz.prog (22::ts) xs): ∃(a b:Int) (r:List AV),xs= .agg [.int .i64 a,.int .i64 b]::r∧ShpArgs Tryz.prog ts r:=by
 obtain ⟨n,cs,r,rfl,h1,h2⟩:=h
 obtain ⟨m,l,hl,rfl,h3⟩:=h1.array (k:=2) (e:=3) (by kernel_rfl)
 match l,hl with
 | [y,z],_=>
  obtain ⟨a,rfl,_⟩:=(h3 y (by simp)).int (k:= .i64) (by kernel_rfl)
  obtain ⟨b,rfl,_⟩:=(h3 z (by simp)).int (k:= .i64) (by kernel_rfl)
  exact ⟨a,b,r,by rw [show Tryz.prog.underlying 22=some (.array 2 3) by kernel_rfl];rfl,h2⟩
theorem ansParts0 (s t:Str) (hs:s.length≤maxLen) (ht:t.length≤maxLen) (i j:Int):ansF cfg 3 [.str s,.str t,.agg [.int .i64 i,.int .i64 j]] []=some (.bool true, []):=by
 refine ans_of_wp fn3 low3 ?_
 have a:=awake
 unfold maxLen at hs ht
 by_cases h1:s.length≤200
 case neg=>simp (maxSteps:=9^9) (disch:=omega) [-List.map_replicate,-List.map_set,-List.getD_eq_getElem?_getD,-getElem?_pos,-getElem?_neg,om,ir3,a,h1]
 by_cases h2:t.length≤200
 case neg=>simp (maxSteps:=9^9) (disch:=omega) [-List.map_replicate,-List.map_set,-List.getD_eq_getElem?_getD,-getElem?_pos,-getElem?_neg,om,ir3,a,h1,h2]
 have w1:=ansParts s (by omega)
 have w2:=ansPartsR s (by omega)
 have w3:=ansKey s (by omega)
 have w4:=ansKeyR s (by omega)
 have hPl:=partsP_len s
 have w5:=ansEqS (partsP s) none none (by omega)
 have w6:=ansCmp ⟨i,s, [],none,1⟩ ⟨j,t, [],none,1⟩ (by simp only;omega) (by simp only;omega)
 have w7:=ansCmpRR ⟨i,s, [],none,1⟩ ⟨j,t, [],none,1⟩ (by simp only;omega) (by simp only;omega)
 simp only [hgA,intsA,List.map_nil] at w6 w7
 have hpl:=plain_strA (partsP s)
 clear hPl
 generalize strA (partsP s)=P at*
 generalize keyP s=K at*
 generalize cmpH i s j t=C at*
 simp (maxSteps:=9^9) (disch:=omega) [-List.map_replicate,-List.map_set,-List.getD_eq_getElem?_getD,-getElem?_pos,-getElem?_neg,om,ir3,a,h1,h2,w1,w2,w3,w4,w5,w6,w7,hpl,Cfg.descOf,splice]
theorem ansPartsL {xs:List AV} (h:ShpArgs Tryz.prog [9,9,22] xs):ansF cfg 3 xs []=some (.bool true, []):=by
 obtain ⟨s,r,rfl,hs,h⟩:=args_strC h
 obtain ⟨t,r,rfl,ht,h⟩:=args_strC h
 obtain ⟨i,j,r,rfl,h9⟩:=args_two h
 obtain rfl:r= []:=h9
 exact ansParts0 s t hs ht i j
end Go.Proofs.YtnlndhjfmghajaaGreatDoor
