/- The law IndexLists. -/
import Derived.Test.YtnlndhjfmghajaaGreatDoorIxcM
import Derived.Test.YtnlndhjfmghajaaGreatDoorAwkM
set_option linter.all false
namespace Go.Proofs.YtnlndhjfmghajaaGreatDoor
open Go.Am
set_option maxRecDepth 10000
set_option maxHeartbeats 4000000
theorem ansLists0 (nl:Bool) (z:Nat) (l:List Hg) (hz:l≠ []→z=3) (hi: ∀h∈l,h.inn) (hl:l.length≤maxLen) (k:Int) (t:Str) (ht:t.length≤maxLen):ansF cfg 6 [.lst (some nl) z (hgsA l),.int .i64 k,.str t] []=some (.bool true, []):=by
 refine ans_of_wp fn6 low6 ?_
 have a:=awake
 have w1:=ansFew48 (some nl) z l hz hi hl
 have hp:=plain_hgsA l
 unfold maxLen at ht
 by_cases h1:fewH l=true∧t.length≤60
 case neg=>
  generalize hgsA l=A at*
  cases hf:fewH l with
  | false=>
   rw [hf] at w1
   simp (maxSteps:=9^9) (disch:=omega) [-List.map_replicate,-List.map_set,-List.getD_eq_getElem?_getD,-getElem?_pos,-getElem?_neg,om,ir6,a,w1,hp]
  | true=>
   rw [hf] at w1
   have h2: ¬ t.length≤60:=fun h=>h1 ⟨hf,h⟩
   simp (maxSteps:=9^9) (disch:=omega) [-List.map_replicate,-List.map_set,-List.getD_eq_getElem?_getD,-getElem?_pos,-getElem?_neg,om,ir6,a,w1,hp,h2]
 obtain ⟨h1,h2⟩:=h1
 rw [h1] at w1
 have hs:=few_small hi h1
 have hsc:=small_cp hs
 have c:=ansCopy48 (some nl) z l hz hs
 have w2:=ansUnder none 3 (l.map cpH) (fun _=>rfl) hsc k t (by omega)
 have w3:=ansUnderR (some nl) z l hz hs k t (by omega)
 have w4:=ansCheckH none 3 (l.map cpH) (fun _=>rfl) hsc
 have w5:=ansCheckR48 (some nl) z l hz hs
 have w6:=ansFindH none 3 (l.map cpH) (fun _=>rfl) hsc k t
 have w7:=ansFindR48 (some nl) z l hz hs k t
 rw [underH_cp] at w2
 rw [checkP_cp] at w4
 rw [findH_cp] at w6
 have hpc:=plain_hgsA (l.map cpH)
 unfold natA at w2 w3
 generalize underH l k t=U at*
 generalize checkP l=C at*
 generalize findH l k t=G at*
 generalize hgsA (l.map cpH)=D at*
 generalize hgsA l=A at*
 clear h1 hs hsc
 simp (maxSteps:=9^9) (disch:=omega) [-List.map_replicate,-List.map_set,-List.getD_eq_getElem?_getD,-getElem?_pos,-getElem?_neg,om,ir6,a,w1,w2,w3,w4,w5,w6,w7,c,hp,hpc,h2]
theorem ansLists {xs:List AV} (h:ShpArgs Tryz.prog [38,3,9] xs):ansF cfg 6 xs []=some (.bool true, []):=by
 obtain ⟨nl,z,l,r,rfl,hz,hi,hl,h⟩:=args_hgs h
 obtain ⟨k,r,rfl,_,_,h⟩:=args_int h
 obtain ⟨t,r,rfl,ht,h9⟩:=args_strC h
 obtain rfl:r= []:=h9
 exact ansLists0 nl z l hz hi hl k t ht
end Go.Proofs.YtnlndhjfmghajaaGreatDoor
