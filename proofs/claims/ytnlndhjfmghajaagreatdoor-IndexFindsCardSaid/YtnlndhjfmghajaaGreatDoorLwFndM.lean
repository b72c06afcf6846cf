/- The law IndexFinds. -/
import Derived.Test.YtnlndhjfmghajaaGreatDoorIxcM
import Derived.Test.YtnlndhjfmghajaaGreatDoorAwkM
set_option linter.all false
namespace Go.Proofs.YtnlndhjfmghajaaGreatDoor
open Go.Am
set_option maxRecDepth 10000
set_option maxHeartbeats 4000000
theorem finds_core {l:List Hg} (hc:checkP l=0) (k:Int) (t:Str):(underH l k t).1+(underH l k t).2≤l.length∧((underH l k t).2=0→(underH l k t).1=0)∧ ∀i (hi:i<l.length),inH k t l[i]=true↔(underH l k t).1≤i∧i<(underH l k t).1+(underH l k t).2:=by
 have h:=under_is (between_inc (checkP_inc hc).1 k t)
 unfold underH
 rw [if_pos hc]
 exact h
theorem ansFinds0 (nl:Bool) (z:Nat) (l:List Hg) (hz:l≠ []→z=3) (hi: ∀h∈l,h.inn) (hl:l.length≤maxLen) (k:Int) (t:Str) (ht:t.length≤maxLen):ansF cfg 7 [.lst (some nl) z (hgsA l),.int .i64 k,.str t] []=some (.bool true, []):=by
 refine ans_of_wp fn7 low7 ?_
 have a:=awake
 have w1:=ansFew48 (some nl) z l hz hi hl
 have hp:=plain_hgsA l
 unfold maxLen at ht
 by_cases h1:fewH l=true∧t.length≤60
 case neg=>
  generalize hgsA l=A at*
  cases hf:fewH l with
  | false=>
   rw [hf] at w1
   simp (maxSteps:=9^9) (disch:=omega) [-List.map_replicate,-List.map_set,-List.getD_eq_getElem?_getD,-getElem?_pos,-getElem?_neg,om,ir7,a,w1,hp]
  | true=>
   rw [hf] at w1
   have h2: ¬ t.length≤60:=fun h=>h1 ⟨hf,h⟩
   simp (maxSteps:=9^9) (disch:=omega) [-List.map_replicate,-List.map_set,-List.getD_eq_getElem?_getD,-getElem?_pos,-getElem?_neg,om,ir7,a,w1,hp,h2]
 obtain ⟨h1,h2⟩:=h1
 rw [h1] at w1
 have hs:=few_small hi h1
 have hsc:=small_cp hs
 have c:=ansCopy48 (some nl) z l hz hs
 have w2:=ansUnder none 3 (l.map cpH) (fun _=>rfl) hsc k t (by omega)
 have w4:=ansCheckH none 3 (l.map cpH) (fun _=>rfl) hsc
 have w6:=ansFindH none 3 (l.map cpH) (fun _=>rfl) hsc k t
 rw [underH_cp] at w2
 rw [checkP_cp] at w4
 rw [findH_cp] at w6
 have hpc:=plain_hgsA (l.map cpH)
 unfold natA at w2
 generalize hgsA (l.map cpH)=D at*
 by_cases hc:checkP l=0
 case neg=>
  have e1:underH l k t=(0,0):=by unfold underH;rw [if_neg hc]
  have e2:findH l k t= -1:=by unfold findH;rw [if_neg hc]
  rw [e1] at w2
  rw [e2] at w6
  generalize checkP l=C at*
  generalize hgsA l=A at*
  clear h1 hs hsc
  simp (maxSteps:=9^9) (disch:=omega) [-List.map_replicate,-List.map_set,-List.getD_eq_getElem?_getD,-getElem?_pos,-getElem?_neg,om,ir7,a,w1,w2,w4,w6,c,hp,hpc,h2,hc]
 rw [hc] at w4
 obtain ⟨u1,u2,u3⟩:=finds_core hc k t
 have hinc:=(checkP_inc hc).1
 have hE: ∀i (h:i<l.length),(hgsA l)[i]?=some (hgA l[i]):=fun i h=>get_map _ _ h
 have hA:(hgsA l).length=l.length:=hgsA_len l
 have wf:=fun k t=>ansFindH (some nl) z l hz hs k t
 have wu:=fun k t ht=>ansUnder (some nl) z l hz hs k t ht
 have hff: ∀i (h:i<l.length),findH l l[i].kind l[i].text=(i:Int):=fun i h=>by
  unfold findH
  rw [if_pos hc,findGo_at hinc i h]
 have hll:=hs.ll
 generalize underH l k t=U at*
 obtain ⟨f,n⟩:=U
 simp only at u1 u2 u3 w2
 have hkt:=ansKey t (by omega)
 have htl:=hs.tl
 generalize hgsA l=A at*
 clear h1
 have c1:((n:Int)==0&&(f:Int) !=0)=false:=by
  by_cases h:n=0
  ·rw [u2 h];simp
  ·have:((n:Int)==0)=false:=by simpa using h
   rw [this];rfl
 simp (maxSteps:=9^9) (disch:=omega) [-List.map_replicate,-List.map_set,-List.getD_eq_getElem?_getD,-getElem?_pos,-getElem?_neg,om,ir7,a,w1,w2,w4,c,hp,hpc,h2,hA,c1]
 have hin: ∀i (h:i<l.length),(underH l l[i].kind (l[i].text.take (l[i].text.length / 2))).1≤i∧i<(underH l l[i].kind (l[i].text.take (l[i].text.length / 2))).1+(underH l l[i].kind (l[i].text.take (l[i].text.length / 2))).2:=fun i h=>by
  refine ((finds_core hc l[i].kind (l[i].text.take (l[i].text.length / 2))).2.2 i h).1 ?_
  unfold inH
  rw [decide_eq_true rfl,Bool.true_and]
  exact keyP_take _ _
 have hsum: ∀i (h:i<l.length),(underH l l[i].kind (l[i].text.take (l[i].text.length / 2))).1+(underH l l[i].kind (l[i].text.take (l[i].text.length / 2))).2≤l.length:=fun i h=>(finds_core hc _ _).1
 clear w1 w2 w4 w6 c hpc hsc hinc hc c1 a
 refine Wp.loopM (fun (a:Nat×Option AV×Option AV×Option AV×Option AV)=>l.length-a.1) (fun a=> [some (.lst (some nl) z A),some (.int .i64 k),some (.str t),none,some (.int .i64 f),some (.int .i64 n),none,none,none,none,none,none,none,none,none,none,none,none,none,none,none,none,none,some (.lst (some nl) z A),some (.int .i64 l.length),some (.int .i64 a.1),none,none,none,a.2.1,a.2.2.1,a.2.2.2.1,a.2.2.2.2,none,none,none]) (fun _=> []) (fun a=>a.1≤l.length) ?_ (0,none,none,none,none) (Nat.zero_le _) (by simp) rfl
 rintro ⟨i,o1,o2,o3,o4⟩ hil
 simp only at hil⊢
 by_cases h3:i<l.length
 ·have hg:=hE i h3
  obtain rfl:=hz (ne_of_lt h3)
  have hm:=List.getElem_mem h3
  have hti:=htl _ hm
  have w1:=wf l[i].kind l[i].text
  rw [hff i h3] at w1
  have w2:=wu l[i].kind (l[i].text.take (l[i].text.length / 2)) (by simp;omega)
  have hin:=hin i h3
  have hsum:=hsum i h3
  have u3:=u3 i h3
  have hpu:=plain_intsA l[i].units
  have w3:=ansKey l[i].text hti
  clear hE hz hi hff wf wu htl hs
  unfold natA at w2
  generalize underH l l[i].kind (l[i].text.take (l[i].text.length / 2))=U at*
  obtain ⟨q1,q2⟩:=U
  simp only at hin hsum w2
  unfold inH at u3
  have w4:=ansHasPre (keyP l[i].text) (keyP t) (by have:=keyP_len l[i].text;omega) (by have:=keyP_len t;omega)
  generalize l[i]=h at*
  unfold hgA at hg
  have e1:Int.tdiv (h.text.length:Int) 2=((h.text.length / 2:Nat):Int):=rfl
  generalize htk:h.text.take (h.text.length / 2)=tk at*
  generalize keyP h.text=kh at*
  generalize keyP t=kt at*
  by_cases h4:f≤i∧i<f+n
  ·have u3:=u3.2 h4
   rw [Bool.and_eq_true,decide_eq_true_eq] at u3
   obtain ⟨u4,u5⟩:=u3
   rw [u5] at w4
   obtain ⟨h5,h6⟩:=h4
   obtain ⟨h7,h8⟩:=hin
   subst u4
   simp (maxSteps:=9^9) (disch:=omega) [-List.map_replicate,-List.map_set,-List.getD_eq_getElem?_getD,-getElem?_pos,-getElem?_neg,om,h3,hg,hA,w1,w2,w3,w4,hkt,hp,hpu,h5,h6,h7,h8,htk,e1,splice]
   exact ⟨i+1,by omega,by omega,by simp⟩
  ·obtain ⟨h7,h8⟩:=hin
   have u4:(decide (h.kind=k)&&kt.isPrefixOf kh)=false:=Bool.eq_false_iff.2 fun hh=>h4 (u3.1 hh)
   have h5:i<f∨(f≤i∧f+n≤i):=by omega
   by_cases h6:h.kind=k
   ·subst h6
    rw [decide_eq_true rfl,Bool.true_and] at u4
    rw [u4] at w4
    rcases h5 with h5 | ⟨h5,h9⟩
    ·simp (maxSteps:=9^9) (disch:=omega) [-List.map_replicate,-List.map_set,-List.getD_eq_getElem?_getD,-getElem?_pos,-getElem?_neg,om,h3,hg,hA,w1,w2,w3,w4,hkt,hp,hpu,h5,h7,h8,htk,e1,splice]
     exact ⟨i+1,by omega,by omega,by simp⟩
    ·simp (maxSteps:=9^9) (disch:=omega) [-List.map_replicate,-List.map_set,-List.getD_eq_getElem?_getD,-getElem?_pos,-getElem?_neg,om,h3,hg,hA,w1,w2,w3,w4,hkt,hp,hpu,h5,h9,h7,h8,htk,e1,splice]
     exact ⟨i+1,by omega,by omega,by simp⟩
   ·have hx:(h.kind==k)=false:=by simpa using h6
    rcases h5 with h5 | ⟨h5,h9⟩
    ·simp (maxSteps:=9^9) (disch:=omega) [-List.map_replicate,-List.map_set,-List.getD_eq_getElem?_getD,-getElem?_pos,-getElem?_neg,om,h3,hg,hA,w1,w2,hx,hp,hpu,h5,h7,h8,htk,e1,splice]
     exact ⟨i+1,by omega,by omega,by simp⟩
    ·simp (maxSteps:=9^9) (disch:=omega) [-List.map_replicate,-List.map_set,-List.getD_eq_getElem?_getD,-getElem?_pos,-getElem?_neg,om,h3,hg,hA,w1,w2,hx,hp,hpu,h5,h9,h7,h8,htk,e1,splice]
     exact ⟨i+1,by omega,by omega,by simp⟩
 ·obtain rfl:i=l.length:=by omega
  simp (maxSteps:=9^9) (disch:=omega) [-List.map_replicate,-List.map_set,-List.getD_eq_getElem?_getD,-getElem?_pos,-getElem?_neg,om,h3]
theorem ansFinds {xs:List AV} (h:ShpArgs Tryz.prog [38,3,9] xs):ansF cfg 7 xs []=some (.bool true, []):=by
 obtain ⟨nl,z,l,r,rfl,hz,hi,hl,h⟩:=args_hgs h
 obtain ⟨k,r,rfl,_,_,h⟩:=args_int h
 obtain ⟨t,r,rfl,ht,h9⟩:=args_strC h
 obtain rfl:r= []:=h9
 exact ansFinds0 nl z l hz hi hl k t ht
end Go.Proofs.YtnlndhjfmghajaaGreatDoor
