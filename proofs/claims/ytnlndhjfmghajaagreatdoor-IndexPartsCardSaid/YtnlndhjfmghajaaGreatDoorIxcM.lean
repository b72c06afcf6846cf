/- The reference's Check; Find and Under of the program and of the reference. -/
import Derived.Test.YtnlndhjfmghajaaGreatDoorIxbM
set_option linter.all false
namespace Go.Proofs.YtnlndhjfmghajaaGreatDoor
open Go.Am
set_option maxRecDepth 10000
set_option maxHeartbeats 4000000
theorem ansCheckR48 (nl:Option Bool) (z:Nat) (l:List Hg) (hz:l≠ []→z=3) (hs:SmallH l):ansF cfg 35 [.lst nl z (hgsA l)] []=some (.int .i64 (checkP l), []):=by
 refine ans_of_wp fn35 low35 ?_
 have hl:(hgsA l).length=l.length:=hgsA_len l
 have hE: ∀i (h:i<l.length),(hgsA l)[i]?=some (hgA l[i]):=fun i h=>get_map _ _ h
 have hll:=hs.ll
 obtain ⟨V,hV⟩: ∃V,V=checkP l:=⟨_,rfl⟩
 rw [←hV]
 unfold checkP at hV
 generalize hgsA l=A at*
 by_cases h1:1024<l.length
 ·rw [if_pos h1] at hV
  subst hV
  simp (maxSteps:=9^9) (disch:=omega) [-List.map_replicate,-List.map_set,-List.getD_eq_getElem?_getD,-getElem?_pos,-getElem?_neg,om,ir35,h1,hl]
 rw [if_neg h1] at hV
 simp (maxSteps:=9^9) (disch:=omega) [-List.map_replicate,-List.map_set,-List.getD_eq_getElem?_getD,-getElem?_pos,-getElem?_neg,om,ir35,h1,hl]
 refine Wp.loopM (fun (a:Nat×Option AV)=>l.length-a.1) (fun a=> [some (.lst nl z A),none,some (.int .i64 a.1),none,none,none,none,a.2,none]) (fun _=> []) (fun a=>V=checkGo (prevH l a.1) (l.drop a.1)∧a.1≤l.length) ?_ (0,none) ⟨by simpa [prevH] using hV,by omega⟩ (by simp) rfl
 clear hV
 rintro ⟨i,o⟩ ⟨hV,hil⟩
 simp only at hV hil⊢
 by_cases h2:i<l.length
 ·have hg:=hE i h2
  obtain rfl:=hz (ne_of_lt h2)
  have hm:=List.getElem_mem h2
  rw [List.drop_eq_getElem_cons h2] at hV
  have hp:=prevH_succ l h2
  have w1:=ansRight48 l[i] (hs.inn _ hm) (hs.tl _ hm) (hs.ul _ hm)
  have w2: ∀p,prevH l i=some p→A[i-1]?=some (hgA p)∧ansF cfg 18 [hgA p,hgA l[i]] []=some (.int .i64 (cmpH p.kind p.text l[i].kind l[i].text), []):=fun p hp=>by
   unfold prevH at hp
   split at hp
   ·cases hp
   ·rename_i h0
    rw [List.getElem?_eq_getElem (by omega)] at hp
    obtain rfl:=Option.some.inj hp
    have hm2:l[i-1]∈l:=List.getElem_mem _
    exact ⟨hE _ (by omega),ansCmpRR _ _ (hs.tl _ hm2) (hs.tl _ hm)⟩
  have hq:i≠0→ ∃p,prevH l i=some p:=fun h0=>⟨l[i-1],by unfold prevH;rw [if_neg h0,List.getElem?_eq_getElem (by omega)]⟩
  have hq0:i=0→prevH l i=none:=fun h0=>by unfold prevH;rw [if_pos h0]
  have hplu:=plain_intsA l[i].units
  have hnx:checkGo (some l[i]) (l.drop (i+1))=checkGo (prevH l (i+1)) (l.drop (i+1)):=by rw [hp]
  simp only [checkGo] at hV
  clear hE hz hp
  generalize checkGo (some l[i]) (l.drop (i+1))=R at*
  generalize l[i]=h at*
  unfold hgA at hg w1
  cases hv:validH h with
  | false=>
   rw [hv] at w1 hV
   simp only [if_true] at hV
   subst hV
   simp (maxSteps:=9^9) (disch:=omega) [-List.map_replicate,-List.map_set,-List.getD_eq_getElem?_getD,-getElem?_pos,-getElem?_neg,om,h2,hg,hl,splice,w1,hplu]
  | true=>
   rw [hv] at w1 hV
   rw [if_neg (by decide)] at hV
   by_cases h0:i=0
   ·rw [hq0 h0] at hV
    simp only [befH,Bool.true_eq_false,if_false] at hV
    subst h0
    simp (maxSteps:=9^9) (disch:=omega) [-List.map_replicate,-List.map_set,-List.getD_eq_getElem?_getD,-getElem?_pos,-getElem?_neg,om,h2,hg,hl,splice,w1,hplu]
    exact ⟨1,⟨by rw [hV];exact hnx,by omega⟩,by omega,by simp⟩
   ·obtain ⟨p,hp⟩:=hq h0
    obtain ⟨g2,w2⟩:=w2 p hp
    rw [hp] at hV
    simp only [befH] at hV
    have hplp:=plain_intsA p.units
    unfold hgA at g2 w2
    obtain ⟨c,hc⟩: ∃c,c=cmpH p.kind p.text h.kind h.text:=⟨_,rfl⟩
    simp only [←hc] at hV w2
    clear hc
    have e1:((i:Int)-1).toNat=i-1:=by omega
    have h3:0<i:=by omega
    by_cases h4:c<0
    ·rw [decide_eq_true h4,if_neg (by decide)] at hV
     simp (maxSteps:=9^9) (disch:=omega) [-List.map_replicate,-List.map_set,-List.getD_eq_getElem?_getD,-getElem?_pos,-getElem?_neg,om,h2,hg,hl,g2,e1,h3,h4,splice,w1,w2,hplu,hplp]
     exact ⟨i+1,⟨by rw [hV];exact hnx,by omega⟩,by omega,by simp⟩
    ·rw [decide_eq_false h4,if_pos rfl] at hV
     subst hV
     simp (maxSteps:=9^9) (disch:=omega) [-List.map_replicate,-List.map_set,-List.getD_eq_getElem?_getD,-getElem?_pos,-getElem?_neg,om,h2,hg,hl,g2,e1,h3,h4,splice,w1,w2,hplu,hplp]
 ·obtain rfl:i=l.length:=by omega
  rw [List.drop_eq_nil_of_le (Nat.le_refl _)] at hV
  simp only [checkGo] at hV
  subst hV
  simp (maxSteps:=9^9) (disch:=omega) [-List.map_replicate,-List.map_set,-List.getD_eq_getElem?_getD,-getElem?_pos,-getElem?_neg,om,h2,hl]
theorem ansFind1 (h:Hg) (k:Int) (t:Str):ansF cfg 73 [hgA h,.ptr 0 0,.ptr 1 0] [.var 3 [.int .i64 k],.var 9 [.str t]]=some (.bool (isH k t h), [.var 3 [.int .i64 k],.var 9 [.str t]]):=by
 refine ans_of_wp fn73 low73 ?_
 have w:=ansOf h
 have hp:=plain_intsA h.units
 unfold hgA at*
 unfold isH
 simp (maxSteps:=9^9) (disch:=omega) [-List.map_replicate,-List.map_set,-List.getD_eq_getElem?_getD,-getElem?_pos,-getElem?_neg,om,ir73,splice,w,hp]
 rw [Bool.eq_iff_iff]
 simp
theorem ansIdxH (nl:Option Bool) (z:Nat) (l:List Hg) (hz:l≠ []→z=3) (hl:l.length<1000000) (k:Int) (t:Str):
  ansF cfg 72 [.lst nl z (hgsA l),.fn 73 [] [.ptr 0 0,.ptr 1 0]] [.var 3 [.int .i64 k],.var 9 [.str t]]=some (.int .i64 (findGo k t l 0), [.var 3 [.int .i64 k],.var 9 [.str t]]):=by
 refine ans_of_wp fn72 low72 ?_
 have hE: ∀i (h:i<l.length),(hgsA l)[i]?=some (hgA l[i]):=fun i h=>get_map _ _ h
 have hA:(hgsA l).length=l.length:=hgsA_len l
 have hp:=plain_hgsA l
 obtain ⟨V,hV⟩: ∃V,V=findGo k t l 0:=⟨_,rfl⟩
 rw [←hV]
 generalize hgsA l=A at*
 simp (maxSteps:=9^9) (disch:=omega) [-List.map_replicate,-List.map_set,-List.getD_eq_getElem?_getD,-getElem?_pos,-getElem?_neg,om,ir72,hA]
 refine Wp.loopM (fun (i:Nat)=>l.length-i) (fun i=> [some (.lst nl z A),some (.fn 73 [] [.ptr 0 0,.ptr 1 0]),none,none,some (.int .i64 l.length),some (.int .i64 i),none,none]) (fun _=> [.var 3 [.int .i64 k],.var 9 [.str t]]) (fun i=>V=findGo k t (l.drop i) i∧i≤l.length) ?_ 0 ⟨by simpa using hV,by omega⟩ (by simp) rfl
 clear hV
 rintro i ⟨hV,hi⟩
 by_cases h1:i<l.length
 ·have hg:=hE i h1
  obtain rfl:=hz (ne_of_lt h1)
  have hs:=ansFind1 l[i] k t
  rw [List.drop_eq_getElem_cons h1] at hV
  simp only [findGo] at hV
  have hpu:=plain_intsA l[i].units
  clear hE hz
  generalize l[i]=h at*
  unfold hgA at hg hs
  cases h2:isH k t h with
  | true=>
   rw [h2] at hs hV
   rw [if_pos rfl] at hV
   subst hV
   simp (maxSteps:=9^9) (disch:=omega) [-List.map_replicate,-List.map_set,-List.getD_eq_getElem?_getD,-getElem?_pos,-getElem?_neg,om,h1,hg,hs,hA,hpu]
  | false=>
   rw [h2] at hs hV
   rw [if_neg (by decide)] at hV
   simp (maxSteps:=9^9) (disch:=omega) [-List.map_replicate,-List.map_set,-List.getD_eq_getElem?_getD,-getElem?_pos,-getElem?_neg,om,h1,hg,hs,hA,hpu]
   exact ⟨i+1,⟨hV,by omega⟩,by omega,by simp⟩
 ·rw [List.drop_eq_nil_of_le (by omega)] at hV
  simp only [findGo] at hV
  subst hV
  simp (maxSteps:=9^9) (disch:=omega) [-List.map_replicate,-List.map_set,-List.getD_eq_getElem?_getD,-getElem?_pos,-getElem?_neg,om,h1]
theorem ansFindH (nl:Option Bool) (z:Nat) (l:List Hg) (hz:l≠ []→z=3) (hs:SmallH l) (k:Int) (t:Str):ansF cfg 28 [.lst nl z (hgsA l),.int .i64 k,.str t] []=some (.int .i64 (findH l k t), []):=by
 refine ans_of_wp fn28 low28 ?_
 have w1:=ansCheckH nl z l hz hs
 have w2:=ansIdxH nl z l hz hs.ll k t
 have hp:=plain_hgsA l
 unfold findH
 generalize checkP l=e at*
 generalize hgsA l=A at*
 by_cases h:e=0
 ·rw [if_pos h]
  simp (maxSteps:=9^9) (disch:=omega) [-List.map_replicate,-List.map_set,-List.getD_eq_getElem?_getD,-getElem?_pos,-getElem?_neg,om,ir28,w1,w2,hp,h]
 ·rw [if_neg h]
  simp (maxSteps:=9^9) (disch:=omega) [-List.map_replicate,-List.map_set,-List.getD_eq_getElem?_getD,-getElem?_pos,-getElem?_neg,om,ir28,w1,hp,h]
theorem ansFindR48 (nl:Option Bool) (z:Nat) (l:List Hg) (hz:l≠ []→z=3) (hs:SmallH l) (k:Int) (t:Str):ansF cfg 36 [.lst nl z (hgsA l),.int .i64 k,.str t] []=some (.int .i64 (findH l k t), []):=by
 refine ans_of_wp fn36 low36 ?_
 have w1:=ansCheckR48 nl z l hz hs
 have hE: ∀i (h:i<l.length),(hgsA l)[i]?=some (hgA l[i]):=fun i h=>get_map _ _ h
 have hA:(hgsA l).length=l.length:=hgsA_len l
 have hp:=plain_hgsA l
 have hll:=hs.ll
 unfold findH
 obtain ⟨V,hV⟩: ∃V,V=findGo k t l 0:=⟨_,rfl⟩
 rw [←hV]
 generalize checkP l=e at*
 generalize hgsA l=A at*
 by_cases h:e=0
 case neg=>
  rw [if_neg h]
  simp (maxSteps:=9^9) (disch:=omega) [-List.map_replicate,-List.map_set,-List.getD_eq_getElem?_getD,-getElem?_pos,-getElem?_neg,om,ir36,w1,hp,h]
 rw [if_pos h]
 simp (maxSteps:=9^9) (disch:=omega) [-List.map_replicate,-List.map_set,-List.getD_eq_getElem?_getD,-getElem?_pos,-getElem?_neg,om,ir36,w1,hp,h]
 refine Wp.loopM (fun (i:Nat)=>l.length-i) (fun i=> [some (.lst nl z A),some (.int .i64 k),some (.str t),none,some (.int .i64 i),none,none,none,none]) (fun _=> []) (fun i=>V=findGo k t (l.drop i) i∧i≤l.length) ?_ 0 ⟨by simpa using hV,by omega⟩ (by simp) rfl
 clear hV
 rintro i ⟨hV,hi⟩
 by_cases h1:i<l.length
 ·have hg:=hE i h1
  obtain rfl:=hz (ne_of_lt h1)
  rw [List.drop_eq_getElem_cons h1] at hV
  simp only [findGo] at hV
  clear hE hz w1
  generalize l[i]=h at*
  unfold hgA at hg
  unfold isH at hV
  by_cases h2:h.kind=k
  ·rw [decide_eq_true h2,Bool.true_and] at hV
   by_cases h3:h.text=t
   ·rw [decide_eq_true h3,if_pos rfl] at hV
    subst hV
    simp (maxSteps:=9^9) (disch:=omega) [-List.map_replicate,-List.map_set,-List.getD_eq_getElem?_getD,-getElem?_pos,-getElem?_neg,om,h1,hg,hA,h2,h3]
   ·rw [decide_eq_false h3,if_neg (by decide)] at hV
    simp (maxSteps:=9^9) (disch:=omega) [-List.map_replicate,-List.map_set,-List.getD_eq_getElem?_getD,-getElem?_pos,-getElem?_neg,om,h1,hg,hA,h2,h3]
    exact ⟨i+1,⟨hV,by omega⟩,by omega,by simp⟩
  ·rw [decide_eq_false h2,Bool.false_and,if_neg (by decide)] at hV
   simp (maxSteps:=9^9) (disch:=omega) [-List.map_replicate,-List.map_set,-List.getD_eq_getElem?_getD,-getElem?_pos,-getElem?_neg,om,h1,hg,hA,h2]
   exact ⟨i+1,⟨hV,by omega⟩,by omega,by simp⟩
 ·rw [List.drop_eq_nil_of_le (by omega)] at hV
  simp only [findGo] at hV
  subst hV
  simp (maxSteps:=9^9) (disch:=omega) [-List.map_replicate,-List.map_set,-List.getD_eq_getElem?_getD,-getElem?_pos,-getElem?_neg,om,h1,hA]
theorem pre_take (s t:Str):(decide (t.length≤s.length)&&(s.take t.length==t))=t.isPrefixOf s:=by
 rw [Bool.eq_iff_iff,List.isPrefixOf_iff_prefix]
 simp only [Bool.and_eq_true,decide_eq_true_eq,beq_iff_eq]
 constructor
 ·rintro ⟨h1,h2⟩
  rw [←h2];exact List.take_prefix _ _
 ·rintro ⟨r,rfl⟩
  simp
theorem hasPre0 (s t:Str) (hs:s.length<1000000) (ht:t.length<1000000):ansF cfg 78 [.str s,.str t] []=some (.bool (t.isPrefixOf s), []):=by
 refine ans_of_wp fn78 low78 ?_
 rw [←pre_take]
 by_cases h:t.length≤s.length
 ·simp (maxSteps:=9^9) (disch:=omega) [-List.map_replicate,-List.map_set,-List.getD_eq_getElem?_getD,-getElem?_pos,-getElem?_neg,om,ir78,h]
 ·simp (maxSteps:=9^9) (disch:=omega) [-List.map_replicate,-List.map_set,-List.getD_eq_getElem?_getD,-getElem?_pos,-getElem?_neg,om,ir78,h]
theorem ansHasPre (s t:Str) (hs:s.length<1000000) (ht:t.length<1000000):ansF cfg 37 [.str s,.str t] []=some (.bool (t.isPrefixOf s), []):=by
 refine ans_of_wp fn37 low37 ?_
 have h:=hasPre0 s t hs ht
 simp (maxSteps:=9^9) (disch:=omega) [-List.map_replicate,-List.map_set,-List.getD_eq_getElem?_getD,-getElem?_pos,-getElem?_neg,om,ir37,h]
theorem ansBegins (s t:Str) (hs:s.length<1000000) (ht:t.length<1000000):ansF cfg 76 [.str s,.str t] []=some (.bool (t.isPrefixOf s), []):=by
 refine ans_of_wp fn76 low76 ?_
 rw [←pre_take]
 by_cases h:t.length≤s.length
 ·simp (maxSteps:=9^9) (disch:=omega) [-List.map_replicate,-List.map_set,-List.getD_eq_getElem?_getD,-getElem?_pos,-getElem?_neg,om,ir76,h]
 ·simp (maxSteps:=9^9) (disch:=omega) [-List.map_replicate,-List.map_set,-List.getD_eq_getElem?_getD,-getElem?_pos,-getElem?_neg,om,ir76,h]
def natA (p:Nat×Nat):AV:= .tup [.int .i64 p.1,.int .i64 p.2]
theorem ansUnder (nl:Option Bool) (z:Nat) (l:List Hg) (hz:l≠ []→z=3) (hs:SmallH l) (k:Int) (t:Str) (ht:t.length<1000000):ansF cfg 32 [.lst nl z (hgsA l),.int .i64 k,.str t] []=some (natA (underH l k t), []):=by
 refine ans_of_wp fn32 low32 ?_
 have w1:=ansCheckH nl z l hz hs
 have hE: ∀i (h:i<l.length),(hgsA l)[i]?=some (hgA l[i]):=fun i h=>get_map _ _ h
 have hA:(hgsA l).length=l.length:=hgsA_len l
 have hp:=plain_hgsA l
 have hll:=hs.ll
 have hk:=ansKey t ht
 have hkl:=keyP_len t
 unfold underH
 obtain ⟨q,hq⟩: ∃q,q=inH k t:=⟨_,rfl⟩
 rw [←hq]
 generalize hkt:keyP t=kt at*
 have hqq: ∀h,q h=(decide (h.kind=k)&&kt.isPrefixOf (keyP h.text)):=fun h=>by rw [hq,←hkt];rfl
 clear hq
 obtain ⟨V,hV⟩: ∃V,V=underGo q l 0 0 0:=⟨_,rfl⟩
 rw [←hV]
 generalize checkP l=e at*
 generalize hgsA l=A at*
 unfold natA
 by_cases h:e=0
 case neg=>
  rw [if_neg h]
  simp (maxSteps:=9^9) (disch:=omega) [-List.map_replicate,-List.map_set,-List.getD_eq_getElem?_getD,-getElem?_pos,-getElem?_neg,om,ir32,w1,hp,h]
 rw [if_pos h]
 simp (maxSteps:=9^9) (disch:=omega) [-List.map_replicate,-List.map_set,-List.getD_eq_getElem?_getD,-getElem?_pos,-getElem?_neg,om,ir32,w1,hp,h,hk,hA]
 refine Wp.loopM (fun (a:Nat×Nat×Nat×Option AV×Option AV)=>l.length-a.1) (fun a=> [none,some (.int .i64 k),none,none,none,some (.str kt),some (.int .i64 a.2.1),some (.int .i64 a.2.2.1),none,none,none,none,none,some (.lst nl z A),some (.int .i64 l.length),some (.int .i64 a.1),none,none,none,a.2.2.2.1,a.2.2.2.2,none,none]) (fun _=> []) (fun a=>V=underGo q (l.drop a.1) a.1 a.2.1 a.2.2.1∧a.1≤l.length∧a.2.2.1≤a.1) ?_ (0,0,0,none,none) ⟨by simpa using hV,Nat.zero_le _,Nat.zero_le _⟩ (by simp) rfl
 clear hV
 rintro ⟨i,f,n,o1,o2⟩ ⟨hV,hi,hn⟩
 simp only at hV hi hn⊢
 by_cases h1:i<l.length
 ·have hg:=hE i h1
  obtain rfl:=hz (ne_of_lt h1)
  have hm:=List.getElem_mem h1
  have htl:=hs.tl _ hm
  rw [List.drop_eq_getElem_cons h1] at hV
  simp only [underGo] at hV
  have hpu:=plain_intsA l[i].units
  clear hE hz w1
  generalize l[i]=h at*
  have hb:=hqq h
  have w2:=ansKey h.text htl
  have w3:=ansHasPre (keyP h.text) kt (by have:=keyP_len h.text;omega) (by omega)
  generalize keyP h.text=kh at*
  unfold hgA at hg
  clear hqq
  by_cases h2:h.kind=k
  ·rw [decide_eq_true h2,Bool.true_and] at hb
   cases h3:kt.isPrefixOf kh with
   | true=>
    rw [h3] at hb w3
    rw [hb,if_pos rfl] at hV
    by_cases h4:n=0
    ·subst h4
     simp (maxSteps:=9^9) (disch:=omega) [-List.map_replicate,-List.map_set,-List.getD_eq_getElem?_getD,-getElem?_pos,-getElem?_neg,om,h1,hg,hA,h2,w2,w3,splice]
     exact ⟨i+1,i,1,⟨hV,by omega,by omega⟩,by omega,rfl,rfl,by simp⟩
    ·rw [if_neg h4] at hV
     simp (maxSteps:=9^9) (disch:=omega) [-List.map_replicate,-List.map_set,-List.getD_eq_getElem?_getD,-getElem?_pos,-getElem?_neg,om,h1,hg,hA,h2,h4,w2,w3,splice]
     exact ⟨i+1,f,n+1,⟨hV,by omega,by omega⟩,by omega,rfl,by simp,by simp⟩
   | false=>
    rw [h3] at hb w3
    rw [hb,if_neg (by decide)] at hV
    simp (maxSteps:=9^9) (disch:=omega) [-List.map_replicate,-List.map_set,-List.getD_eq_getElem?_getD,-getElem?_pos,-getElem?_neg,om,h1,hg,hA,h2,w2,w3,splice]
    exact ⟨i+1,f,n,⟨hV,by omega,by omega⟩,by omega,rfl,rfl,by simp⟩
  ·rw [decide_eq_false h2,Bool.false_and] at hb
   rw [hb,if_neg (by decide)] at hV
   have hx:(h.kind !=k)=true:=by simpa using h2
   simp (maxSteps:=9^9) (disch:=omega) [-List.map_replicate,-List.map_set,-List.getD_eq_getElem?_getD,-getElem?_pos,-getElem?_neg,om,h1,hg,hA,hx,splice]
   exact ⟨i+1,f,n,⟨hV,by omega,by omega⟩,by omega,rfl,rfl,by simp⟩
 ·rw [List.drop_eq_nil_of_le (by omega)] at hV
  simp only [underGo] at hV
  subst hV
  simp (maxSteps:=9^9) (disch:=omega) [-List.map_replicate,-List.map_set,-List.getD_eq_getElem?_getD,-getElem?_pos,-getElem?_neg,om,h1]
theorem ansUnderR (nl:Option Bool) (z:Nat) (l:List Hg) (hz:l≠ []→z=3) (hs:SmallH l) (k:Int) (t:Str) (ht:t.length<1000000):ansF cfg 34 [.lst nl z (hgsA l),.int .i64 k,.str t] []=some (natA (underH l k t), []):=by
 refine ans_of_wp fn34 low34 ?_
 have w1:=ansCheckR48 nl z l hz hs
 have hE: ∀i (h:i<l.length),(hgsA l)[i]?=some (hgA l[i]):=fun i h=>get_map _ _ h
 have hA:(hgsA l).length=l.length:=hgsA_len l
 have hp:=plain_hgsA l
 have hll:=hs.ll
 have hk:=ansKeyR t ht
 have hkl:=keyP_len t
 unfold underH
 obtain ⟨q,hq⟩: ∃q,q=inH k t:=⟨_,rfl⟩
 rw [←hq]
 generalize hkt:keyP t=kt at*
 have hqq: ∀h,q h=(decide (h.kind=k)&&kt.isPrefixOf (keyP h.text)):=fun h=>by rw [hq,←hkt];rfl
 clear hq
 obtain ⟨V,hV⟩: ∃V,V=underGo q l 0 0 0:=⟨_,rfl⟩
 rw [←hV]
 generalize checkP l=e at*
 generalize hgsA l=A at*
 unfold natA
 by_cases h:e=0
 case neg=>
  rw [if_neg h]
  simp (maxSteps:=9^9) (disch:=omega) [-List.map_replicate,-List.map_set,-List.getD_eq_getElem?_getD,-getElem?_pos,-getElem?_neg,om,ir34,w1,hp,h]
 rw [if_pos h]
 simp (maxSteps:=9^9) (disch:=omega) [-List.map_replicate,-List.map_set,-List.getD_eq_getElem?_getD,-getElem?_pos,-getElem?_neg,om,ir34,w1,hp,h,hk,hA]
 refine Wp.loopM (fun (a:Nat×Nat×Nat×Option AV×Option AV×Option AV)=>l.length-a.1) (fun a=> [some (.lst nl z A),some (.int .i64 k),some (.str t),none,none,some (.int .i64 a.2.1),some (.int .i64 a.2.2.1),some (.int .i64 a.1),none,none,none,none,a.2.2.2.1,a.2.2.2.2.1,a.2.2.2.2.2,none,none]) (fun _=> []) (fun a=>V=underGo q (l.drop a.1) a.1 a.2.1 a.2.2.1∧a.1≤l.length∧a.2.2.1≤a.1) ?_ (0,0,0,none,none,none) ⟨by simpa using hV,Nat.zero_le _,Nat.zero_le _⟩ (by simp) rfl
 clear hV
 rintro ⟨i,f,n,o1,o2,o3⟩ ⟨hV,hi,hn⟩
 simp only at hV hi hn⊢
 by_cases h1:i<l.length
 ·have hg:=hE i h1
  obtain rfl:=hz (ne_of_lt h1)
  have hm:=List.getElem_mem h1
  have htl:=hs.tl _ hm
  rw [List.drop_eq_getElem_cons h1] at hV
  simp only [underGo] at hV
  have hpu:=plain_intsA l[i].units
  clear hE hz w1
  generalize l[i]=h at*
  have hb:=hqq h
  have w2:=ansKeyR h.text htl
  have w3:=ansBegins (keyP h.text) kt (by have:=keyP_len h.text;omega) (by omega)
  generalize keyP h.text=kh at*
  unfold hgA at hg
  clear hqq
  by_cases h2:h.kind=k
  ·rw [decide_eq_true h2,Bool.true_and] at hb
   cases h3:kt.isPrefixOf kh with
   | true=>
    rw [h3] at hb w3
    rw [hb,if_pos rfl] at hV
    by_cases h4:n=0
    ·subst h4
     simp (maxSteps:=9^9) (disch:=omega) [-List.map_replicate,-List.map_set,-List.getD_eq_getElem?_getD,-getElem?_pos,-getElem?_neg,om,h1,hg,hA,h2,w2,w3,hk,splice]
     exact ⟨i+1,i,1,⟨hV,by omega,by omega⟩,by omega,rfl,rfl,by simp⟩
    ·rw [if_neg h4] at hV
     simp (maxSteps:=9^9) (disch:=omega) [-List.map_replicate,-List.map_set,-List.getD_eq_getElem?_getD,-getElem?_pos,-getElem?_neg,om,h1,hg,hA,h2,h4,w2,w3,hk,splice]
     exact ⟨i+1,f,n+1,⟨hV,by omega,by omega⟩,by omega,rfl,by simp,by simp⟩
   | false=>
    rw [h3] at hb w3
    rw [hb,if_neg (by decide)] at hV
    simp (maxSteps:=9^9) (disch:=omega) [-List.map_replicate,-List.map_set,-List.getD_eq_getElem?_getD,-getElem?_pos,-getElem?_neg,om,h1,hg,hA,h2,w2,w3,hk,splice]
    exact ⟨i+1,f,n,⟨hV,by omega,by omega⟩,by omega,rfl,rfl,by simp⟩
  ·rw [decide_eq_false h2,Bool.false_and] at hb
   rw [hb,if_neg (by decide)] at hV
   have hx:(h.kind !=k)=true:=by simpa using h2
   simp (maxSteps:=9^9) (disch:=omega) [-List.map_replicate,-List.map_set,-List.getD_eq_getElem?_getD,-getElem?_pos,-getElem?_neg,om,h1,hg,hA,hx,splice]
   exact ⟨i+1,f,n,⟨hV,by omega,by omega⟩,by omega,rfl,rfl,by simp⟩
 ·rw [List.drop_eq_nil_of_le (by omega)] at hV
  simp only [underGo] at hV
  subst hV
  simp (maxSteps:=9^9) (disch:=omega) [-List.map_replicate,-List.map_set,-List.getD_eq_getElem?_getD,-getElem?_pos,-getElem?_neg,om,h1]
def few1 (h:Hg):Bool:=decide (h.text.length≤60)&&decide (h.units.length≤12)
def fewH (l:List Hg):Bool:=l.all few1&&decide (l.length≤30)
theorem ansFew48 (nl:Option Bool) (z:Nat) (l:List Hg) (hz:l≠ []→z=3) (hi: ∀h∈l,h.inn) (hl:l.length≤maxLen):ansF cfg 31 [.lst nl z (hgsA l)] []=some (.bool (fewH l), []):=by
 refine ans_of_wp fn31 low31 ?_
 have hE: ∀i (h:i<l.length),(hgsA l)[i]?=some (hgA l[i]):=fun i h=>get_map _ _ h
 have hA:(hgsA l).length=l.length:=hgsA_len l
 unfold maxLen at hl
 obtain ⟨V,hV⟩: ∃V,V=fewH l:=⟨_,rfl⟩
 rw [←hV]
 unfold fewH at hV
 generalize hgsA l=A at*
 simp (maxSteps:=9^9) (disch:=omega) [-List.map_replicate,-List.map_set,-List.getD_eq_getElem?_getD,-getElem?_pos,-getElem?_neg,om,ir31]
 refine Wp.loopM (fun (i:Nat)=>l.length-i) (fun i=> [some (.lst nl z A),none,some (.int .i64 i),none,none]) (fun _=> []) (fun i=>V=((l.drop i).all few1&&decide (l.length≤30))∧i≤l.length) ?_ 0 ⟨by rw [List.drop_zero];exact hV,by omega⟩ (by simp) rfl
 clear hV
 rintro i ⟨hV,hil⟩
 by_cases h1:i<l.length
 ·have hg:=hE i h1
  obtain rfl:=hz (ne_of_lt h1)
  have hul:=(hi _ (List.getElem_mem h1)).ul
  have htl:=(hi _ (List.getElem_mem h1)).tl
  have hu:=intsA_len l[i].units
  rw [List.drop_eq_getElem_cons h1,List.all_cons] at hV
  clear hE hz hi
  unfold maxLen at hul htl
  unfold hgA at hg
  generalize l[i]=h at*
  generalize intsA h.units=U at*
  by_cases h2:h.text.length≤60
  ·by_cases h3:h.units.length≤12
   ·rw [show few1 h=true by unfold few1;rw [decide_eq_true h2,decide_eq_true h3];rfl,Bool.true_and] at hV
    simp (maxSteps:=9^9) (disch:=omega) [-List.map_replicate,-List.map_set,-List.getD_eq_getElem?_getD,-getElem?_pos,-getElem?_neg,om,h1,hg,hA,hu,h2,h3]
    exact ⟨i+1,⟨hV,by omega⟩,by omega,by simp⟩
   ·rw [show few1 h=false by unfold few1;rw [decide_eq_false h3,Bool.and_false],Bool.false_and,Bool.false_and] at hV
    subst hV
    simp (maxSteps:=9^9) (disch:=omega) [-List.map_replicate,-List.map_set,-List.getD_eq_getElem?_getD,-getElem?_pos,-getElem?_neg,om,h1,hg,hA,hu,h2,h3]
  ·rw [show few1 h=false by unfold few1;rw [decide_eq_false h2,Bool.false_and],Bool.false_and,Bool.false_and] at hV
   subst hV
   simp (maxSteps:=9^9) (disch:=omega) [-List.map_replicate,-List.map_set,-List.getD_eq_getElem?_getD,-getElem?_pos,-getElem?_neg,om,h1,hg,hA,hu,h2]
 ·rw [List.drop_eq_nil_of_le (by omega),List.all_nil,Bool.true_and] at hV
  subst hV
  simp (maxSteps:=9^9) (disch:=omega) [-List.map_replicate,-List.map_set,-List.getD_eq_getElem?_getD,-getElem?_pos,-getElem?_neg,om,h1,hA]
  omega
theorem few_small {l:List Hg} (hi: ∀h∈l,h.inn) (h:fewH l=true):SmallH l:=by
 unfold fewH at h
 simp only [Bool.and_eq_true,List.all_eq_true,decide_eq_true_eq] at h
 obtain ⟨h1,h2⟩:=h
 refine ⟨hi,fun x hx=> ?_,fun x hx=> ?_,by omega⟩
 ·have:=h1 x hx
  unfold few1 at this
  simp only [Bool.and_eq_true,decide_eq_true_eq] at this
  omega
 ·have:=h1 x hx
  unfold few1 at this
  simp only [Bool.and_eq_true,decide_eq_true_eq] at this
  omega
def cpH (h:Hg):Hg:=⟨h.kind,h.text,h.units,if h.units= [] then some false else none,if h.units= [] then 0 else 1⟩
theorem small_cp {l:List Hg} (h:SmallH l):SmallH (l.map cpH):=by
 refine ⟨fun x hx=> ?_,fun x hx=> ?_,fun x hx=> ?_,by simp;exact h.ll⟩
 ·obtain ⟨y,hy,rfl⟩:=List.mem_map.1 hx
  have:=h.inn y hy
  exact ⟨fun hne=>by simp only [cpH] at hne⊢;rw [if_neg hne],this.ul,this.tl⟩
 ·obtain ⟨y,hy,rfl⟩:=List.mem_map.1 hx
  exact h.tl y hy
 ·obtain ⟨y,hy,rfl⟩:=List.mem_map.1 hx
  exact h.ul y hy
theorem checkGo_cp: ∀(l:List Hg) (p:Option Hg),checkGo (p.map cpH) (l.map cpH)=checkGo p l
 | [],_=>rfl
 | h::r,p=>by
  have ih:=checkGo_cp r (some h)
  have e1:validH (cpH h)=validH h:=rfl
  have e2:befH (p.map cpH) (cpH h)=befH p h:=by cases p <;> rfl
  simp only [List.map_cons,checkGo,e1,e2]
  rw [←ih];rfl
theorem checkP_cp (l:List Hg):checkP (l.map cpH)=checkP l:=by
 unfold checkP
 rw [List.length_map,←checkGo_cp l none];rfl
theorem findGo_cp (k:Int) (t:Str): ∀(l:List Hg) (i:Nat),findGo k t (l.map cpH) i=findGo k t l i
 | [],_=>rfl
 | h::r,i=>by
  have e:isH k t (cpH h)=isH k t h:=rfl
  simp only [List.map_cons,findGo,e,findGo_cp k t r (i+1)]
theorem findH_cp (l:List Hg) (k:Int) (t:Str):findH (l.map cpH) k t=findH l k t:=by
 unfold findH
 rw [checkP_cp,findGo_cp]
theorem underGo_cp (k:Int) (t:Str): ∀(l:List Hg) (i f n:Nat),underGo (inH k t) (l.map cpH) i f n=underGo (inH k t) l i f n
 | [],_,_,_=>rfl
 | h::r,i,f,n=>by
  have e:inH k t (cpH h)=inH k t h:=rfl
  simp only [List.map_cons,underGo,e,underGo_cp k t r]
theorem underH_cp (l:List Hg) (k:Int) (t:Str):underH (l.map cpH) k t=underH l k t:=by
 unfold underH
 rw [checkP_cp,underGo_cp]
theorem ansCopy48 (nl:Option Bool) (z:Nat) (l:List Hg) (hz:l≠ []→z=3) (hs:SmallH l):ansF cfg 33 [.lst nl z (hgsA l)] []=some (.lst none 3 (hgsA (l.map cpH)), []):=by
 refine ans_of_wp fn33 low33 ?_
 have hE: ∀i (h:i<l.length),(hgsA l)[i]?=some (hgA l[i]):=fun i h=>get_map _ _ h
 have hA:(hgsA l).length=l.length:=hgsA_len l
 have hll:=hs.ll
 obtain ⟨OUT,hO⟩: ∃O,O=hgsA (l.map cpH):=⟨_,rfl⟩
 rw [←hO]
 generalize hgsA l=A at*
 obtain ⟨TK,hTK⟩: ∃TK:Nat→List AV,TK=fun i=>hgsA ((l.take i).map cpH):=⟨_,rfl⟩
 have hT0:TK 0= []:=by rw [hTK];rfl
 have hTn:TK l.length=OUT:=by rw [hTK,hO];simp only [List.take_length]
 have hTl: ∀i,i≤l.length→(TK i).length=i:=fun i hi=>by rw [hTK];simp;omega
 have hTp: ∀i,plainAll (TK i)=true:=fun i=>by rw [hTK];exact plain_hgsA _
 have hTs: ∀i (h:i<l.length),TK (i+1)=TK i++ [hgA (cpH l[i])]:=fun i h=>by
  rw [hTK]
  simp only
  rw [List.take_succ_eq_append_getElem h,List.map_append]
  unfold hgsA
  rw [List.map_append];rfl
 clear hTK hO
 simp (maxSteps:=9^9) (disch:=omega) [-List.map_replicate,-List.map_set,-List.getD_eq_getElem?_getD,-getElem?_pos,-getElem?_neg,om,ir33]
 refine Wp.loopM (fun (i:Nat)=>l.length-i) (fun i=> [some (.lst nl z A),none,some (.osl 0 i),some (.int .i64 i),none,none,none,none,none,none,none]) (fun i=> [.sl ⟨false,some 26,none⟩ 3 (TK i)]) (fun i=>i≤l.length) ?_ 0 (by omega) (by simp) (by simp [hT0])
 intro i hil
 have hDl:=hTl i hil
 have hDp:=hTp i
 by_cases h1:i<l.length
 ·have hg:=hE i h1
  obtain rfl:=hz (ne_of_lt h1)
  have hm:=List.getElem_mem h1
  have hul:=hs.ul _ hm
  have huz:=(hs.inn _ hm).uz
  have hu:=intsA_len l[i].units
  have hup:=plain_intsA l[i].units
  have hts:=hTs i h1
  clear hE hz hTs hTl hTp hT0 hTn
  generalize l[i]=h at*
  unfold hgA at hg
  have hcp:hgA (cpH h)= .agg [.int .i64 h.kind,.str h.text,.lst (if h.units= [] then some false else none) (if h.units= [] then 0 else 1) (intsA h.units)]:=rfl
  rw [hcp] at hts
  clear hcp
  cases hw:h.units with
  | nil=>
   rw [hw] at hg hts
   simp only [if_true,intsA,List.map_nil] at hg hts
   simp (maxSteps:=9^9) (disch:=omega) [-List.map_replicate,-List.map_set,-List.getD_eq_getElem?_getD,-getElem?_pos,-getElem?_neg,om,h1,hg,hA,hDl,hDp,splice]
   exact ⟨i+1,by omega,by omega,⟨rfl,by simp⟩,hts.symm⟩
  | cons x r=>
   have huz:=huz (by rw [hw];simp)
   rw [hw] at hg hts hu hup
   rw [huz] at hg
   rw [if_neg (by simp),if_neg (by simp)] at hts
   have e:intsA (x::r)= .int .i64 x::intsA r:=rfl
   rw [e] at hg hts hu hup
   have hrl:=intsA_len r
   have hrp:=plain_intsA r
   have hrl2:r.length+1=h.units.length:=by rw [hw];rfl
   generalize intsA r=R at*
   simp (maxSteps:=9^9) (disch:=omega) [-List.map_replicate,-List.map_set,-List.getD_eq_getElem?_getD,-getElem?_pos,-getElem?_neg,om,h1,hg,hA,hDl,hDp,hrl,hrp,splice]
   exact ⟨i+1,by omega,by omega,⟨rfl,by simp⟩,hts.symm⟩
 ·obtain rfl:i=l.length:=by omega
  rw [hTn] at hDl hDp⊢
  clear hTs hTl hTp hT0 hTn
  simp (maxSteps:=9^9) (disch:=omega) [-List.map_replicate,-List.map_set,-List.getD_eq_getElem?_getD,-getElem?_pos,-getElem?_neg,om,h1,hA,hDl,hDp]
end Go.Proofs.YtnlndhjfmghajaaGreatDoor
