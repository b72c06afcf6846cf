/- Valid headings and lists: -/
import Derived.Test.YtnlndhjfmghajaaGreatDoorIxaM
set_option linter.all false
namespace Go.Proofs.YtnlndhjfmghajaaGreatDoor
open Go.Am
set_option maxRecDepth 10000
set_option maxHeartbeats 4000000
def enI (e:Int×Nat):AV×AV×Nat:=(.int .i64 e.1,.bool true,e.2)
theorem findA_no (u:Int): ∀(m:List (Int×Nat)) (i:Nat),u∉m.map Prod.fst→findA (eqRec cfg 20 3) (.int .i64 u) (m.map enI) i=some none
 | [],i,_=>rfl
 | e::r,i,h=>by
  simp only [List.map_cons,List.mem_cons,not_or] at h
  have ih:=findA_no u r (i+1) h.2
  have he:eqRec cfg 20 3 (.int .i64 u) (enI e).1=some (u==e.1):=by simp (config:={maxSteps:=1000000}) (disch:=omega) [-List.map_replicate,-List.map_set,-List.getD_eq_getElem?_getD,-getElem?_pos,-getElem?_neg,wrap_i64,le_strLim,le_sliceLim,le_buildLim,le_sliceLimI,enI]
  have hs:(u==e.1)=false:=by simpa using h.1
  simp only [List.map_cons,findA,he,hs];exact ih
theorem findA_yes (u:Int): ∀(m:List (Int×Nat)) (i:Nat),u∈m.map Prod.fst→ ∃j e,findA (eqRec cfg 20 3) (.int .i64 u) (m.map enI) i=some (some (j,enI e))
 | e::r,i,h=>by
  have he:eqRec cfg 20 3 (.int .i64 u) (enI e).1=some (u==e.1):=by simp (config:={maxSteps:=1000000}) (disch:=omega) [-List.map_replicate,-List.map_set,-List.getD_eq_getElem?_getD,-getElem?_pos,-getElem?_neg,wrap_i64,le_strLim,le_sliceLim,le_buildLim,le_sliceLimI,enI]
  simp only [List.map_cons,findA,he]
  by_cases hs:u=e.1
  ·exact ⟨i,e,by simp [hs]⟩
  ·have hs2:(u==e.1)=false:=by simpa using hs
   have hr:u∈r.map Prod.fst:=by
    simp only [List.map_cons,List.mem_cons] at h
    exact h.resolve_left hs
   obtain ⟨j,e',h'⟩:=findA_yes u r (i+1) hr
   exact ⟨j,e',by rw [hs2];exact h'⟩
theorem lookI {bs:List Box} {k clock:Nat} {m:List (Int×Nat)} (h:Box.at bs k= .mp (m.map enI) clock) (u:Int):lookupA cfg (cfg.ti 146) (.mapv k) (.int .i64 u) false bs=some (.bool (decide (u∈m.map Prod.fst)),.none):=by
 by_cases hu:u∈m.map Prod.fst
 ·obtain ⟨j,e,hf⟩:=findA_yes u m 0 hu
  rw [decide_eq_true hu]
  simp [lookupA,entriesA,foundA,zeroA,keyFine,h,hf,-eqRec,enI]
 ·have hf:=findA_no u m 0 hu
  rw [decide_eq_false hu]
  simp [lookupA,entriesA,foundA,zeroA,keyFine,h,hf,-eqRec]
theorem updI {bs:List Box} {k clock:Nat} {m:List (Int×Nat)} (h:Box.at bs k= .mp (m.map enI) clock) (u:Int) (hu:u∉m.map Prod.fst):mapUpdateA cfg (cfg.ti 146) (.mapv k) (.int .i64 u) (.bool true) bs=some (.tup [],.upd k (.mp ((m++ [(u,clock)]).map enI) (clock+1))):=by
 have hf:=findA_no u m 0 hu
 simp [mapUpdateA,keyFine,keyAV,cellAV,valOk,h,hf,-eqRec,enI]
theorem fv_I (n:Nat):forgetVal n∘enI=enI:=by
 funext x
 simp [forgetVal,enI,forget]
theorem mpU_I (n:Nat) (m:List (Int×Nat)):mpUnder n (m.map enI)=true:=by
 apply mpUnder_map
 intro x;simp [enI,AV.under]
theorem ansValid (h:Hg) (hi:h.inn) (ht:h.text.length<1000000) (hul:h.units.length<1000000):ansF cfg 75 [hgA h] []=some (.bool (validH h), []):=by
 refine ans_of_wp fn75 low75 ?_
 obtain ⟨k,t,us,un,uz⟩:=h
 have w:=ansParts t ht
 have huz:=hi.uz
 unfold hgA validH
 simp only at*
 have hl:(intsA us).length=us.length:=intsA_len us
 have hE: ∀i (h:i<us.length),(intsA us)[i]?=some (.int .i64 us[i]):=fun i h=>get_map _ _ h
 have hpl:=plain_intsA us
 generalize intsA us=A at*
 by_cases h1:1≤k∧k≤3∧t.length≤4096∧1≤us.length∧us.length≤1024
 ·rw [decide_eq_true h1,Bool.true_and]
  generalize partsP t=P at*
  have hP:(∃e:P= [t],True)∨(P≠ [t]∧(P= []∨(∃p,P= [p]∧p≠t)∨ ∃p q r,P=p::q::r)):=by
   by_cases e:P= [t]
   ·exact .inl ⟨e,trivial⟩
   ·refine .inr ⟨e,?_⟩
    match P,e with
    | [],_=>exact .inl rfl
    | [p],e=>exact .inr (.inl ⟨p,rfl,fun h=>e (by rw [h])⟩)
    | p::q::r,_=>exact .inr (.inr ⟨p,q,r,rfl⟩)
  rcases hP with ⟨rfl,_⟩ | ⟨hne,hP⟩
  case inr=>
   rw [decide_eq_false hne,Bool.false_and]
   clear hne
   rcases hP with rfl | ⟨p,rfl,hp⟩ | ⟨p,q,r,rfl⟩
   ·simp (maxSteps:=9^9) (disch:=omega) [-List.map_replicate,-List.map_set,-List.getD_eq_getElem?_getD,-getElem?_pos,-getElem?_neg,om,ir75,splice,hl,w,strA]
   ·simp (maxSteps:=9^9) (disch:=omega) [-List.map_replicate,-List.map_set,-List.getD_eq_getElem?_getD,-getElem?_pos,-getElem?_neg,om,ir75,splice,hl,w,strA,hp]
   ·have e:(strA (p::q::r)).length=r.length+2:=by simp [strA]
    have e2:(strA (p::q::r))[0]?=some (.str p):=rfl
    generalize strA (p::q::r)=D at*
    simp (maxSteps:=9^9) (disch:=omega) [-List.map_replicate,-List.map_set,-List.getD_eq_getElem?_getD,-getElem?_pos,-getElem?_neg,om,ir75,splice,hl,w,e,e2]
  rw [decide_eq_true rfl,Bool.true_and]
  have w':ansF cfg 13 [.str t] []=some (.lst none 1 [.str t], []):=w
  obtain ⟨V,hV⟩: ∃V,V=unitsGo [] us:=⟨_,rfl⟩
  rw [←hV]
  simp (maxSteps:=9^9) (disch:=omega) [-List.map_replicate,-List.map_set,-List.getD_eq_getElem?_getD,-getElem?_pos,-getElem?_neg,om,ir75,splice,hl,w',makeMapA]
  obtain rfl:=huz (by intro h;rw [h] at h1;simp at h1)
  refine Wp.loopM (fun (a:Nat×Option AV)=>us.length-a.1) (fun a=> [none,none,none,none,some (.mapv 1),none,none,none,none,none,some (.lst un 1 A),some (.int .i64 us.length),some (.int .i64 a.1),none,a.2,none]) (fun a=> [.var 26 [.int .i64 k,.str t,.lst un 1 A],.mp ((us.take a.1).zipIdx.map enI) a.1]) (fun a=>V=unitsGo (us.take a.1) (us.drop a.1)∧a.1≤us.length) ?_ (0,none) ⟨by simpa using hV,by omega⟩ (by simp) (by simp)
  clear hV
  rintro ⟨i,o⟩ ⟨hV,hil⟩
  simp only at hV hil⊢
  by_cases h2:i<us.length
  ·have hg:=hE i h2
   rw [List.drop_eq_getElem_cons h2] at hV
   have hz:(us.take (i+1)).zipIdx=(us.take i).zipIdx++ [(us[i],i)]:=by
    rw [List.take_succ_eq_append_getElem h2,List.zipIdx_append]
    simp
    omega
   have hM:((us.take i).zipIdx).map Prod.fst=us.take i:=by simp
   have hts:=List.take_succ_eq_append_getElem h2
   generalize us[i]=u at*
   simp only [unitsGo] at hV
   have lk:=fun B0 l=>lookI (bs:=B0:: .mp ((us.take i).zipIdx.map enI) i::l) (k:=1) rfl u
   rw [hM] at lk
   simp only [ti146] at lk
   clear hE
   by_cases h3:u<1∨1073741824<u
   ·rw [if_pos (by omega)] at hV
    subst hV
    by_cases h5:u<1
    ·simp (maxSteps:=9^9) (disch:=omega) [-List.map_replicate,-List.map_set,-List.getD_eq_getElem?_getD,-getElem?_pos,-getElem?_neg,om,h2,hg,splice,h5]
    ·have h6:1073741824<u:=by omega
     simp (maxSteps:=9^9) (disch:=omega) [-List.map_replicate,-List.map_set,-List.getD_eq_getElem?_getD,-getElem?_pos,-getElem?_neg,om,h2,hg,splice,h5,h6]
   ·by_cases h4:u∈us.take i
    ·rw [if_pos (.inr (.inr h4))] at hV
     subst hV
     rw [decide_eq_true h4] at lk
     have h5: ¬ u<1:=fun h=>h3 (.inl h)
     have h6: ¬ 1073741824<u:=fun h=>h3 (.inr h)
     simp (maxSteps:=9^9) (disch:=omega) [-List.map_replicate,-List.map_set,-List.getD_eq_getElem?_getD,-getElem?_pos,-getElem?_neg,om,h2,hg,splice,h5,h6,lk]
    ·have up:=fun B0 l=>updI (bs:=B0:: .mp ((us.take i).zipIdx.map enI) i::l) (k:=1) rfl u (by rw [hM];exact h4)
     rw [←hz] at up
     simp only [ti146] at up
     have h5: ¬ u<1:=fun h=>h3 (.inl h)
     have h6: ¬ 1073741824<u:=fun h=>h3 (.inr h)
     rw [if_neg (fun h=>h.elim h5 fun h=>h.elim h6 h4),←hts] at hV
     rw [decide_eq_false h4] at lk
     generalize hW:us.take (i+1)=W at*
     simp (maxSteps:=9^9) (disch:=omega) [-List.map_replicate,-List.map_set,-List.getD_eq_getElem?_getD,-getElem?_pos,-getElem?_neg,om,h2,hg,splice,h5,h6,lk,up,fv_I,mpU_I]
     exact ⟨i+1,⟨by rw [hW];exact hV,by omega⟩,by omega,by simp,by rw [hW],rfl⟩
  ·obtain rfl:i=us.length:=by omega
   rw [List.drop_eq_nil_of_le (Nat.le_refl _)] at hV
   simp only [unitsGo] at hV
   subst hV
   simp (maxSteps:=9^9) (disch:=omega) [-List.map_replicate,-List.map_set,-List.getD_eq_getElem?_getD,-getElem?_pos,-getElem?_neg,om,hl]
 ·rw [decide_eq_false h1,Bool.false_and]
  simp (maxSteps:=9^9) (disch:=omega) [-List.map_replicate,-List.map_set,-List.getD_eq_getElem?_getD,-getElem?_pos,-getElem?_neg,om,ir75,splice,hl]
  intros
  exfalso
  omega
structure SmallH (l:List Hg):Prop where
 inn: ∀h∈l,h.inn
 tl: ∀h∈l,h.text.length<1000000
 ul: ∀h∈l,h.units.length<1000000
 ll:l.length<1000000
def prevH (l:List Hg) (i:Nat):Option Hg:=if i=0 then none else l[i-1]?
theorem prevH_succ (l:List Hg) {i:Nat} (h:i<l.length):prevH l (i+1)=some l[i]:=by
 unfold prevH
 rw [if_neg (by omega)]
 simp [h]
theorem ansCheckH (nl:Option Bool) (z:Nat) (l:List Hg) (hz:l≠ []→z=3) (hs:SmallH l):ansF cfg 30 [.lst nl z (hgsA l)] []=some (.int .i64 (checkP l), []):=by
 refine ans_of_wp fn30 low30 ?_
 have hl:(hgsA l).length=l.length:=hgsA_len l
 have hE: ∀i (h:i<l.length),(hgsA l)[i]?=some (hgA l[i]):=fun i h=>get_map _ _ h
 have hll:=hs.ll
 obtain ⟨V,hV⟩: ∃V,V=checkP l:=⟨_,rfl⟩
 rw [←hV]
 unfold checkP at hV
 generalize hgsA l=A at*
 by_cases h1:1024<l.length
 ·rw [if_pos h1] at hV
  subst hV
  simp (maxSteps:=9^9) (disch:=omega) [-List.map_replicate,-List.map_set,-List.getD_eq_getElem?_getD,-getElem?_pos,-getElem?_neg,om,ir30,h1,hl]
 rw [if_neg h1] at hV
 simp (maxSteps:=9^9) (disch:=omega) [-List.map_replicate,-List.map_set,-List.getD_eq_getElem?_getD,-getElem?_pos,-getElem?_neg,om,ir30,h1,hl]
 refine Wp.loopM (fun (a:Nat×Option AV)=>l.length-a.1) (fun a=> [some (.lst nl z A),none,none,none,none,some (.lst nl z A),some (.int .i64 l.length),some (.int .i64 a.1),none,none,none,none,a.2,none]) (fun _=> []) (fun a=>V=checkGo (prevH l a.1) (l.drop a.1)∧a.1≤l.length) ?_ (0,none) ⟨by simpa [prevH] using hV,by omega⟩ (by simp) rfl
 clear hV
 rintro ⟨i,o⟩ ⟨hV,hil⟩
 simp only at hV hil⊢
 by_cases h2:i<l.length
 ·have hg:=hE i h2
  obtain rfl:=hz (ne_of_lt h2)
  have hm:=List.getElem_mem h2
  rw [List.drop_eq_getElem_cons h2] at hV
  have hp:=prevH_succ l h2
  have w1:=ansValid l[i] (hs.inn _ hm) (hs.tl _ hm) (hs.ul _ hm)
  have w2: ∀p,prevH l i=some p→A[i-1]?=some (hgA p)∧ansF cfg 17 [hgA p,hgA l[i]] []=some (.int .i64 (cmpH p.kind p.text l[i].kind l[i].text), []):=fun p hp=>by
   unfold prevH at hp
   split at hp
   ·cases hp
   ·rename_i h0
    rw [List.getElem?_eq_getElem (by omega)] at hp
    obtain rfl:=Option.some.inj hp
    have hm2:l[i-1]∈l:=List.getElem_mem _
    exact ⟨hE _ (by omega),ansCmp _ _ (hs.tl _ hm2) (hs.tl _ hm)⟩
  have hq:i≠0→ ∃p,prevH l i=some p:=fun h0=>⟨l[i-1],by unfold prevH;rw [if_neg h0,List.getElem?_eq_getElem (by omega)]⟩
  have hq0:i=0→prevH l i=none:=fun h0=>by unfold prevH;rw [if_pos h0]
  have fin: ∃a,V=V→(checkGo (some l[i]) (l.drop (i+1))=checkGo (prevH l a) (l.drop a)∧a≤l.length)∧a=i+1:=⟨i+1,fun _=>⟨⟨by rw [hp],by omega⟩,rfl⟩⟩
  have hplu:=plain_intsA l[i].units
  have hnx:checkGo (some l[i]) (l.drop (i+1))=checkGo (prevH l (i+1)) (l.drop (i+1)):=by rw [hp]
  simp only [checkGo] at hV
  clear hE hz hp fin
  generalize checkGo (some l[i]) (l.drop (i+1))=R at*
  generalize l[i]=h at*
  unfold hgA at hg w1
  cases hv:validH h with
  | false=>
   rw [hv] at w1 hV
   simp only [if_true] at hV
   subst hV
   simp (maxSteps:=9^9) (disch:=omega) [-List.map_replicate,-List.map_set,-List.getD_eq_getElem?_getD,-getElem?_pos,-getElem?_neg,om,h2,hg,splice,w1,hplu]
  | true=>
   rw [hv] at w1 hV
   rw [if_neg (by decide)] at hV
   by_cases h0:i=0
   ·rw [hq0 h0] at hV
    simp only [befH,Bool.true_eq_false,if_false] at hV
    subst h0
    simp (maxSteps:=9^9) (disch:=omega) [-List.map_replicate,-List.map_set,-List.getD_eq_getElem?_getD,-getElem?_pos,-getElem?_neg,om,h2,hg,splice,w1,hplu]
    exact ⟨1,⟨by rw [hV];exact hnx,by omega⟩,by omega,by simp⟩
   ·obtain ⟨p,hp⟩:=hq h0
    obtain ⟨g2,w2⟩:=w2 p hp
    rw [hp] at hV
    simp only [befH] at hV
    have hplp:=plain_intsA p.units
    unfold hgA at g2 w2
    obtain ⟨c,hc⟩: ∃c,c=cmpH p.kind p.text h.kind h.text:=⟨_,rfl⟩
    simp only [←hc] at hV w2
    clear hc
    have e1:((i:Int)-1).toNat=i-1:=by omega
    have h3:0<i:=by omega
    by_cases h4:c<0
    ·rw [decide_eq_true h4,if_neg (by decide)] at hV
     simp (maxSteps:=9^9) (disch:=omega) [-List.map_replicate,-List.map_set,-List.getD_eq_getElem?_getD,-getElem?_pos,-getElem?_neg,om,h2,hg,g2,e1,h3,h4,splice,w1,w2,hplu,hplp]
     exact ⟨i+1,⟨by rw [hV];exact hnx,by omega⟩,by omega,by simp⟩
    ·rw [decide_eq_false h4,if_pos rfl] at hV
     subst hV
     simp (maxSteps:=9^9) (disch:=omega) [-List.map_replicate,-List.map_set,-List.getD_eq_getElem?_getD,-getElem?_pos,-getElem?_neg,om,h2,hg,g2,e1,h3,h4,splice,w1,w2,hplu,hplp]
 ·obtain rfl:i=l.length:=by omega
  rw [List.drop_eq_nil_of_le (Nat.le_refl _)] at hV
  simp only [checkGo] at hV
  subst hV
  simp (maxSteps:=9^9) (disch:=omega) [-List.map_replicate,-List.map_set,-List.getD_eq_getElem?_getD,-getElem?_pos,-getElem?_neg,om,h2]
theorem ansHasR48 (nl:Option Bool) (z:Nat) (L:List Int) (hz:L≠ []→z=1) (hL:L.length<1000000) (u:Int):ansF cfg 107 [.lst nl z (intsA L),.int .i64 u] []=some (.bool (decide (u∈L)), []):=by
 refine ans_of_wp fn107 low107 ?_
 obtain ⟨V,hV⟩: ∃V,V=decide (u∈L):=⟨_,rfl⟩
 rw [←hV]
 simp (maxSteps:=9^9) (disch:=omega) [-List.map_replicate,-List.map_set,-List.getD_eq_getElem?_getD,-getElem?_pos,-getElem?_neg,om,ir107]
 refine Wp.loopM (fun (i:Nat)=>L.length-i) (fun i=> [some (.lst nl z (intsA L)),some (.int .i64 u),none,some (.int .i64 i),none,none]) (fun _=> []) (fun i=>V=decide (u∈L.drop i)∧i≤L.length) ?_ 0 ⟨by simpa using hV,by omega⟩ (by simp) rfl
 clear hV
 rintro i ⟨hV,hi⟩
 by_cases h1:i<L.length
 ·have hg:(intsA L)[i]?=some (.int .i64 L[i]):=get_map _ _ h1
  obtain rfl:=hz (ne_of_lt h1)
  rw [List.drop_eq_getElem_cons h1] at hV
  generalize L[i]=x at*
  by_cases he:x=u
  ·subst he
   rw [decide_eq_true (List.mem_cons_self)] at hV
   subst hV
   simp (maxSteps:=9^9) (disch:=omega) [-List.map_replicate,-List.map_set,-List.getD_eq_getElem?_getD,-getElem?_pos,-getElem?_neg,om,h1,hg]
  ·have:decide (u∈x::L.drop (i+1))=decide (u∈L.drop (i+1)):=by
    rw [decide_eq_decide,List.mem_cons]
    exact ⟨fun h=>h.resolve_left fun h=>he h.symm,.inr⟩
   rw [this] at hV
   simp (maxSteps:=9^9) (disch:=omega) [-List.map_replicate,-List.map_set,-List.getD_eq_getElem?_getD,-getElem?_pos,-getElem?_neg,om,h1,hg,he]
   exact ⟨i+1,⟨by simpa using hV,by omega⟩,by omega,by simp⟩
 ·rw [List.drop_eq_nil_of_le (by omega)] at hV
  simp at hV
  subst hV
  simp (maxSteps:=9^9) (disch:=omega) [-List.map_replicate,-List.map_set,-List.getD_eq_getElem?_getD,-getElem?_pos,-getElem?_neg,om,h1]
theorem ansRight48 (h:Hg) (hi:h.inn) (ht:h.text.length<1000000) (hul:h.units.length<1000000):ansF cfg 77 [hgA h] []=some (.bool (validH h), []):=by
 refine ans_of_wp fn77 low77 ?_
 obtain ⟨k,t,us,un,uz⟩:=h
 have w:=ansPartsR t ht
 have huz:=hi.uz
 unfold hgA validH
 simp only at*
 have hl:(intsA us).length=us.length:=intsA_len us
 have hE: ∀i (h:i<us.length),(intsA us)[i]?=some (.int .i64 us[i]):=fun i h=>get_map _ _ h
 have hpl:=plain_intsA us
 have hH: ∀i,i≤us.length→uz=1→ ∀u,ansF cfg 107 [.lst un 1 ((intsA us).take i),.int .i64 u] []=some (.bool (decide (u∈us.take i)), []):=fun i hi hz u=>by
  have:=ansHasR48 un 1 (us.take i) (fun _=>rfl) (by simp;omega) u
  rw [show intsA (us.take i)=(intsA us).take i by simp [intsA]] at this
  exact this
 generalize intsA us=A at*
 generalize partsP t=P at*
 have hP:(∃e:P= [t],True)∨(P≠ [t]∧(P= []∨(∃p,P= [p]∧p≠t)∨ ∃p q r,P=p::q::r)):=by
  by_cases e:P= [t]
  ·exact .inl ⟨e,trivial⟩
  ·refine .inr ⟨e,?_⟩
   match P,e with
   | [],_=>exact .inl rfl
   | [p],e=>exact .inr (.inl ⟨p,rfl,fun h=>e (by rw [h])⟩)
   | p::q::r,_=>exact .inr (.inr ⟨p,q,r,rfl⟩)
 rcases hP with ⟨rfl,_⟩ | ⟨hne,hP⟩
 case inr=>
  rw [decide_eq_false hne,Bool.and_false,Bool.false_and]
  clear hne hH
  rcases hP with rfl | ⟨p,rfl,hp⟩ | ⟨p,q,r,rfl⟩
  ·simp (maxSteps:=9^9) (disch:=omega) [-List.map_replicate,-List.map_set,-List.getD_eq_getElem?_getD,-getElem?_pos,-getElem?_neg,om,ir77,splice,hl,w,strA]
  ·simp (maxSteps:=9^9) (disch:=omega) [-List.map_replicate,-List.map_set,-List.getD_eq_getElem?_getD,-getElem?_pos,-getElem?_neg,om,ir77,splice,hl,w,strA,hp]
  ·have e:(strA (p::q::r)).length=r.length+2:=by simp [strA]
   have e2:(strA (p::q::r))[0]?=some (.str p):=rfl
   generalize strA (p::q::r)=D at*
   simp (maxSteps:=9^9) (disch:=omega) [-List.map_replicate,-List.map_set,-List.getD_eq_getElem?_getD,-getElem?_pos,-getElem?_neg,om,ir77,splice,hl,w,e,e2]
 by_cases h1:1≤k∧k≤3∧t.length≤4096∧1≤us.length∧us.length≤1024
 ·rw [decide_eq_true h1,Bool.true_and]
  rw [decide_eq_true rfl,Bool.true_and]
  have w':ansF cfg 14 [.str t] []=some (.lst none 1 [.str t], []):=w
  obtain ⟨V,hV⟩: ∃V,V=unitsGo [] us:=⟨_,rfl⟩
  rw [←hV]
  simp (maxSteps:=9^9) (disch:=omega) [-List.map_replicate,-List.map_set,-List.getD_eq_getElem?_getD,-getElem?_pos,-getElem?_neg,om,ir77,splice,hl,w']
  obtain rfl:=huz (by intro h;rw [h] at h1;simp at h1)
  have hH:=fun i hi=>hH i hi rfl
  refine Wp.loopM (fun (a:Nat×Option AV×Option AV)=>us.length-a.1) (fun a=> [none,some (.ptr 0 0),none,none,some (.int .i64 a.1),none,none,none,none,a.2.1,a.2.2,none]) (fun a=> [.var 26 [.int .i64 k,.str t,.lst un 1 A]]) (fun a=>V=unitsGo (us.take a.1) (us.drop a.1)∧a.1≤us.length) ?_ (0,none,none) ⟨by simpa using hV,by omega⟩ (by simp) (by simp)
  clear hV
  rintro ⟨i,o1,o2⟩ ⟨hV,hil⟩
  simp only at hV hil⊢
  by_cases h2:i<us.length
  ·have hg:=hE i h2
   rw [List.drop_eq_getElem_cons h2] at hV
   have hts:=List.take_succ_eq_append_getElem h2
   have hh:=hH i hil us[i]
   generalize us[i]=u at*
   simp only [unitsGo] at hV
   clear hE hH
   by_cases h3:u<1∨1073741824<u
   ·rw [if_pos (by omega)] at hV
    subst hV
    by_cases h5:u<1
    ·simp (maxSteps:=9^9) (disch:=omega) [-List.map_replicate,-List.map_set,-List.getD_eq_getElem?_getD,-getElem?_pos,-getElem?_neg,om,h2,hg,hl,splice,h5]
    ·have h6:1073741824<u:=by omega
     simp (maxSteps:=9^9) (disch:=omega) [-List.map_replicate,-List.map_set,-List.getD_eq_getElem?_getD,-getElem?_pos,-getElem?_neg,om,h2,hg,hl,splice,h5,h6]
   ·have h5: ¬ u<1:=fun h=>h3 (.inl h)
    have h6: ¬ 1073741824<u:=fun h=>h3 (.inr h)
    by_cases h4:u∈us.take i
    ·rw [if_pos (.inr (.inr h4))] at hV
     subst hV
     rw [decide_eq_true h4] at hh
     simp (maxSteps:=9^9) (disch:=omega) [-List.map_replicate,-List.map_set,-List.getD_eq_getElem?_getD,-getElem?_pos,-getElem?_neg,om,h2,hg,hl,splice,h5,h6,hh]
    ·rw [if_neg (fun h=>h.elim h5 fun h=>h.elim h6 h4),←hts] at hV
     rw [decide_eq_false h4] at hh
     simp (maxSteps:=9^9) (disch:=omega) [-List.map_replicate,-List.map_set,-List.getD_eq_getElem?_getD,-getElem?_pos,-getElem?_neg,om,h2,hg,hl,splice,h5,h6,hh]
     exact ⟨i+1,⟨hV,by omega⟩,by omega,by simp⟩
  ·obtain rfl:i=us.length:=by omega
   rw [List.drop_eq_nil_of_le (Nat.le_refl _)] at hV
   simp only [unitsGo] at hV
   subst hV
   clear hH
   simp (maxSteps:=9^9) (disch:=omega) [-List.map_replicate,-List.map_set,-List.getD_eq_getElem?_getD,-getElem?_pos,-getElem?_neg,om,hl]
 ·rw [decide_eq_false h1,Bool.false_and,Bool.false_and]
  clear hH
  have w':ansF cfg 14 [.str t] []=some (.lst none 1 [.str t], []):=w
  simp (maxSteps:=9^9) (disch:=omega) [-List.map_replicate,-List.map_set,-List.getD_eq_getElem?_getD,-getElem?_pos,-getElem?_neg,om,ir77,splice,hl,w']
  all_goals (intros;exfalso;omega)
end Go.Proofs.YtnlndhjfmghajaaGreatDoor
