/- The law IndexKeys. -/
import Derived.Test.YtnlndhjfmghajaaGreatDoorIxcM
import Derived.Test.YtnlndhjfmghajaaGreatDoorAwkM
set_option linter.all false
namespace Go.Proofs.YtnlndhjfmghajaaGreatDoor
open Go.Am
set_option maxRecDepth 10000
set_option maxHeartbeats 4000000
theorem rune_ascii (s:Str) {i:Nat} (h:i<s.length) (hc:(s.getD i 0).toNat<128):runeAt s i=((s.getD i 0).toNat,1):=by
 unfold runeAt
 have hg:(ByteArray.mk s.toArray).get! i=s.getD i 0:=by
  show s.toArray[i]! =_
  simp [List.getD_eq_getElem?_getD]
  rfl
 simp only [Utf8.decode,Nat.add_zero,hg,hc,if_true]
def lowD (d:UInt8):Prop:=(97≤d.toNat∧d.toNat≤122)∨(48≤d.toNat∧d.toNat≤57)
theorem ansRune1 (d:UInt8) (h:lowD d):ansF cfg 43 [.int .i32 (d.toNat:Int)] []=some (.bool false, []):=by
 refine ans_of_wp fn43 low43 ?_
 rcases h with ⟨h1,h2⟩ | ⟨h1,h2⟩
 ·simp (maxSteps:=9^9) (disch:=omega) [-List.map_replicate,-List.map_set,-List.getD_eq_getElem?_getD,-getElem?_pos,-getElem?_neg,om,ir43,h1,h2]
 ·simp (maxSteps:=9^9) (disch:=omega) [-List.map_replicate,-List.map_set,-List.getD_eq_getElem?_getD,-getElem?_pos,-getElem?_neg,om,ir43,h1,h2]
theorem ansRunes (k:Str) (hk: ∀d∈k,lowD d) (hl:k.length<1000000):ansF cfg 42 [.str k,.fn 43 [] []] []=some (.bool false, []):=by
 have h1:ansF cfg 123 [.str k,.fn 43 [] [],.bool true] []=some (.int .i64 (-1), []):=by
  refine ans_of_wp fn123 low123 ?_
  simp (maxSteps:=9^9) (disch:=omega) [-List.map_replicate,-List.map_set,-List.getD_eq_getElem?_getD,-getElem?_pos,-getElem?_neg,om,ir123,rangeA]
  refine Wp.loopM (fun (i:Nat)=>k.length-i) (fun i=> [none,some (.fn 43 [] []),some (.bool true),none,none,none,some (.itv 0),none,none,none,none]) (fun i=> [.iter (.str k i)]) (fun i=>i≤k.length) ?_ 0 (by omega) (by simp) rfl
  intro i hi
  by_cases h2:i<k.length
  ·have hg:k.getD i 0=k[i]:=by simp [List.getD_eq_getElem?_getD,h2]
   have hd:=hk _ (List.getElem_mem h2)
   have hr:=rune_ascii k h2 (by rw [hg];unfold lowD at hd;omega)
   rw [hg] at hr
   have hw:=ansRune1 k[i] hd
   generalize k[i]=d at*
   simp (maxSteps:=9^9) (disch:=omega) [-List.map_replicate,-List.map_set,-List.getD_eq_getElem?_getD,-getElem?_pos,-getElem?_neg,om,h2,hr,hw]
  ·obtain rfl:i=k.length:=by omega
   simp (maxSteps:=9^9) (disch:=omega) [-List.map_replicate,-List.map_set,-List.getD_eq_getElem?_getD,-getElem?_pos,-getElem?_neg,om,h2]
 have h2:ansF cfg 80 [.str k,.fn 43 [] []] []=some (.int .i64 (-1), []):=by
  refine ans_of_wp fn80 low80 ?_
  simp (maxSteps:=9^9) (disch:=omega) [-List.map_replicate,-List.map_set,-List.getD_eq_getElem?_getD,-getElem?_pos,-getElem?_neg,om,ir80,h1]
 refine ans_of_wp fn42 low42 ?_
 simp (maxSteps:=9^9) (disch:=omega) [-List.map_replicate,-List.map_set,-List.getD_eq_getElem?_getD,-getElem?_pos,-getElem?_neg,om,ir42,h2]
def partOk (s:Str):Prop:=s≠ []∧(59:UInt8)∉s∧trimB s=s∧s.length<1000000
theorem part_head {s:Str} (h:partOk s):([32]:Str).isPrefixOf s=false:=by
 obtain ⟨h1,_,h3,_⟩:=h
 cases s with
 | nil=>exact absurd rfl h1
 | cons x r=>
  have:=trimB_head (s:=x::r) h3
  simp only [List.isPrefixOf,Bool.and_true]
  simpa using Ne.symm this
theorem part_last {s:Str} (h:partOk s): ∃u x,s=u++ [x]∧x≠32:=by
 obtain ⟨h1,_,h3,_⟩:=h
 rcases List.eq_nil_or_concat s with rfl | ⟨u,x,rfl⟩
 ·exact absurd rfl h1
 ·refine ⟨u,x,by simp,?_⟩
  have:=trimB_last (s:=u.concat x) (c:=x) (by rw [h3];simp)
  exact this
theorem ansSuf (u:Str) (x:UInt8) (hx:x≠32) (hl:u.length<1000000):ansF cfg 47 [.str (u++ [x]),.str [32]] []=some (.bool false, []):=by
 have h:ansF cfg 83 [.str (u++ [x]),.str [32]] []=some (.bool false, []):=by
  refine ans_of_wp fn83 low83 ?_
  have hl2:(u++ [x]).length=u.length+1:=by simp
  have hd:((u++ [x]).take (u.length+1)).drop u.length= [x]:=by rw [List.take_of_length_le (by simp),List.drop_left' rfl]
  have hd2:(u++ [x]).drop u.length= [x]:=List.drop_left' rfl
  have e1:((u.length:Int)+1-1).toNat=u.length:=by omega
  generalize u++ [x]=s at*
  simp (maxSteps:=9^9) (disch:=omega) [-List.map_replicate,-List.map_set,-List.getD_eq_getElem?_getD,-getElem?_pos,-getElem?_neg,om,ir83,hl2,hd,hd2,e1,hx]
 refine ans_of_wp fn47 low47 ?_
 simp (maxSteps:=9^9) (disch:=omega) [-List.map_replicate,-List.map_set,-List.getD_eq_getElem?_getD,-getElem?_pos,-getElem?_neg,om,ir47,h]
theorem ansPart1 (s:Str) (h:partOk s):ansF cfg 45 [.str s] []=some (.bool false, []):=by
 refine ans_of_wp fn45 low45 ?_
 have w1:ansF cfg 46 [.str s,.str [59]] []=some (.bool false, []):=by
  refine ans_of_wp fn46 low46 ?_
  have h2:=ansIndexB s 59 (by have:=h.2.2.2;omega)
  have h3:Lib.indexByte s 59= -1:=by
   have:=h.2.1
   clear h2 h
   induction s with
   | nil=>rfl
   | cons x r ih=>
    simp only [List.mem_cons,not_or] at this
    have hx:(x==59)=false:=by simpa using Ne.symm this.1
    simp only [Lib.indexByte,hx,ih this.2];rfl
  rw [h3] at h2
  simp (maxSteps:=9^9) (disch:=omega) [-List.map_replicate,-List.map_set,-List.getD_eq_getElem?_getD,-getElem?_pos,-getElem?_neg,om,ir46,h2]
 have w2:=ansHasPre s [32] h.2.2.2 (by simp)
 rw [part_head h] at w2
 obtain ⟨u,x,rfl,hx⟩:=part_last h
 have w3:=ansSuf u x hx (by have:=h.2.2.2;simp at this;omega)
 have hne:(u++ [x]).isEmpty=false:=by simp
 clear h
 generalize u++ [x]=s at*
 simp (maxSteps:=9^9) (disch:=omega) [-List.map_replicate,-List.map_set,-List.getD_eq_getElem?_getD,-getElem?_pos,-getElem?_neg,om,ir45,w1,w2,w3,hne]
theorem ansPartsF (P:List Str) (hP: ∀s∈P,partOk s) (hl:P.length<1000000):ansF cfg 44 [.lst none 1 (strA P),.fn 45 [] []] []=some (.bool false, []):=by
 have hA:=strA_len P
 have hE: ∀i (h:i<P.length),(strA P)[i]?=some (.str P[i]):=fun i h=>get_map _ _ h
 have hpl:=plain_strA P
 generalize strA P=A at*
 have h:ansF cfg 81 [.lst none 1 A,.fn 45 [] []] []=some (.int .i64 (-1), []):=by
  refine ans_of_wp fn81 low81 ?_
  simp (maxSteps:=9^9) (disch:=omega) [-List.map_replicate,-List.map_set,-List.getD_eq_getElem?_getD,-getElem?_pos,-getElem?_neg,om,ir81,hA]
  refine Wp.loopM (fun (i:Nat)=>P.length-i) (fun i=> [some (.lst none 1 A),some (.fn 45 [] []),none,none,some (.int .i64 P.length),some (.int .i64 i),none,none]) (fun _=> []) (fun i=>i≤P.length) ?_ 0 (by omega) (by simp) rfl
  intro i hi
  by_cases h1:i<P.length
  ·have hg:=hE i h1
   have hs:=ansPart1 P[i] (hP _ (List.getElem_mem h1))
   clear hE hP
   generalize P[i]=p at*
   simp (maxSteps:=9^9) (disch:=omega) [-List.map_replicate,-List.map_set,-List.getD_eq_getElem?_getD,-getElem?_pos,-getElem?_neg,om,h1,hg,hs,hA]
   exact ⟨i+1,by omega,by omega,by simp⟩
  ·simp (maxSteps:=9^9) (disch:=omega) [-List.map_replicate,-List.map_set,-List.getD_eq_getElem?_getD,-getElem?_pos,-getElem?_neg,om,h1]
 refine ans_of_wp fn44 low44 ?_
 simp (maxSteps:=9^9) (disch:=omega) [-List.map_replicate,-List.map_set,-List.getD_eq_getElem?_getD,-getElem?_pos,-getElem?_neg,om,ir44,h,hpl]
theorem ansEqS (P:List Str) (nl nl':Option Bool) (hl:P.length<1000000):ansF cfg 12 [.lst nl 1 (strA P),.lst nl' 1 (strA P)] []=some (.bool true, []):=by
 refine ans_of_wp fn12 low12 ?_
 have hA:=strA_len P
 have hE: ∀i (h:i<P.length),(strA P)[i]?=some (.str P[i]):=fun i h=>get_map _ _ h
 generalize strA P=A at*
 simp (maxSteps:=9^9) (disch:=omega) [-List.map_replicate,-List.map_set,-List.getD_eq_getElem?_getD,-getElem?_pos,-getElem?_neg,om,ir12,hA]
 refine Wp.loopM (fun (i:Nat)=>P.length-i) (fun i=> [some (.lst nl 1 A),some (.lst nl' 1 A),none,none,none,some (.int .i64 P.length),some (.int .i64 i),none,none]) (fun _=> []) (fun i=>i≤P.length) ?_ 0 (by omega) (by simp) rfl
 intro i hi
 by_cases h1:i<P.length
 ·have hg:=hE i h1
  clear hE
  generalize P[i]=p at*
  simp (maxSteps:=9^9) (disch:=omega) [-List.map_replicate,-List.map_set,-List.getD_eq_getElem?_getD,-getElem?_pos,-getElem?_neg,om,h1,hg,hA]
  exact ⟨i+1,by omega,by omega,by simp⟩
 ·simp (maxSteps:=9^9) (disch:=omega) [-List.map_replicate,-List.map_set,-List.getD_eq_getElem?_getD,-getElem?_pos,-getElem?_neg,om,h1]
theorem strsOf_strA: ∀l:List Str,strsOf (strA l)=some l
 | []=>rfl
 | s::r=>by
  have h:=strsOf_strA r
  unfold strA at h⊢
  simp only [List.map_cons,strsOf,h]
theorem join_is: ∀l:List Str,Lib.join l [32,59,32,32]=joinP l
 | []=>rfl
 | [s]=>by simp [Lib.join,joinP,List.intercalate]
 | s::s2::r=>by
  have ih:=join_is (s2::r)
  unfold Lib.join at*
  simp only [joinP]
  rw [←ih]
  simp [List.intercalate,List.intersperse]
theorem joinP_len {B:Nat}: ∀l:List Str,(∀s∈l,s.length≤B)→(joinP l).length≤l.length*(B+4)
 | [],_=>by simp [joinP]
 | [s],h=>by
  have:=h s List.mem_cons_self
  simp only [joinP,List.length_cons,List.length_nil]
  omega
 | s::s2::r,h=>by
  have ih:=joinP_len (s2::r) fun x hx=>h x (List.mem_cons_of_mem _ hx)
  have:=h s List.mem_cons_self
  simp only [joinP,List.length_append,List.length_cons,List.length_nil] at ih⊢
  rw [Nat.add_mul]
  omega
theorem up_byte {c:UInt8} (h1:97≤c.toNat) (h2:c.toNat≤122):AV.int .u8 ((c.toNat:Int)-97+65)=ofByte (upB c):=by
 unfold ofByte upB
 rw [if_pos ⟨h1,h2⟩,UInt8.toNat_sub]
 congr 1
 show _=(((256-32+c.toNat)%256:Nat):Int)
 omega
theorem ansKeys0 (t:Str) (ht:t.length≤maxLen):ansF cfg 10 [.str t] []=some (.bool true, []):=by
 refine ans_of_wp fn10 low10 ?_
 have a:=awake
 unfold maxLen at ht
 by_cases h1:t.length≤200
 case neg=>simp (maxSteps:=9^9) (disch:=omega) [-List.map_replicate,-List.map_set,-List.getD_eq_getElem?_getD,-getElem?_pos,-getElem?_neg,om,ir10,a,h1]
 have w1:=ansKey t (by omega)
 have w2:=ansRunes (keyP t) (fun d hd=>keyP_mem hd) (by have:=keyP_len t;omega)
 have w3:=ansKey (keyP t) (by have:=keyP_len t;omega)
 rw [keyP_keyP] at w3
 have w4:=ansParts t (by omega)
 have hP: ∀s∈partsP t,partOk s:=fun s hs=>by
  obtain ⟨p1,p2,p3,p4⟩:=partsP_mem hs
  exact ⟨p1,p2,p3,by omega⟩
 have hPl:=partsP_len t
 have w5:=ansPartsF (partsP t) hP (by omega)
 have w6:=ansKey (t.map upB) (by simp;omega)
 rw [keyP_up] at w6
 have hjl:(joinP (partsP t)).length≤(partsP t).length*(200+4):=joinP_len _ fun s hs=>by
  have:=(partsP_mem hs).2.2.2;omega
 have hjl2:(joinP (partsP t)).length<1000000:=by
  have:(partsP t).length*(200+4)≤201*204:=Nat.mul_le_mul (by omega) (by omega)
  omega
 have w7:=ansParts (joinP (partsP t)) hjl2
 rw [partsP_join fun s hs=>⟨(hP s hs).1,(hP s hs).2.1,(hP s hs).2.2.1⟩] at w7
 have w8:=ansEqS (partsP t) none none (by omega)
 have hjs:=strsOf_strA (partsP t)
 have hji:=join_is (partsP t)
 have hpl:=plain_strA (partsP t)
 have hAl:=strA_len (partsP t)
 obtain ⟨UP,hUP⟩: ∃UP:Nat→List AV,UP=fun i=>((t.take i).map upB++t.drop i).map ofByte:=⟨_,rfl⟩
 have u0:t.map ofByte=UP 0:=by rw [hUP];simp
 have un:UP t.length=(t.map upB).map ofByte:=by rw [hUP];simp
 have ul: ∀i,i≤t.length→(UP i).length=t.length:=fun i hi=>by rw [hUP];simp;omega
 have ud: ∀i (h:i<t.length),∃A B:Str,A.length=i∧UP i=(A.map upB++t[i]::B).map ofByte∧UP (i+1)=(A.map upB++upB t[i]::B).map ofByte:=fun i h=>by
  refine ⟨t.take i,t.drop (i+1),by simp;omega,?_,?_⟩
  ·rw [hUP]
   simp only
   rw [List.drop_eq_getElem_cons h]
  ·rw [hUP]
   simp only
   congr 1
   rw [List.take_succ_eq_append_getElem h,List.map_append,List.append_assoc]
   rfl
 have ug: ∀i (h:i<t.length),(UP i)[i]?=some (ofByte t[i]):=fun i h=>by
  obtain ⟨A,B,hA,e1,_⟩:=ud i h
  rw [e1,List.getElem?_map,List.getElem?_append_right (by simp;omega)]
  simp [hA]
 have us: ∀i (h:i<t.length),(UP i).set i (ofByte (upB t[i]))=UP (i+1):=fun i h=>by
  obtain ⟨A,B,hA,e1,e2⟩:=ud i h
  rw [e1,e2,←List.map_set,List.set_append_right _ _ (by simp;omega)]
  simp [hA]
 have uk: ∀i (h:i<t.length),¬(97≤t[i].toNat∧t[i].toNat≤122)→UP i=UP (i+1):=fun i h hn=>by
  obtain ⟨A,B,hA,e1,e2⟩:=ud i h
  rw [e1,e2]
  unfold upB
  rw [if_neg hn]
 clear ud
 have hPl2:(partsP t).length<1000000:=by omega
 clear hUP hP hPl hjl
 generalize partsP t=P at*
 generalize hJ:joinP P=J at*
 generalize keyP t=K at*
 by_cases ht0:t= []
 ·subst ht0
  clear ug us uk ul un u0
  simp (maxSteps:=9^9) (disch:=omega) [-List.map_replicate,-List.map_set,-List.getD_eq_getElem?_getD,-getElem?_pos,-getElem?_neg,om,ir10,a,w1,w2,w3]
  refine Wp.loopM (fun (i:Nat)=>0) (fun i=> [some (.str []),none,some (.str K),some (.lst (some false) 1 []),none,none,none,none,none,none,none,none,none,none,none,some (.lst (some false) 1 []),some (.int .i64 0),some (.int .i64 0),none,none,none,none,none,none,none,none]) (fun i=> [.dead]) (fun i=>True) ?_ 0 trivial (by simp) (by simp)
  intro i hi
  simp only [List.map_nil] at w6
  simp (maxSteps:=9^9) (disch:=omega) [-List.map_replicate,-List.map_set,-List.getD_eq_getElem?_getD,-getElem?_pos,-getElem?_neg,om,w4,w5,w6,w7,w8,joinG,hjs,hji,hpl,hAl,Cfg.descOf]
 simp (maxSteps:=9^9) (disch:=omega) [-List.map_replicate,-List.map_set,-List.getD_eq_getElem?_getD,-getElem?_pos,-getElem?_neg,om,ir10,a,h1,w1,w2,w3,u0,ht0,Cfg.descOf,ul 0 (Nat.zero_le _)]
 refine Wp.loopM (fun (i:Nat)=>t.length-i) (fun i=> [some (.str t),none,some (.str K),some (.osl 0 t.length),none,none,none,none,none,none,none,none,none,none,none,some (.osl 0 t.length),some (.int .i64 t.length),some (.int .i64 i),none,none,none,none,none,none,none,none]) (fun i=> [.sl ⟨false,some 5,none⟩ 1 (UP i)]) (fun i=>i≤t.length) ?_ 0 (by omega) (by simp) (by simp)
 intro i hi
 have hul:=ul i hi
 by_cases h2:i<t.length
 ·have hg:=ug i h2
  have hs:=us i h2
  have hk:=uk i h2
  have hul2:=ul (i+1) (by omega)
  clear ug us uk ul un w1 w2 w3 w4 w5 w6 w7 w8 a
  generalize t[i]=c at*
  have hc:=c.toNat_lt
  unfold ofByte at hg
  by_cases h3:97≤c.toNat∧c.toNat≤122
  ·obtain ⟨h4,h5⟩:=h3
   rw [←up_byte h4 h5] at hs
   simp (maxSteps:=9^9) (disch:=omega) [-List.map_replicate,-List.map_set,-List.getD_eq_getElem?_getD,-getElem?_pos,-getElem?_neg,om,h2,hg,hul,h4,h5,hs,wrap_u8]
   exact ⟨i+1,by omega,by omega,by simp,rfl⟩
  ·have hk:=hk h3
   have a1:(decide (97≤(c.toNat:Int))&&decide ((c.toNat:Int)≤122))=false:=by simp;omega
   simp (maxSteps:=9^9) (disch:=omega) [-List.map_replicate,-List.map_set,-List.getD_eq_getElem?_getD,-getElem?_pos,-getElem?_neg,om,h2,hg,hul,a1]
   exact ⟨i+1,by omega,by omega,by simp,hk⟩
 ·obtain rfl:i=t.length:=by omega
  rw [un] at hul⊢
  clear ug us uk ul un u0
  have hb:bytesOf ((t.map upB).map ofByte)=some (t.map upB):=bytesOf_ofByte _
  generalize (t.map upB).map ofByte=D at*
  generalize t.map upB=M at*
  simp (maxSteps:=9^9) (disch:=omega) [-List.map_replicate,-List.map_set,-List.getD_eq_getElem?_getD,-getElem?_pos,-getElem?_neg,om,h2,hul,hb,w4,w5,w6,w7,w8,joinG,hjs,hji,hpl,hAl,Cfg.descOf]
theorem ansKeys {xs:List AV} (h:ShpArgs Tryz.prog [9] xs):ansF cfg 10 xs []=some (.bool true, []):=by
 obtain ⟨t,r,rfl,ht,h9⟩:=args_strC h
 obtain rfl:r= []:=h9
 exact ansKeys0 t ht
end Go.Proofs.YtnlndhjfmghajaaGreatDoor
