/-
 The reference of layer 51: Before, add, find, lines, word. The reference of layer 51: sheet, Value. The reference of layer 51: add, Reads. The reference's Reads. The reference of layer 51: a text with the citations of reads; the sheet with a text. The reference of layer 51: the section from reads.
-/
import Derived.Test.YtfnkchadeaedlaaGreatDoorDpM
import Derived.Test.YtfnkchadeaedlaaGreatDoorAdM
import Derived.Test.YtfnkchadeaedlaaGreatDoorEscM
import Derived.Test.YtfnkchadeaedlaaGreatDoorRfM
import Derived.Test.YtfnkchadeaedlaaGreatDoorDqM
set_option linter.all false
namespace Go.Proofs.YtfnkchadeaedlaaGreatDoor
open Go.Am
set_option maxRecDepth 10000
set_option maxHeartbeats 4000000
theorem G2 (a b:Cell):ar cfg 71 [iC a,iC b] []=some (.bool (dQ a b), []):=by
 refine ab Wq T5 ?_;obtain ⟨a1,a2⟩:=a;obtain ⟨b1,b2⟩:=b;unfold dQ iC;simp only;rcases Int.lt_trichotomy a1 b1 with h | h | h
 ·simp (maxSteps:=9^9) (disch:=omega) [-List.map_replicate,-List.map_set,-List.getD_eq_getElem?_getD,-getElem?_pos,-getElem?_neg,om,Lx,h]
 ·subst h;simp (maxSteps:=9^9) (disch:=omega) [-List.map_replicate,-List.map_set,-List.getD_eq_getElem?_getD,-getElem?_pos,-getElem?_neg,om,Lx]
 ·have h1: ¬ a1<b1:=by omega
  have h2: ¬ a1=b1:=by omega
  have h3:(a1==b1)=false:=by simpa using h2
  simp (maxSteps:=9^9) (disch:=omega) [-List.map_replicate,-List.map_set,-List.getD_eq_getElem?_getD,-getElem?_pos,-getElem?_neg,om,Lx,h1,h2,h3]
set_option maxHeartbeats 8000000
theorem Ly (c:Ct) (hc:c.ok) (u:Int) (lang:af) (hr:aD c lang=true):ar cfg 53 [aO c,.int .i64 u,.str lang] []=some (.str (match bD c u with
  | some s=>qT Lib.itoa aB (dD s.level) s.title s.mark (aW (au c.aa lang) s.facts)
  | none=> []), []):=by
 have w1:=iH c hc c.ag.length (Nat.le_refl _) u;rw [List.take_length] at w1;have hEl:(c.ag.map aI).length=c.ag.length:=by simp
 obtain ⟨nl,z,w2,hz⟩:=Cq c hc u lang;have hch:cn c u lang=aW (au c.aa lang) (dZ c u):=by unfold cn;rw [if_pos hr]
 rw [hch] at w2 hz;have hok:=b9 (dR hr).1;refine ab Wr T6 ?_;cases hx:aG c.ag u with
 | none=>
  have hsU:bD c u=none:=by unfold bD;rw [hx]
  rw [hx] at w1;simp only [hsU];unfold aO bU at*
  generalize ao c.aa=L1 at*
  generalize c.aq.map bF=L2 at*
  generalize c.ag.map aI=L3 at*
  simp (maxSteps:=9^9) (disch:=omega) [-List.map_replicate,-List.map_set,-List.getD_eq_getElem?_getD,-getElem?_pos,-getElem?_neg,om,PB,w1,hEl,az]
 | some i=>
  rw [hx] at w1;have hi:=cB hx;have hgo:c.ag[i]?=some c.ag[i]:=List.getElem?_eq_getElem hi;have hsU:bD c u=some c.ag[i]:=by unfold bD;rw [hx];exact hgo
  have hfU:dZ c u=c.ag[i].facts:=by unfold dZ;rw [hsU]
  rw [hfU] at w2 hz;have hg:=fP c.ag hi;have hsz:=hc.sz (ne_of_lt hi);have hso:=hok.ag _ (List.getElem_mem hi);have w3:=Fu c.ag[i].level hso.l1 hso.l2;have w4:=zG c.ag[i].title (by have:=hso.wB;omega);have w5:=zG c.ag[i].mark (by have:=hso.mark;omega);have htl:=eT c.ag[i].title;have hml:=eT c.ag[i].mark;have htl2:=hso.wB;have hml2:=hso.mark
  have htg:(dD c.ag[i].level).length≤6:=by unfold dD;(repeat' split)<;>simp
  have hfm: ∀f∈aW (au c.aa lang) c.ag[i].facts,wP c.aa f:=fun f hf=>hso.facts f (gg hf);have hfl:(aW (au c.aa lang) c.ag[i].facts).length≤32:=Nat.le_trans (iI _ _ _ _) hso.DX;have hil:i<1000000:=by have:=hc.sl;omega
  simp only [hsU];have hT:qT Lib.itoa aB (dD c.ag[i].level) c.ag[i].title c.ag[i].mark (aW (au c.aa lang) c.ag[i].facts)=(dD c.ag[i].level++32::(aB c.ag[i].title++10::109::97::114::107::32::(aB c.ag[i].mark++ [10])))++(aW (au c.aa lang) c.ag[i].facts).flatMap fun f=>Lib.itoa f.el++ [32]++aB f.text++ [10]:=by simp [qT,qS]
  have hE: ∀k (h:k<(aW (au c.aa lang) c.ag[i].facts).length),((aW (au c.aa lang) c.ag[i].facts).map cU)[k]?=some (.agg [.int .i64 (aW (au c.aa lang) c.ag[i].facts)[k].el,.str (aW (au c.aa lang) c.ag[i].facts)[k].lang,.str (aW (au c.aa lang) c.ag[i].facts)[k].text]):=fun k h=>get_map _ _ h;have hEl2:((aW (au c.aa lang) c.ag[i].facts).map cU).length=(aW (au c.aa lang) c.ag[i].facts).length:=by simp
  generalize aW (au c.aa lang) c.ag[i].facts=CH at*
  generalize CH.map cU=CA at*
  generalize hTT:qT Lib.itoa aB (dD c.ag[i].level) c.ag[i].title c.ag[i].mark CH=TT at*
  clear hso hok hTT;simp only [az] at w1;unfold aO bU at*
  generalize c.ag[i]=x at*
  generalize ao c.aa=L1 at*
  generalize c.aq.map bF=L2 at*
  generalize c.ag.map aI=L3 at*
  rw [hsz] at*
  generalize aB x.title=T1 at*
  generalize aB x.mark=T2 at*
  generalize dD x.level=T0 at*
  simp (maxSteps:=9^9) (disch:=omega) [-List.map_replicate,-List.map_set,-List.getD_eq_getElem?_getD,-getElem?_pos,-getElem?_neg,om,PB,w1,w2,w3,w4,w5,hEl,hg,ae];obtain ⟨Y,hY⟩: ∃Y,Y=T0++32::(T1++10::109::97::114::107::32::(T2++ [10])):=⟨_,rfl⟩;have hYl:Y.length≤1000:=by rw [hY];simp only [List.length_append,List.length_cons,List.length_nil];omega
  rw [←hY] at hT⊢;clear w1 w2 w3 w4 w5 hY
  refine Wp.aA (fun (a:Nat×af)=>CH.length-a.1) (fun a=> [none,none,none,none,none,none,none,some (.str a.2),some (.ah nl z CA),some (.int .i64 a.1),none,none,none,none,none,none,none,none,none,none]) (fun _=> [.var 26 [.ah c.ln c.lz L1,.ah c.bn c.bz L2,.ah c.sn 6 L3],.var 73 [.int .i64 x.unit,.int .i64 x.par,.int .i64 x.level,.str x.mark,.str x.title,.ah x.fn x.fz (x.facts.map cU)]])
   (fun a=>(TT=a.2++(CH.drop a.1).flatMap fun f=>Lib.itoa f.el++ [32]++aB f.text++ [10])∧a.1≤CH.length∧a.2.length≤1000+20000*a.1) ?_ (0,Y) ⟨by simpa using hT,by simp,by simpa using hYl⟩ (by simp) rfl
  rintro ⟨k,out⟩ ⟨hk1,hkl,hol⟩;simp only at hk1 hkl hol⊢;rw [hk1];clear hk1 hT;by_cases h3:k<CH.length
  ·have hgk:=hE k h3;have hfk:=hfm _ (List.getElem_mem h3);obtain rfl:=hz (ne_of_lt h3);rw [List.drop_eq_getElem_cons h3,List.flatMap_cons];generalize CH[k]=f at*
   have hel:=zG f.text (by have:=hfk.len;omega);have hetl:=eT f.text;have hfl2:=hfk.len;have hitl:=Lib.itoa_length_le f.el (by have:=hfk.Hy;omega) (by have:=hfk.Hz;omega);have hid1: -9223372036854775808≤f.el:=by have:=hfk.Hy;omega
   have hid2:f.el≤9223372036854775807:=by have:=hfk.Hz;omega
   clear hE hfm hfk;generalize hit:Lib.itoa f.el=it at*
   generalize aB f.text=T3 at*
   simp (maxSteps:=9^9) (disch:=omega) [-List.map_replicate,-List.map_set,-List.getD_eq_getElem?_getD,-getElem?_pos,-getElem?_neg,om,h3,hgk,hEl2,hel,sB,hid1,hid2,hit];exact ⟨k+1,out++(it++32::(T3++ [10])),⟨by simp,by omega,by simp;omega⟩,by omega,by simp,by simp⟩
  ·rw [List.drop_eq_nil_of_le (by omega)];simp (maxSteps:=9^9) (disch:=omega) [-List.map_replicate,-List.map_set,-List.getD_eq_getElem?_getD,-getElem?_pos,-getElem?_neg,om,h3,hEl2]
theorem Ft (c:Ct) (hc:c.ok) (root:Int) (lang:af) (x:Cell):ar cfg 17 [aO c,.int .i64 root,.str lang,iC x] []=some (.str (if aD c lang=true then Cb Lib.itoa aB c lang root x else []), []):=by
 refine ab Ws T7 ?_;have w1:=n9 c hc;have w2:=oc c.ln c.lz c.aa hc.lz hc.ll lang;obtain ⟨k,u⟩:=x;unfold iC;simp only;by_cases hk:dh c=0
 case neg=>
  have hr:aD c lang=false:=by unfold aD;simp [hk]
  rw [hr,if_neg (by simp)];unfold aO bU at*
  generalize dh c=e at*
  generalize ao c.aa=L1 at*
  generalize c.aq.map bF=L2 at*
  generalize c.ag.map aI=L3 at*
  have hk2:(e !=0)=true:=by simpa using hk
  simp (maxSteps:=9^9) (disch:=omega) [-List.map_replicate,-List.map_set,-List.getD_eq_getElem?_getD,-getElem?_pos,-getElem?_neg,om,Cr,w1,hk,hk2]
 cases hh:bX c.aa lang with
 | false=>
  have hr:aD c lang=false:=by unfold aD;simp [hh]
  rw [hr,if_neg (by simp)];rw [hk] at w1;rw [hh] at w2;unfold aO bU at*
  generalize ao c.aa=L1 at*
  generalize c.aq.map bF=L2 at*
  generalize c.ag.map aI=L3 at*
  simp (maxSteps:=9^9) (disch:=omega) [-List.map_replicate,-List.map_set,-List.getD_eq_getElem?_getD,-getElem?_pos,-getElem?_neg,om,Cr,w1,w2]
 | true=>
  have hr:aD c lang=true:=B9 hk hh;rw [if_pos hr];have w3:=zN c hc root u;rw [if_pos hk] at w3;have w4:=Ly c hc u lang hr;have w5:=G3 c hc u lang;have w6:=G4 c hc u;rw [if_pos hk] at w6;have h5:(if u<1∨64<u∨aD c lang=false then [] else il (au c.aa lang) c.aq u (cV Lib.itoa u))=(if u<1∨64<u then [] else il (au c.aa lang) c.aq u (cV Lib.itoa u)):=by rw [hr];simp
  rw [h5] at w5;rw [hk] at w1;rw [hh] at w2;unfold Cb;simp only
  generalize hV2:(match bD c u with
   | some s=>qT Lib.itoa aB (dD s.level) s.title s.mark (aW (au c.aa lang) s.facts)
   | none=>([]:af))=V2 at*
  generalize (if u<1∨64<u then ([]:af) else il (au c.aa lang) c.aq u (cV Lib.itoa u))=V3 at*
  generalize gb Lib.itoa c root u=V1 at*
  generalize cL c.ag u=V4 at*
  clear h5;unfold aO bU at*
  generalize ao c.aa=L1 at*
  generalize c.aq.map bF=L2 at*
  generalize c.ag.map aI=L3 at*
  by_cases e1:k=1
  ·simp (maxSteps:=9^9) (disch:=omega) [-List.map_replicate,-List.map_set,-List.getD_eq_getElem?_getD,-getElem?_pos,-getElem?_neg,om,Cr,w1,w2,e1,w3]
  by_cases e2:k=2
  ·simp (maxSteps:=9^9) (disch:=omega) [-List.map_replicate,-List.map_set,-List.getD_eq_getElem?_getD,-getElem?_pos,-getElem?_neg,om,Cr,w1,w2,e2,w4];rw [←hV2];cases bD c u <;> rfl
  by_cases e3:k=3
  ·simp (maxSteps:=9^9) (disch:=omega) [-List.map_replicate,-List.map_set,-List.getD_eq_getElem?_getD,-getElem?_pos,-getElem?_neg,om,Cr,w1,w2,e3,w5]
  by_cases e4:k=4
  ·simp (maxSteps:=9^9) (disch:=omega) [-List.map_replicate,-List.map_set,-List.getD_eq_getElem?_getD,-getElem?_pos,-getElem?_neg,om,Cr,w1,w2,e4,w6]
  simp (maxSteps:=9^9) (disch:=omega) [-List.map_replicate,-List.map_set,-List.getD_eq_getElem?_getD,-getElem?_pos,-getElem?_neg,om,Cr,w1,w2,e1,e2,e3,e4]
def aN (l:List Cell):List AV:=l.map iC
def Cs:List Cell→Cell→Nat
 | [],_=>0
 | y::r,x=>if dQ y x=true then Cs r x+1 else 0
theorem Jr (x:Cell): ∀l:List Cell,Cs l x≤l.length
 | []=>Nat.le_refl _
 | y::r=>by
  have:=Jr x r;unfold Cs;split <;> simp only [List.length_cons] <;> omega
theorem ue (x:Cell): ∀l:List Cell,gB l x=if l[Cs l x]?=some x then l else l.take (Cs l x)++x::l.drop (Cs l x)
 | []=>by simp [gB,Cs]
 | y::r=>by
  have ih:=ue x r;unfold gB Cs;by_cases hb:dQ y x=true
  ·rw [if_pos hb,if_pos hb,ih];simp only [List.getElem?_cons_succ,List.take_succ_cons,List.drop_succ_cons];split <;> simp
  ·rw [if_neg hb,if_neg hb];by_cases he:y=x
   ·simp [he]
   ·simp [he]
theorem Fv (x:Cell): ∀(l:List Cell) (i:Nat) (y:Cell),l[i]?=some y→(∀k z,k<i→l[k]?=some z→dQ z x=true)→i≤Cs l x∧(dQ y x=false→Cs l x=i)
 | [],i,y,h,_=>by simp at h
 | z::r,0,y,h,_=>by
  cases h;refine ⟨Nat.zero_le _,fun hb=> ?_⟩;unfold Cs;rw [if_neg (by rw [hb];simp)]
 | z::r,i+1,y,h,hb=>by
  have h0:=hb 0 z (by omega) rfl;have ih:=Fv x r i y (by simpa using h) (fun k w hk hw=>hb (k+1) w (by omega) (by simpa using hw));unfold Cs;rw [if_pos h0];exact ⟨by omega,fun q=>by rw [ih.2 q]⟩
theorem Eh (l:List Cell) {i:Nat} (h:i<l.length):(aN l)[i]?=some (.agg [.int .i64 l[i].1,.int .i64 l[i].2]):=get_map _ _ h
theorem Fw (x:Cell): ∀(l:List Cell),(∀z∈l,dQ z x=true)→Cs l x=l.length
 | [],_=>rfl
 | y::r,h=>by
  unfold Cs;rw [if_pos (h y (by simp)),Fw x r (fun z hz=>h z (by simp [hz]))];rfl
theorem Js (nl:Option Bool) (z:Nat) (l:List Cell) (hz:l≠ []→z=2) (hl:l.length<1000000) (x:Cell):ar cfg 48 [.ah nl z (aN l),iC x] []=some (if l[Cs l x]?=some x then .ah nl z (aN l) else .ah none 2 (aN (gB l x)), []):=by
 have hadd:=ue x l;have hbef:=fun i (h:i<l.length)=>G2 l[i] x;have hg:=fun i (h:i<l.length)=>Eh l h;have hat:=Fv x l;have hall:=Fw x l;have hEl:(aN l).length=l.length:=by simp [aN]
 have htk: ∀i,(aN l).take i=aN (l.take i):=fun i=>by simp [aN]
 have hdp: ∀i,(aN l).drop i=aN (l.drop i):=fun i=>by simp [aN]
 obtain ⟨x1,x2⟩:=x;refine ab Wt T8 ?_;unfold iC at*
 simp only at*
 generalize hA:Cs l (x1,x2)=A at*
 generalize hE:aN l=E at*
 simp (maxSteps:=9^9) (disch:=omega) [-List.map_replicate,-List.map_set,-List.getD_eq_getElem?_getD,-getElem?_pos,-getElem?_neg,om,T9];refine Wp.aA (fun (a:Nat×Option AV)=>l.length-a.1) (fun a=> [some (.ah nl z E),none,some (.ptr 0 0),none,some (.int .i64 a.1),none,none,a.2,none,none,none,none,none,none,none,none]) (fun _=> [.var 28 [.int .i64 x1,.int .i64 x2]]) (fun a=>a.1≤l.length∧ ∀k y,k<a.1→l[k]?=some y→dQ y (x1,x2)=true) ?_ (0,none) ⟨by simp,fun k y hk=>by simp at hk⟩ (by simp) rfl;rintro ⟨i,o⟩ ⟨hil,hbi⟩;simp only at hil hbi⊢;by_cases h1:i<l.length
 ·have hb:=hbef i h1;have hgi:=hg i h1;have hli:l[i]?=some l[i]:=List.getElem?_eq_getElem h1;have hai:=hat i l[i] hli hbi;obtain rfl:=hz (ne_of_lt h1)
  have hst:dQ l[i] (x1,x2)=true→ ∀k y,k<i+1→l[k]?=some y→dQ y (x1,x2)=true:=fun h k y hk hy=>by
   by_cases e:k=i
   ·subst e;rw [hli] at hy;cases hy;exact h
   ·exact hbi k y (by omega) hy
  generalize hy:l[i]=y at*
  cases hbq:dQ y (x1,x2) with
  | true=>rw [hbq] at hb;have hbi2:=hst hbq;clear hbef hg hat hall hai hst hbi hadd htk hdp;simp (maxSteps:=9^9) (disch:=omega) [-List.map_replicate,-List.map_set,-List.getD_eq_getElem?_getD,-getElem?_pos,-getElem?_neg,om,h1,hgi,hEl,hb];exact ⟨i+1,⟨by omega,fun k a b hk hy=>hbi2 k (a,b) hk hy⟩,by omega,by simp⟩
  | false=>
   rw [hbq] at hb;obtain rfl:=hai.2 hbq;clear hbef hg hat hall hai hst hbi;by_cases he:y=(x1,x2)
   ·subst he;rw [if_pos hli];simp (maxSteps:=9^9) (disch:=omega) [-List.map_replicate,-List.map_set,-List.getD_eq_getElem?_getD,-getElem?_pos,-getElem?_neg,om,h1,hgi,hEl,hb]
   ·have hne: ¬ (l[A]?=some (x1,x2)):=by rw [hli];simpa using he
    rw [if_neg hne] at hadd⊢
    have he2:(y.1==x1&&y.2==x2)=false:=by rw [Bool.eq_false_iff];intro h;simp at h;exact he (Prod.ext h.1 h.2)
    have he3: ¬ (y.1=x1∧y.2=x2):=fun h=>he (Prod.ext h.1 h.2);rw [hadd];have htl:(l.take A).length=A:=by simp;omega
    have hdl:(l.drop A).length=l.length-A:=by simp
    have hd0:l.drop A≠ []:=by simp;omega
    have ht2:=htk A;have hd2:=hdp A;have hEt:E.take l.length=E:=List.take_of_length_le (by omega);clear hadd htk hdp hA hE;generalize l.take A=T at*
    generalize l.drop A=D at*
    cases hDD:D with
    | nil=>exact absurd hDD hd0
    | cons d0 D0=>
     subst hDD;simp only [List.length_cons] at hdl;have hdl2:(aN (d0::D0)).length=D0.length+1:=by simp [aN]
     cases hTT:T with
     | nil=>subst hTT;simp only [List.length_cons,List.length_nil] at htl;simp only [aN,List.map_nil,List.map_cons] at ht2 hd2 hdl2;simp (maxSteps:=9^9) (disch:=omega) [-List.map_replicate,-List.map_set,-List.getD_eq_getElem?_getD,-getElem?_pos,-getElem?_neg,om,h1,hgi,hEl,hb,he2,he3,ht2,hd2,hEt];simp [aN,iC]
     | cons t0 T0=>subst hTT;simp only [List.length_cons,List.length_nil] at htl;simp only [aN,List.map_nil,List.map_cons] at ht2 hd2 hdl2;simp (maxSteps:=9^9) (disch:=omega) [-List.map_replicate,-List.map_set,-List.getD_eq_getElem?_getD,-getElem?_pos,-getElem?_neg,om,h1,hgi,hEl,hb,he2,he3,ht2,hd2,hEt];simp [aN,iC]
 ·obtain rfl:i=l.length:=by omega
  have hA2:A=l.length:=by
   exact hall fun z hz=>by
    obtain ⟨k,hk,hzk⟩:=List.getElem_of_mem hz;exact hbi k z hk (by rw [List.getElem?_eq_getElem hk,hzk])
  have hne: ¬ (l[A]?=some (x1,x2)):=by rw [hA2,List.getElem?_eq_none (by omega)];simp
  rw [if_neg hne] at hadd⊢;rw [hadd,hA2,List.take_length,List.drop_length];have hEt:E.take l.length=E:=List.take_of_length_le (by omega);have hEd:E.drop l.length= []:=List.drop_eq_nil_of_le (by omega);clear hbef hg hat hall hbi hadd htk hdp hA hne;cases l with
  | nil=>subst hE;simp (maxSteps:=9^9) (disch:=omega) [-List.map_replicate,-List.map_set,-List.getD_eq_getElem?_getD,-getElem?_pos,-getElem?_neg,om,aN];simp [aN,iC]
  | cons t0 T0=>
   obtain rfl:=hz (by simp);simp only [List.length_cons] at*
   have hE2:E= .agg [.int .i64 t0.1,.int .i64 t0.2]::aN T0:=by rw [←hE];rfl
   have hcl:(aN T0).length=T0.length:=by simp [aN]
   generalize hC:aN T0=C0 at*
   subst hE2;clear hE;simp (maxSteps:=9^9) (disch:=omega) [-List.map_replicate,-List.map_set,-List.getD_eq_getElem?_getD,-getElem?_pos,-getElem?_neg,om,hEt,hEd,hcl];simp [aN,iC,←hC]
theorem uf (nl:Option Bool) (z:Nat) (l:List Cell) (hz:l≠ []→z=2) (hl:l.length<1000000) (x:Cell): ∃nl' z',ar cfg 48 [.ah nl z (aN l),iC x] []=some (.ah nl' z' (aN (gB l x)), [])∧(gB l x≠ []→z'=2):=by
 have h:=Js nl z l hz hl x;by_cases hq:l[Cs l x]?=some x
 ·rw [if_pos hq] at h;have ha:gB l x=l:=by rw [ue,if_pos hq]
  rw [ha];exact ⟨nl,z,h,fun q=>hz q⟩
 ·rw [if_neg hq] at h;exact ⟨none,2,h,fun _=>rfl⟩
theorem qY (l:List Cell) (x:Cell):(gB l x).length≤l.length+1:=by
 rw [ue];split
 ·omega
 ·have:=Jr x l;simp only [List.length_append,List.length_take,List.length_cons,List.length_drop];omega
def fq (l:List Cell) (t:af) (j:Nat):List Cell:=(jt t j).foldl gB l
theorem pH (l:List Cell) (t:af) (j:Nat):fq l t (j+1)=if (ak (t.drop j)).2=0 then fq l t j else gB (fq l t j) (4,(ak (t.drop j)).1):=by
 unfold fq jt;rw [List.range_succ,List.filterMap_append,List.foldl_append];by_cases h:(ak (t.drop j)).2=0
 ·simp [h]
 ·simp [h]
def dS (u:Int) (CH:List Fc) (k:Nat):List Cell:=((CH.take k).flatMap dP).foldl gB [(1,u),(2,u)]
theorem Ei (u:Int) {CH:List Fc} {k:Nat} (h:k<CH.length):dS u CH (k+1)=fq (gB (dS u CH k) (3,CH[k].el)) CH[k].text CH[k].text.length:=by
 unfold dS fq;rw [kA CH h,List.flatMap_append,List.foldl_append];have: [CH[k]].flatMap dP=(3,CH[k].el)::jt CH[k].text CH[k].text.length:=by simp [dP];try rfl
 rw [this,List.foldl_cons]
theorem wu (s:af):(ak s).2=0↔(ak s).1=0:=by
 rcases di s with h | ⟨h1,_,h3,_⟩
 ·rw [h]
 ·omega
def Wu (u:Int) (w:AV) (l:List Cell):Prop:=(w= .ay 2 2∧l= [(1,u),(2,u)])∨ ∃nl z,w= .ah nl z (aN l)∧(l≠ []→z=2)
theorem ss (l:List Cell) (t:af): ∀j,(fq l t j).length≤l.length+j
 | 0=>by simp [fq,jt]
 | j+1=>by
  have:=ss l t j;rw [pH];split
  ·omega
  ·have:=qY (fq l t j) (4,(ak (t.drop j)).1);omega
theorem lZ (l:List Cell) (t:af):fq l t 0=l:=by simp [fq,jt]
theorem Ej (c:Ct) (hc:c.ok) (root u:Int) (lang:af) (h0:cO c root lang=0) (h1:gb Lib.itoa c root u≠ []):
  ar cfg 14 [aO c,.int .i64 root,.str lang,.int .i64 u] []=some (.aT [.ah none 3 (aF ((cellsOf u (cn c u lang)).map fun z=>(z,Cb Lib.itoa aB c lang root z))),.int .i64 0], []):=by
 have hr:=ei h0;have hk:dh c=0:=(dR hr).1;have hok:=b9 hk;have w1:=wx c hc root lang;have w2:=zN c hc root u;rw [if_pos hk] at w2;obtain ⟨nl,z,w3,hz⟩:=Cq c hc u lang;have wv: ∀x:Cell,_:=fun x=>Ft c hc root lang x;rw [h0,if_pos rfl] at w1
 have hF: ∀f∈cn c u lang,wP c.aa f:=by
  intro f hf;unfold cn at hf;rw [if_pos hr] at hf;have hf:=gg hf;unfold dZ at hf;cases hs:bD c u with
  | none=>rw [hs] at hf;cases hf
  | some s=>rw [hs] at hf;obtain ⟨_,_,_,_,hm⟩:=eS hs;exact (hok.ag s hm).facts f hf
 have hFl:(cn c u lang).length≤32:=by
  unfold cn;rw [if_pos hr];refine Nat.le_trans (iI _ _ _ _) ?_;unfold dZ;cases hs:bD c u with
  | none=>simp
  | some s=>obtain ⟨_,_,_,_,hm⟩:=eS hs;exact (hok.ag s hm).DX
 simp only [hr,if_true] at wv;have hcO:cellsOf u (cn c u lang)=dS u (cn c u lang) (cn c u lang).length:=by unfold cellsOf dS;rw [List.take_length]
 rw [hcO];clear hcO;generalize hval:Cb Lib.itoa aB c lang root=val at*
 refine ab PC Jt ?_;have hE: ∀k (h:k<(cn c u lang).length),((cn c u lang).map cU)[k]?=some (.agg [.int .i64 (cn c u lang)[k].el,.str (cn c u lang)[k].lang,.str (cn c u lang)[k].text]):=fun k h=>get_map _ _ h;have hEl:((cn c u lang).map cU).length=(cn c u lang).length:=by simp
 generalize cn c u lang=CH at*
 generalize CH.map cU=CA at*
 generalize gb Lib.itoa c root u=nm at*
 have hnm:decide (nm≠ [])=true:=by simpa using h1
 rw [hnm] at w2;unfold wC at w1;generalize (K9 Lib.itoa c root lang).map cp=AS at*
 clear hk hok h0 h1 hr hnm hval;unfold aO bU at*
 generalize ao c.aa=L1 at*
 generalize c.aq.map bF=L2 at*
 generalize c.ag.map aI=L3 at*
 simp (maxSteps:=9^9) (disch:=omega) [-List.map_replicate,-List.map_set,-List.getD_eq_getElem?_getD,-getElem?_pos,-getElem?_neg,om,Lz,w1,w2,w3,hEl,ae];clear w1 w2 w3
 refine Wp.aA (fun (a:Nat×AV×Bool)=>CH.length-a.1) (fun a=> [none,some (.int .i64 root),some (.str lang),none,some (.ptr 0 0),none,none,none,none,none,some (a.2.1),some (.ah nl z CA),some (.int .i64 a.1),none,none,none,none,none,none,none,none,none,none,none,none,none,none,none,none,none,none,none,none,none,none,none,none,none,none]) (fun a=> [.var 26 [.ah c.ln c.lz L1,.ah c.bn c.bz L2,.ah c.sn c.sz L3],.var 41 [.int .i64 root,.str lang,.ah none 3 AS],.sl ⟨a.2.2,some 28,none⟩ 2 [.agg [.int .i64 1,.int .i64 u],.agg [.int .i64 2,.int .i64 u]]])
  (fun a=>a.1≤CH.length∧Wu u a.2.1 (dS u CH a.1)∧(dS u CH a.1).length≤2+5000*a.1∧(a.2.1= .ay 2 2→a.2.2=false)) ?_ (0,.ay 2 2,false) ⟨by simp,.inl ⟨rfl,by simp [dS]⟩,by simp [dS],by simp⟩ (by simp) rfl
 rintro ⟨k,w,ob⟩ ⟨hkl,hrep,hln,hob⟩;simp only at hkl hrep hln hob⊢;by_cases h3:k<CH.length
 ·have hgk:=hE k h3;have hfk:=hF _ (List.getElem_mem h3);obtain rfl:=hz (ne_of_lt h3);have hsc:=Ei u h3;have hfl:=hfk.len;clear hE hF wv;generalize CH[k]=f at*
  have hL1:=qY (dS u CH k) (3,f.el)
  have hrep2: ∃nl' z',(∀(w1:AV),(w1=w→w1=w))∧(gB (dS u CH k) (3,f.el)≠ []→z'=2)∧((w= .ay 2 2∧ar cfg 48 [.ah none 2 [.agg [.int .i64 1,.int .i64 u],.agg [.int .i64 2,.int .i64 u]],.agg [.int .i64 3,.int .i64 f.el]] []=some (.ah nl' z' (aN (gB (dS u CH k) (3,f.el))), []))∨ ∃n2 z2,w= .ah n2 z2 (aN (dS u CH k))∧ar cfg 48 [.ah n2 z2 (aN (dS u CH k)),.agg [.int .i64 3,.int .i64 f.el]] []=some (.ah nl' z' (aN (gB (dS u CH k) (3,f.el))), [])):=by
   rcases hrep with ⟨hw,hl⟩ | ⟨n2,z2,hw,hz2⟩
   ·obtain ⟨nl',z',q1,q2⟩:=uf none 2 (dS u CH k) (fun _=>rfl) (by omega) (3,f.el);rw [hl] at q1 q2⊢;exact ⟨nl',z',fun _ h=>h,q2,.inl ⟨hw,q1⟩⟩
   ·obtain ⟨nl',z',q1,q2⟩:=uf n2 z2 (dS u CH k) hz2 (by omega) (3,f.el);exact ⟨nl',z',fun _ h=>h,q2,.inr ⟨n2,z2,hw,q1⟩⟩
  obtain ⟨nl',z',_,hz',hrep3⟩:=hrep2;clear hrep;generalize gB (dS u CH k) (3,f.el)=LL at*
  rcases hrep3 with ⟨rfl,w1⟩ | ⟨n2,z2,rfl,w1⟩
  case' inl=>
   obtain rfl:=hob rfl;simp (maxSteps:=9^9) (disch:=omega) [-List.map_replicate,-List.map_set,-List.getD_eq_getElem?_getD,-getElem?_pos,-getElem?_neg,om,h3,hgk,hEl,ae,w1]
  case' inr=>
   generalize aN (dS u CH k)=LX at*
   simp (maxSteps:=9^9) (disch:=omega) [-List.map_replicate,-List.map_set,-List.getD_eq_getElem?_getD,-getElem?_pos,-getElem?_neg,om,h3,hgk,hEl,ae,w1]
  case inl=>
   clear w1
   refine Wp.aA (fun (a:Nat×AV)=>f.text.length-a.1) (fun a=> [none,some (.int .i64 root),some (.str lang),none,some (.ptr 0 0),none,none,none,none,none,some (a.2),some (.ah nl 3 CA),some (.int .i64 k),some (.int .i64 a.1),none,none,none,none,none,none,none,none,none,none,none,none,none,none,none,none,none,none,none,none,none,none,none,none,none]) (fun _=> [.var 26 [.ah c.ln c.lz L1,.ah c.bn c.bz L2,.ah c.sn c.sz L3],.var 41 [.int .i64 root,.str lang,.ah none 3 AS],.sl ⟨true,some 28,none⟩ 2 [.agg [.int .i64 1,.int .i64 u],.agg [.int .i64 2,.int .i64 u]]])
    (fun a=>a.1≤f.text.length∧ ∃n z,a.2= .ah n z (aN (fq LL f.text a.1))∧(fq LL f.text a.1≠ []→z=2)) ?_ (0,.ah nl' z' (aN LL)) ⟨by simp,nl',z',by rw [lZ],by rw [lZ];exact hz'⟩ (by simp) rfl
   rintro ⟨j,w⟩ ⟨hjl,n3,z3,hw,hz3⟩;simp only at hjl hw hz3⊢;subst hw;have hal:=ss LL f.text j;by_cases h4:j<f.text.length
   ·have hp:=su (f.text.drop j) (by simp;omega);unfold ot at hp;have hsj:=pH LL f.text j;have htl:(f.text.take f.text.length).drop j=f.text.drop j:=by rw [List.take_length]
    have htwo:=wu (f.text.drop j);by_cases h5:(ak (f.text.drop j)).2=0
    ·rw [if_pos h5] at hsj;have h6:=htwo.1 h5;rw [h6] at hp;generalize (ak (f.text.drop j)).2=pn at*
     rw [←hsj] at hz3;have hsj2:=congrArg aN hsj;generalize aN (fq LL f.text j)=CJ at*
     clear hsc htwo;simp (maxSteps:=9^9) (disch:=omega) [-List.map_replicate,-List.map_set,-List.getD_eq_getElem?_getD,-getElem?_pos,-getElem?_neg,om,h3,h4,hgk,hEl,hp,htl];exact ⟨j+1,_,⟨by omega,n3,z3,by rw [hsj2],hz3⟩,by omega,rfl,by simp⟩
    ·rw [if_neg h5] at hsj;have h6: ¬ (ak (f.text.drop j)).1=0:=fun h=>h5 (htwo.2 h);obtain ⟨n4,z4,q1,q2⟩:=uf n3 z3 (fq LL f.text j) hz3 (by omega) (4,(ak (f.text.drop j)).1);rw [←hsj] at q1 q2;unfold iC at q1;simp only at q1;generalize (ak (f.text.drop j)).2=pn at*
     generalize (ak (f.text.drop j)).1=pu at*
     have h7:(pu !=0)=true:=by simpa using h6
     clear hsc htwo hsj;generalize aN (fq LL f.text j)=CJ at*
     simp (maxSteps:=9^9) (disch:=omega) [-List.map_replicate,-List.map_set,-List.getD_eq_getElem?_getD,-getElem?_pos,-getElem?_neg,om,h3,h4,hgk,hEl,hp,htl,h6,h7,ae,q1];exact ⟨j+1,_,⟨by omega,n4,z4,rfl,q2⟩,by omega,rfl,by simp⟩
   ·obtain rfl:j=f.text.length:=by omega
    rw [←hsc] at hz3 hal⊢;clear hsc;simp (maxSteps:=9^9) (disch:=omega) [-List.map_replicate,-List.map_set,-List.getD_eq_getElem?_getD,-getElem?_pos,-getElem?_neg,om,h3,hgk,hEl];exact ⟨k+1,_,⟨by omega,.inr ⟨n3,z3,rfl,hz3⟩,by omega,by simp⟩,by omega,rfl,by simp⟩
  case inr=>
   clear w1
   refine Wp.aA (fun (a:Nat×AV)=>f.text.length-a.1) (fun a=> [none,some (.int .i64 root),some (.str lang),none,some (.ptr 0 0),none,none,none,none,none,some (a.2),some (.ah nl 3 CA),some (.int .i64 k),some (.int .i64 a.1),none,none,none,none,none,none,none,none,none,none,none,none,none,none,none,none,none,none,none,none,none,none,none,none,none]) (fun _=> [.var 26 [.ah c.ln c.lz L1,.ah c.bn c.bz L2,.ah c.sn c.sz L3],.var 41 [.int .i64 root,.str lang,.ah none 3 AS],.sl ⟨ob,some 28,none⟩ 2 [.agg [.int .i64 1,.int .i64 u],.agg [.int .i64 2,.int .i64 u]]])
    (fun a=>a.1≤f.text.length∧ ∃n z,a.2= .ah n z (aN (fq LL f.text a.1))∧(fq LL f.text a.1≠ []→z=2)) ?_ (0,.ah nl' z' (aN LL)) ⟨by simp,nl',z',by rw [lZ],by rw [lZ];exact hz'⟩ (by simp) rfl
   rintro ⟨j,w⟩ ⟨hjl,n3,z3,hw,hz3⟩;simp only at hjl hw hz3⊢;subst hw;have hal:=ss LL f.text j;by_cases h4:j<f.text.length
   ·have hp:=su (f.text.drop j) (by simp;omega);unfold ot at hp;have hsj:=pH LL f.text j;have htl:(f.text.take f.text.length).drop j=f.text.drop j:=by rw [List.take_length]
    have htwo:=wu (f.text.drop j);by_cases h5:(ak (f.text.drop j)).2=0
    ·rw [if_pos h5] at hsj;have h6:=htwo.1 h5;rw [h6] at hp;generalize (ak (f.text.drop j)).2=pn at*
     rw [←hsj] at hz3;have hsj2:=congrArg aN hsj;generalize aN (fq LL f.text j)=CJ at*
     clear hsc htwo;simp (maxSteps:=9^9) (disch:=omega) [-List.map_replicate,-List.map_set,-List.getD_eq_getElem?_getD,-getElem?_pos,-getElem?_neg,om,h3,h4,hgk,hEl,hp,htl];exact ⟨j+1,_,⟨by omega,n3,z3,by rw [hsj2],hz3⟩,by omega,rfl,by simp⟩
    ·rw [if_neg h5] at hsj;have h6: ¬ (ak (f.text.drop j)).1=0:=fun h=>h5 (htwo.2 h);obtain ⟨n4,z4,q1,q2⟩:=uf n3 z3 (fq LL f.text j) hz3 (by omega) (4,(ak (f.text.drop j)).1);rw [←hsj] at q1 q2;unfold iC at q1;simp only at q1;generalize (ak (f.text.drop j)).2=pn at*
     generalize (ak (f.text.drop j)).1=pu at*
     have h7:(pu !=0)=true:=by simpa using h6
     clear hsc htwo hsj;generalize aN (fq LL f.text j)=CJ at*
     simp (maxSteps:=9^9) (disch:=omega) [-List.map_replicate,-List.map_set,-List.getD_eq_getElem?_getD,-getElem?_pos,-getElem?_neg,om,h3,h4,hgk,hEl,hp,htl,h6,h7,ae,q1];exact ⟨j+1,_,⟨by omega,n4,z4,rfl,q2⟩,by omega,rfl,by simp⟩
   ·obtain rfl:j=f.text.length:=by omega
    rw [←hsc] at hz3 hal⊢;clear hsc;simp (maxSteps:=9^9) (disch:=omega) [-List.map_replicate,-List.map_set,-List.getD_eq_getElem?_getD,-getElem?_pos,-getElem?_neg,om,h3,hgk,hEl];cases ob with
    | false=>exact ⟨k+1,_,.inl ⟨⟨by omega,.inr ⟨n3,z3,rfl,hz3⟩,by omega⟩,by omega,⟨rfl,by simp⟩,rfl⟩⟩
    | true=>exact ⟨k+1,_,.inr ⟨⟨by omega,.inr ⟨n3,z3,rfl,hz3⟩,by omega,by simp⟩,by omega,⟨rfl,by simp⟩,rfl⟩⟩
 ·obtain rfl:k=CH.length:=by omega
  have hlast:=qY;have hAl:(dS u CH CH.length).length<1000000:=by omega
  have hcg: ∀i (h:i<(dS u CH CH.length).length),(aN (dS u CH CH.length))[i]?=some (.agg [.int .i64 (dS u CH CH.length)[i].1,.int .i64 (dS u CH CH.length)[i].2]):=fun i h=>get_map _ _ h;have hcl:(aN (dS u CH CH.length)).length=(dS u CH CH.length).length:=by simp [aN]
  have hcell:aN [(1,u),(2,u)]= [.agg [.int .i64 1,.int .i64 u],.agg [.int .i64 2,.int .i64 u]]:=rfl;clear hE hF hlast;generalize dS u CH CH.length=S at*
  rcases hrep with ⟨rfl,rfl⟩ | ⟨n3,z3,rfl,hz3⟩
  case' inl=>obtain rfl:=hob rfl
  case inl=>
   simp (maxSteps:=9^9) (disch:=omega) [-List.map_replicate,-List.map_set,-List.getD_eq_getElem?_getD,-getElem?_pos,-getElem?_neg,om,hEl]
   refine Wp.aA (fun (i:Nat)=>2-i) (fun i=> [none,some (.int .i64 root),some (.str lang),none,some (.ptr 0 0),none,none,none,none,none,some (.ay 2 2),none,none,none,none,some (.ay 3 i),some (.int .i64 i),none,none,none,none,none,none,none,none,none,none,none,none,none,none,none,none,none,none,none,none,none,none]) (fun i=> [.var 26 [.ah c.ln c.lz L1,.ah c.bn c.bz L2,.ah c.sn c.sz L3],.var 41 [.int .i64 root,.str lang,.ah none 3 AS],.sl ⟨false,some 28,none⟩ 2 [.agg [.int .i64 1,.int .i64 u],.agg [.int .i64 2,.int .i64 u]],.sl ⟨false,some 57,none⟩ 3 (aF ((([(1,u),(2,u)]:List Cell).take i).map fun z=>(z,val z)))])
    (fun i=>i≤2) ?_ 0 (by omega) (by simp) (by simp [aF])
   intro i hil;have v1:=wv (1,u);have v2:=wv (2,u);unfold iC at v1 v2;simp only at v1 v2;clear hcg wv;have:i=0∨i=1∨i=2:=by omega
   rcases this with rfl | rfl | rfl
   ·simp (maxSteps:=9^9) (disch:=omega) [-List.map_replicate,-List.map_set,-List.getD_eq_getElem?_getD,-getElem?_pos,-getElem?_neg,om,v1,ae,aF,kr];exact ⟨1,by omega,by omega,⟨by omega,by omega⟩,by simp⟩
   ·simp (maxSteps:=9^9) (disch:=omega) [-List.map_replicate,-List.map_set,-List.getD_eq_getElem?_getD,-getElem?_pos,-getElem?_neg,om,v2,ae,aF,kr];exact ⟨2,by omega,by omega,⟨by omega,by omega⟩,by simp⟩
   ·simp (maxSteps:=9^9) (disch:=omega) [-List.map_replicate,-List.map_set,-List.getD_eq_getElem?_getD,-getElem?_pos,-getElem?_neg,om,ae,aF,kr]
  case inr=>
   generalize aN S=E at*
   simp (maxSteps:=9^9) (disch:=omega) [-List.map_replicate,-List.map_set,-List.getD_eq_getElem?_getD,-getElem?_pos,-getElem?_neg,om,hEl]
   refine Wp.aA (fun (i:Nat)=>S.length-i) (fun i=> [none,some (.int .i64 root),some (.str lang),none,some (.ptr 0 0),none,none,none,none,none,some (.ah n3 z3 E),none,none,none,none,some (.ay 3 i),some (.int .i64 i),none,none,none,none,none,none,none,none,none,none,none,none,none,none,none,none,none,none,none,none,none,none]) (fun i=> [.var 26 [.ah c.ln c.lz L1,.ah c.bn c.bz L2,.ah c.sn c.sz L3],.var 41 [.int .i64 root,.str lang,.ah none 3 AS],.sl ⟨ob,some 28,none⟩ 2 [.agg [.int .i64 1,.int .i64 u],.agg [.int .i64 2,.int .i64 u]],.sl ⟨false,some 57,none⟩ 3 (aF ((S.take i).map fun z=>(z,val z)))])
    (fun i=>i≤S.length) ?_ 0 (by omega) (by simp) (by simp [aF])
   intro i hil;by_cases h1:i<S.length
   ·have hgi:=hcg i h1;have hv:=wv S[i];obtain rfl:=hz3 (ne_of_lt h1);have htk:S.take (i+1)=S.take i++ [S[i]]:=kA S h1;have hrl:(aF ((S.take i).map fun z=>(z,val z))).length=i:=by simp [aF];omega
    have hnew:aF ((S.take (i+1)).map fun z=>(z,val z))=aF ((S.take i).map fun z=>(z,val z))++ [.agg [.int .i64 S[i].1,.int .i64 S[i].2,.str (val S[i])]]:=by unfold aF;rw [htk,List.map_append,List.map_append];rfl
    unfold iC at hv;generalize val S[i]=vv at*
    generalize S[i]=q at*
    generalize aF ((S.take i).map fun z=>(z,val z))=RR at*
    clear hcg htk wv;simp (maxSteps:=9^9) (disch:=omega) [-List.map_replicate,-List.map_set,-List.getD_eq_getElem?_getD,-getElem?_pos,-getElem?_neg,om,h1,hcl,hgi,hv,ae,hrl];exact ⟨i+1,by omega,by omega,⟨rfl,by simp⟩,by rw [←List.map_take];exact hnew.symm⟩
   ·obtain rfl:i=S.length:=by omega
    rw [List.take_length];have hrl:(aF (S.map fun z=>(z,val z))).length=S.length:=by simp [aF]
    generalize aF (S.map fun z=>(z,val z))=RR at*
    simp (maxSteps:=9^9) (disch:=omega) [-List.map_replicate,-List.map_set,-List.getD_eq_getElem?_getD,-getElem?_pos,-getElem?_neg,om,hcl,hrl]
theorem G0 (c:Ct) (hc:c.ok) (root u:Int) (lang:af): ∃nl z,ar cfg 14 [aO c,.int .i64 root,.str lang,.int .i64 u] []=some (.aT [.ah nl z (aF (aM Lib.itoa aB c root lang u).1),.int .i64 (aM Lib.itoa aB c root lang u).2], [])∧((aM Lib.itoa aB c root lang u).1≠ []→z=3):=by
 unfold aM;by_cases h0:cO c root lang=0
 ·rw [if_neg (by simpa using h0)];have hr:=ei h0;have hk:dh c=0:=(dR hr).1;have hns:=tw (it:=Lib.itoa) (b9 hk) (root:=root) (u:=u);rw [hns];by_cases h1:gb Lib.itoa c root u= []
  ·rw [if_pos h1];refine ⟨some true,0,?_,by simp⟩;have w1:=wx c hc root lang;have w2:=zN c hc root u;rw [if_pos hk,h1] at w2;rw [h0,if_pos rfl] at w1;refine ab PC Jt ?_;unfold wC at w1;generalize (K9 Lib.itoa c root lang).map cp=AS at*
   unfold aO bU at*
   generalize ao c.aa=L1 at*
   generalize c.aq.map bF=L2 at*
   generalize c.ag.map aI=L3 at*
   simp (maxSteps:=9^9) (disch:=omega) [-List.map_replicate,-List.map_set,-List.getD_eq_getElem?_getD,-getElem?_pos,-getElem?_neg,om,Lz,w1,w2,ae,aF]
  ·rw [if_neg h1]
   have hq:(fun z=>(z,bC Lib.itoa aB c lang root z))=fun z=>(z,Cb Lib.itoa aB c lang root z):=by funext z;unfold bC;rw [if_pos hr,Fi (b9 hk) (dR hr).2,zA sj (b9 hk)]
   rw [hq,Ca];exact ⟨none,3,Ej c hc root u lang h0 h1,fun _=>rfl⟩
 ·rw [if_pos h0];refine ⟨some true,0,?_,by simp⟩;have w1:=wx c hc root lang;rw [if_neg h0] at w1;refine ab PC Jt ?_;unfold CT at w1;generalize cO c root lang=e at*
  unfold aO bU at*
  generalize ao c.aa=L1 at*
  generalize c.aq.map bF=L2 at*
  generalize c.ag.map aI=L3 at*
  simp (maxSteps:=9^9) (disch:=omega) [-List.map_replicate,-List.map_set,-List.getD_eq_getElem?_getD,-getElem?_pos,-getElem?_neg,om,Lz,w1,h0,ae,aF]
end Go.Proofs.YtfnkchadeaedlaaGreatDoor
