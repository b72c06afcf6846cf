/- The sheets of a catalog; Check. -/
import Derived.Test.YtfgbpngakkhdcaaGreatDoorAdM
open Bool renaming false->T
open Go.Am.AV renaming ah->γ,int->R
open Go.IntKind renaming i64->S
open List renaming length->Ê,append_nil->O,getD_eq_getElem?_getD->w,map_replicate->F,map_set->H
open Nat renaming add_comm->U
open Option renaming none->M,some->N
open Option.some renaming injEq->Z
open _root_ renaming List->W,getElem?_neg->K,getElem?_pos->I,if_neg->A,if_pos->G
set_option linter.all false
namespace Go.Proofs.YtfgbpngakkhdcaaGreatDoor
open Go.Am
set_option maxRecDepth 10000
set_option maxHeartbeats 4000000
theorem GW (P:W Int) (k:Nat):(dq P).take k=dq (P.take k):=by simp [dq]
theorem uy (P Q:W Int):dq P++dq Q=dq (P++Q):=by simp [dq]
theorem IY: ∀{l:W Int} {u:Int} {k:Nat},rA l u=N k->k<Ê l
 | x::r,u,k,h=>by
  unfold rA at h;split at h
  ·cases h;simp
  ·cases hr:rA r u with
   | none=>rw [hr] at h;cases h
   | some j=>rw [hr] at h;simp only [Option.map_some,Z] at h;have:=IY hr;simp only [List.length_cons];omega
theorem Ag (o:Option Nat):(0<=aJ o)↔o.isSome=true:=by
 cases o with
 | none=>simp [aJ]
 | some n=>simp [aJ]
theorem kp (pre:W Sh) (x:Sh):((((x.unit<1\/1073741824<x.unit)\/x.level<1)\/4<x.level)->kY pre x=2)/\
  (¬ (((x.unit<1\/1073741824<x.unit)\/x.level<1)\/4<x.level)->((64<(x.mark.length:Int)\/(x.title.length:Int)<1)\/64<(x.title.length:Int))->kY pre x=4)/\
  (¬ (((x.unit<1\/1073741824<x.unit)\/x.level<1)\/4<x.level)-> ¬ ((64<(x.mark.length:Int)\/(x.title.length:Int)<1)\/64<(x.title.length:Int))->0<=aJ (aL pre x.unit)->kY pre x=6)/\
  (¬ (((x.unit<1\/1073741824<x.unit)\/x.level<1)\/4<x.level)-> ¬ ((64<(x.mark.length:Int)\/(x.title.length:Int)<1)\/64<(x.title.length:Int))-> ¬ 0<=aJ (aL pre x.unit)->kY pre x=0):=by
 unfold kY;refine ⟨fun h=> ?_,fun h1 h2=> ?_,fun h1 h2 h3=> ?_,fun h1 h2 h3=> ?_⟩
 ·rw [G (by omega)]
 ·rw [A (by omega),G (by omega)]
 ·rw [A (by omega),A (by omega),G ((Ag _).1 h3)]
 ·rw [A (by omega),A (by omega),A (fun h=>h3 ((Ag _).2 h))]
theorem TS (c:Ct) (hc:c.ok):ar cfg 88 [br c] []=N (R S (xw c.ad c.ai), []):=by
 refine aa ado Yr ?_;have hF:=fun (B:W Fc) nl z=>PT c hc nl z B;have hz:=hc.sz;have hl:=hc.sl;have Ĕ:=hc.sh;unfold xw;unfold br dm at*
 generalize au c.ad=A1 at*
 generalize c.av.map dc=A2 at*
 have ĕ:=bW bw c.ai;have hE: ∀k (h:k<c.ai.length),(c.ai.map bw)[k]?=N (.agg [R S c.ai[k].unit,R S c.ai[k].par,R S c.ai[k].level,.str c.ai[k].mark,.str c.ai[k].title,γ c.ai[k].fn c.ai[k].fz (c.ai[k].facts.map dQ)]):=fun k h=>gQ _ h
 have Ė: ∀k (h:k<c.ai.length),ar cfg 48 [γ c.sn 6 ((c.ai.map bw).take k),R S c.ai[k].unit] []=N (R S (aJ (aL (c.ai.take k) c.ai[k].unit)), []):=fun k h=>by
  have:=wX c.sn 6 (c.ai.take k) (fun _=>rfl) (by simp;omega) c.ai[k].unit
  rwa [List.map_take] at this
 have hpl:ak (c.ai.map bw)=true:=c6 _;generalize c.ai.map bw=E at*
 generalize c.ai=L at*
 by_cases h0:256<Ê L
 ·simp (maxSteps:=9^9) (disch:=omega) [-F,-H,-w,-I,-K,om,TU,h0,ĕ]
 rw [A h0];simp (maxSteps:=9^9) (disch:=omega) [-F,-H,-w,-I,-K,om,TU,h0,ĕ];refine Wp.az (fun (a:Nat×Nat×W Int×W af)=>Ê L-a.1) (fun a=> [M,N (.ptr 0 0),M,N (.aC (1+a.2.1) a.2.2.1.length),M,M,M,M,M,N (γ c.sn c.sz E),N (R S (Ê L)),N (R S a.1),M,M,M,M,M,M,M,M,M,M,M,M,M,M,M,M]) (fun a=> .var 26 [γ c.ln c.lz A1,γ c.bn c.bz A2,γ c.sn c.sz E]::a.2.2.2) (fun a=>oK c.ad [] [] L=oK c.ad (L.take a.1) a.2.2.1 (L.drop a.1)/\a.1<=Ê L/\a.2.1<a.2.2.2.length/\af.at a.2.2.2 a.2.1= .sl ⟨T,N 3,M⟩ 1 (dq a.2.2.1)/\a.2.2.1.length<=a.1/\ ∀n,shut n a.2.2.2=true) ?_ (0,0, [], [.sl ⟨T,N 3,M⟩ 1 []]) ⟨by simp,by simp,by simp,rfl,by simp,fun _=>rfl⟩ (by simp) rfl;rintro ⟨i,j,P,J⟩ ⟨hi,Ĝ,hj,ė,ĝ,hJ⟩;simp only at hi Ĝ hj ė ĝ hJ⊢;rw [hi];clear hi;by_cases h1:i<Ê L
 ·have hg:=hE i h1;obtain Ğ:c.sz=6:=hz (ne_of_lt h1);rw [Ğ] at hF⊢;have hh:=Ė i h1;have Đ:=Ĕ L[i] (List.getElem_mem h1);have hFF:=hF L[i].facts L[i].fn L[i].fz Đ.fz Đ.fl;rw [List.drop_eq_getElem_cons h1];simp only [oK];have ď:L.take (i+1)=L.take i++ [L[i]]:=mD L h1;clear hE Ė hF hz Ĕ Đ;generalize L[i]=x at*
  generalize x.facts.map dQ=FA at*
  generalize k9 c.ad x.facts=fe at*
  have ą:=Kd M 1 P (fun _=>rfl) (by omega) x.par;rw [Mc] at ą;obtain ⟨ct,Ā⟩: ∃ct,ct=af.var 26 [γ c.ln c.lz A1,γ c.bn c.bz A2,γ c.sn 6 E]:=⟨_,rfl⟩;obtain ⟨bs,Ć⟩: ∃bs,bs=ct::J:=⟨_,rfl⟩;rw [<-Ā,<-Ć];have ğ:Ê bs=Ê J+1:=by rw [Ć];rfl
  have Č: ∀n,shut n [ct]=true:=fun n=>by rw [Ā];rfl
  have e0: ∀l,af.at (bs++l) 0= .var 26 [γ c.ln c.lz A1,γ c.bn c.bz A2,γ c.sn 6 E]:=fun l=>by rw [Ć,Ā];rfl
  have Ċ:=e0 [];rw [O] at Ċ
  have e1: ∀l,af.at (bs++l) (1+j)= .sl ⟨T,N 3,M⟩ 1 (dq P):=fun l=>by
   rw [Ć,U];show af.at (J++l) j=_;rw [fX _ _ hj,ė]
  have ċ:=e1 [];rw [O] at ċ
  have mk: ∀Y:af,(∀n,shut n [Y]=true)-> ∃C,C=ct::J.set j Y/\(∀l,(bs++l).set (1+j) Y=C++l)/\Ê C=Ê bs/\(∀l,af.at (C++l) 0= .var 26 [γ c.ln c.lz A1,γ c.bn c.bz A2,γ c.sn 6 E])/\(∀l m,(C++l)[Ê bs+m]?=l[m]?)/\(∀l m X,(C++l).set (Ê bs+m) X=C++l.set m X)/\C.map (b9 (Ê bs))=C/\(∀l,(C++l).take (Ê bs)=C)/\(∀l m,af.at (C++l) (Ê bs+m)=af.at l m):=fun Y hY=>by
   have č:(ct::J.set j Y).length=Ê bs:=by rw [ğ];simp
   refine ⟨ct::J.set j Y,rfl,fun l=> ?_,č,fun l=>by rw [Ā];rfl,fun l m=>by rw [<-č];exact eo _ _ _,fun l m X=>by rw [<-č];exact dt _ _ _ _,?_,fun l=>List.take_left' č,fun l m=>by rw [<-č,eN]⟩
   ·rw [Ć,U];show ct::((J++l).set j Y)=_;rw [List.set_append_left _ _ hj];rfl
   ·refine shut_map (Nat.le_refl _) ?_;have h2:=Č (Ê bs);have h3:shut (Ê bs) (J.set j Y)=true:=(show qH (J.set j Y) from qH.set (fun n=>hJ n) j (fun n=>hY n)) _;show shut (Ê bs) ([ct]++J.set j Y)=true;rw [eO,h2,h3];rfl
  have a1:Ê bs+1-Ê bs=1:=by omega
  have a2:Ê bs+1+1-Ê bs=2:=by omega
  have a3:Ê bs+1+1+1-Ê bs=3:=by omega
  have Ă:(dq P).length=Ê P:=Ad P;have ă: ∀k,(dq P).take k=dq (P.take k):=GW P;generalize hV:(if kY (L.take i) x=0 then _ else kY (L.take i) x)=V;have b0: ∀l:W af,(bs++l)[Ê bs]?=l[0]?:=fun l=>by have:=eo bs l 0;simpa using this
  have b1: ∀l:W af,(bs++l)[Ê bs+1]?=l[1]?:=fun l=>eo bs l 1;have b2: ∀l:W af,(bs++l)[Ê bs+1+1]?=l[2]?:=fun l=>eo bs l 2;by_cases ā:x.par=0
  ·have Ą:gU P x=N 0:=by unfold gU;rw [G ā]
   rw [Ą] at hV;by_cases Ę:P= []
   ·subst Ę;obtain ⟨C,hC,s1,s2,s3,s4,s5,s6,s7,s8⟩:=mk (.sl ⟨T,N 3,M⟩ 1 (dq []++ [R S x.unit])) (fun n=>rfl);have ć: ∀l,af.at (C++l) (Ê bs)=af.at l 0:=fun l=>by simpa using s8 l 0
    have Ĉ: ∀l,(C++l)[Ê bs]?=l[0]?:=fun l=>by simpa using s4 l 0
    have ĉ: ∀l X,(C++l).set (Ê bs) X=C++l.set 0 X:=fun l X=>by simpa using s5 l 0 X
    clear Ć Ā mk Č;simp (maxSteps:=9^9) (disch:=omega) [-F,-H,-w,-I,-K,om,h1,hg,ab,hh,hFF,ā,ą,  e0,Ċ,e1,ċ,s1,s2,s3,s4,s5,s6,s7,s8,ć,Ĉ,ĉ,b2,b1,b0,a1,a2,a3,Ă,ă];simp only at hV;obtain ⟨k1,k2,k3,k4⟩:=kp (L.take i) x;by_cases f1:((x.unit<1\/1073741824<x.unit)\/x.level<1)\/4<x.level
    ·rw [G f1];rw [k1 f1,A (by decide)] at hV;exact hV
    rw [A f1];by_cases f2:(64<(x.mark.length:Int)\/(x.title.length:Int)<1)\/64<(x.title.length:Int)
    ·rw [G f2];rw [k2 f1 f2,A (by decide)] at hV;exact hV
    rw [A f2];by_cases f3:0<=aJ (aL (L.take i) x.unit)
    ·rw [G f3];rw [k3 f1 f2 f3,A (by decide)] at hV;exact hV
    rw [A f3];rw [k4 f1 f2 f3,G rfl] at hV;rw [A (by decide)] at hV;by_cases f5:fe=0
    ·rw [G f5];rw [G f5] at hV;exact ⟨i+1,j, [x.unit],J.set j (.sl ⟨T,N 3,M⟩ 1 [R S x.unit]),⟨by rw [ď];exact hV.symm,by omega,by simpa using hj,by rw [bO _ _ _ hj,G rfl];rfl,by simp,fun n=>qH.set (fun n=>hJ n) j (fun n=>rfl) n⟩,by omega,⟨⟨rfl,rfl⟩,by simp⟩,hC⟩
    ·rw [A f5];rw [A f5] at hV;exact hV
   ·have Ď: ¬ Ê P=0:=fun h=>Ę (List.length_eq_zero_iff.1 h);have đ: ¬ 0=Ê P:=fun h=>Ď h.symm;obtain ⟨C,hC,s1,s2,s3,s4,s5,s6,s7,s8⟩:=mk (.gone) (fun n=>rfl);have ć: ∀l,af.at (C++l) (Ê bs)=af.at l 0:=fun l=>by simpa using s8 l 0
    have Ĉ: ∀l,(C++l)[Ê bs]?=l[0]?:=fun l=>by simpa using s4 l 0
    have ĉ: ∀l X,(C++l).set (Ê bs) X=C++l.set 0 X:=fun l X=>by simpa using s5 l 0 X
    clear Ć Ā mk Č;simp (maxSteps:=9^9) (disch:=omega) [-F,-H,-w,-I,-K,om,h1,hg,ab,hh,hFF,ā,ą,Ď,đ,e0,Ċ,e1,ċ,s1,s2,s3,s4,s5,s6,s7,s8,ć,Ĉ,ĉ,b2,b1,b0,a1,a2,a3,Ă,ă];simp only at hV;obtain ⟨k1,k2,k3,k4⟩:=kp (L.take i) x;by_cases f1:((x.unit<1\/1073741824<x.unit)\/x.level<1)\/4<x.level
    ·rw [G f1];rw [k1 f1,A (by decide)] at hV;exact hV
    rw [A f1];by_cases f2:(64<(x.mark.length:Int)\/(x.title.length:Int)<1)\/64<(x.title.length:Int)
    ·rw [G f2];rw [k2 f1 f2,A (by decide)] at hV;exact hV
    rw [A f2];by_cases f3:0<=aJ (aL (L.take i) x.unit)
    ·rw [G f3];rw [k3 f1 f2 f3,A (by decide)] at hV;exact hV
    rw [A f3];rw [k4 f1 f2 f3,G rfl] at hV;rw [A (by decide)] at hV;by_cases f5:fe=0
    ·rw [G f5];rw [G f5] at hV;have hb: ∀l,C++l=ct::(J.set j .gone++l):=fun l=>by rw [hC];rfl
     refine ⟨i+1,Ê J+2, []++ [x.unit],_,⟨by rw [ď];exact hV.symm,by omega,?_,?_,?_,?_⟩,by omega,⟨⟨by omega,by simp⟩,by simp⟩,hb _⟩
     ·simp
     ·rw [show (Ê J)+2=(J.set j af.gone).length+2 by simp,eN];rw [<-uy];rfl
     ·simp
     ·exact fun n=>qH.app (qH.set (fun n=>hJ n) j (fun n=>rfl)) (fun n=>rfl) n
    ·rw [A f5];rw [A f5] at hV;exact hV
  ·cases hI:rA P x.par with
   | none=>
    have Ą:gU P x=none:=by unfold gU;rw [A ā,hI];rfl
    rw [Ą] at hV;rw [hI] at ą;simp only at ą;clear mk;simp (maxSteps:=9^9) (disch:=omega) [-F,-H,-w,-I,-K,om,h1,hg,ab,hh,hFF,ā,ą,e0,Ċ,e1,ċ,b2,b1,b0,a1,a2,a3,Ă,ă];simp only at hV;obtain ⟨k1,k2,k3,k4⟩:=kp (L.take i) x;by_cases f1:((x.unit<1\/1073741824<x.unit)\/x.level<1)\/4<x.level
    ·rw [G f1];rw [k1 f1,A (by decide)] at hV;exact hV
    rw [A f1];by_cases f2:(64<(x.mark.length:Int)\/(x.title.length:Int)<1)\/64<(x.title.length:Int)
    ·rw [G f2];rw [k2 f1 f2,A (by decide)] at hV;exact hV
    rw [A f2];by_cases f3:0<=aJ (aL (L.take i) x.unit)
    ·rw [G f3];rw [k3 f1 f2 f3,A (by decide)] at hV;exact hV
    rw [A f3];rw [k4 f1 f2 f3,G rfl] at hV;exact hV
   | some k=>
    have Ą:gU P x=N (k+1):=by unfold gU;rw [A ā,hI];rfl
    rw [Ą] at hV;rw [hI] at ą;simp only [Nat.zero_add] at ą;have hkl:=IY hI;have ę:((k:Int)+1).toNat=k+1:=by omega
    have Ě: ¬ ((k:Int)+1=0):=by omega
    have ě:((k:Int)+1)<=(Ê P:Int):=by omega
    by_cases hkP:k+1=Ê P
    ·have Ē:P.take (k+1)=P:=List.take_of_length_le (by omega);have ē:(k:Int)+1=(Ê P:Int):=by omega
     obtain ⟨C,hC,s1,s2,s3,s4,s5,s6,s7,s8⟩:=mk (.sl ⟨T,N 3,M⟩ 1 (dq P++ [R S x.unit])) (fun n=>rfl);have ć: ∀l,af.at (C++l) (Ê bs)=af.at l 0:=fun l=>by simpa using s8 l 0
     have Ĉ: ∀l,(C++l)[Ê bs]?=l[0]?:=fun l=>by simpa using s4 l 0
     have ĉ: ∀l X,(C++l).set (Ê bs) X=C++l.set 0 X:=fun l X=>by simpa using s5 l 0 X
     clear Ć Ā mk Č;simp (maxSteps:=9^9) (disch:=omega) [-F,-H,-w,-I,-K,om,h1,hg,ab,hh,hFF,ā,ą,ę,Ě,ě,hkP,e0,Ċ,e1,ċ,s1,s2,s3,s4,s5,s6,s7,s8,ć,Ĉ,ĉ,b2,b1,b0,a1,a2,a3,Ă,ă];simp only at hV;obtain ⟨k1,k2,k3,k4⟩:=kp (L.take i) x;by_cases f1:((x.unit<1\/1073741824<x.unit)\/x.level<1)\/4<x.level
     ·rw [G f1];rw [k1 f1,A (by decide)] at hV;exact hV
     rw [A f1];by_cases f2:(64<(x.mark.length:Int)\/(x.title.length:Int)<1)\/64<(x.title.length:Int)
     ·rw [G f2];rw [k2 f1 f2,A (by decide)] at hV;exact hV
     rw [A f2];by_cases f3:0<=aJ (aL (L.take i) x.unit)
     ·rw [G f3];rw [k3 f1 f2 f3,A (by decide)] at hV;exact hV
     rw [A f3];rw [k4 f1 f2 f3,G rfl] at hV;by_cases f4:12<=(k:Int)+1
     ·rw [G f4];rw [G (by omega)] at hV;exact hV
     rw [A f4];rw [A (by omega)] at hV;by_cases f5:fe=0
     ·rw [G f5];rw [G f5] at hV;rw [Ē] at hV;exact ⟨i+1,j,P++ [x.unit],J.set j (.sl ⟨T,N 3,M⟩ 1 (dq P++ [R S x.unit])),⟨by rw [ď];exact hV.symm,by omega,by simpa using hj,by rw [bO _ _ _ hj,G rfl,<-uy];rfl,by simp;omega,fun n=>qH.set (fun n=>hJ n) j (fun n=>rfl) n⟩,by omega,⟨⟨rfl,by simp⟩,by simp⟩,hC⟩
     ·rw [A f5];rw [A f5] at hV;exact hV
    ·have ē: ¬ (k+1=Ê P):=hkP;obtain ⟨C,hC,s1,s2,s3,s4,s5,s6,s7,s8⟩:=mk (.gone) (fun n=>rfl);have ć: ∀l,af.at (C++l) (Ê bs)=af.at l 0:=fun l=>by simpa using s8 l 0
     have Ĉ: ∀l,(C++l)[Ê bs]?=l[0]?:=fun l=>by simpa using s4 l 0
     have ĉ: ∀l X,(C++l).set (Ê bs) X=C++l.set 0 X:=fun l X=>by simpa using s5 l 0 X
     clear Ć Ā mk Č;simp (maxSteps:=9^9) (disch:=omega) [-F,-H,-w,-I,-K,om,h1,hg,ab,hh,hFF,ā,ą,ę,Ě,ě,hkP,e0,Ċ,e1,ċ,s1,s2,s3,s4,s5,s6,s7,s8,ć,Ĉ,ĉ,b2,b1,b0,a1,a2,a3,Ă,ă];simp only at hV;obtain ⟨k1,k2,k3,k4⟩:=kp (L.take i) x;by_cases f1:((x.unit<1\/1073741824<x.unit)\/x.level<1)\/4<x.level
     ·rw [G f1];rw [k1 f1,A (by decide)] at hV;exact hV
     rw [A f1];by_cases f2:(64<(x.mark.length:Int)\/(x.title.length:Int)<1)\/64<(x.title.length:Int)
     ·rw [G f2];rw [k2 f1 f2,A (by decide)] at hV;exact hV
     rw [A f2];by_cases f3:0<=aJ (aL (L.take i) x.unit)
     ·rw [G f3];rw [k3 f1 f2 f3,A (by decide)] at hV;exact hV
     rw [A f3];rw [k4 f1 f2 f3,G rfl] at hV;by_cases f4:12<=(k:Int)+1
     ·rw [G f4];rw [G (by omega)] at hV;exact hV
     rw [A f4];rw [A (by omega)] at hV;by_cases f5:fe=0
     ·rw [G f5];rw [G f5] at hV;have hb: ∀l,C++l=ct::(J.set j .gone++l):=fun l=>by rw [hC];rfl
      refine ⟨i+1,Ê J+2,P.take (k+1)++ [x.unit],_,⟨by rw [ď];exact hV.symm,by omega,?_,?_,?_,?_⟩,by omega,⟨⟨by omega,by simp;omega⟩,by simp⟩,hb _⟩
      ·simp
      ·rw [show (Ê J)+2=(J.set j af.gone).length+2 by simp,eN];rw [<-uy];rfl
      ·simp;omega
      ·exact fun n=>qH.app (qH.set (fun n=>hJ n) j (fun n=>rfl)) (fun n=>rfl) n
     ·rw [A f5];rw [A f5] at hV;exact hV
 ·rw [List.drop_eq_nil_of_le (by omega)];simp (maxSteps:=9^9) (disch:=omega) [-F,-H,-w,-I,-K,om,h1,oK]
theorem xx (c:Ct) (hc:c.ok):ar cfg 46 [br c] []=N (R S (dU c), []):=by
 refine aa adp Ys ?_;have h1:=Mf c hc;have h2:=PS c hc;have h3:=TS c hc;unfold dU;unfold br dm at*
 generalize lQ c.ad=e1 at*
 generalize qN c.ad c.av=e2 at*
 generalize xw c.ad c.ai=e3 at*
 by_cases k1:e1=0
 ·by_cases k2:e2=0
  ·simp (maxSteps:=9^9) (disch:=omega) [-F,-H,-w,-I,-K,om,PV,h1,h2,h3,k1,k2]
  ·simp (maxSteps:=9^9) (disch:=omega) [-F,-H,-w,-I,-K,om,PV,h1,h2,k1,k2]
 ·simp (maxSteps:=9^9) (disch:=omega) [-F,-H,-w,-I,-K,om,PV,h1,k1]
