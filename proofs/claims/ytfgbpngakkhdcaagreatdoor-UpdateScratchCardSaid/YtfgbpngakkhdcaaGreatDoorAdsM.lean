/- The sheets of a catalog; Check. -/
import Derived.Test.YtfgbpngakkhdcaaGreatDoorAdM
open List renaming append_nil->aa3,getD_eq_getElem?_getD->aaE,map_replicate->aaO,map_set->aaP
open Nat renaming add_comm->aa4
set_option linter.all false
namespace Go.Proofs.YtfgbpngakkhdcaaGreatDoor
open Go.Am
set_option maxRecDepth 10000
set_option maxHeartbeats 4000000
theorem EL (P:List Int) (k:Nat):(eB P).take k=eB (P.take k):=by simp [eB]
theorem sR (P Q:List Int):eB P++eB Q=eB (P++Q):=by simp [eB]
theorem GI: ∀{l:List Int} {u:Int} {k:Nat},p9 l u=some k->k<l.length
 | x::r,u,k,h=>by
  unfold p9 at h;split at h
  ·cases h;simp
  ·cases hr:p9 r u with
   | none=>rw [hr] at h;cases h
   | some j=>rw [hr] at h;simp only [Option.map_some,Option.some.injEq] at h;have:=GI hr;simp only [List.length_cons];omega
theorem yF (o:Option Nat):(0<=c6 o)↔o.isSome=true:=by
 cases o with
 | none=>simp [c6]
 | some n=>simp [c6]
theorem jG (pre:List Sh) (x:Sh):((((x.unit<1∨1073741824<x.unit)∨x.level<1)∨4<x.level)->mg pre x=2)∧
  (¬ (((x.unit<1∨1073741824<x.unit)∨x.level<1)∨4<x.level)->((64<(x.mark.length:Int)∨(x.title.length:Int)<1)∨64<(x.title.length:Int))->mg pre x=4)∧
  (¬ (((x.unit<1∨1073741824<x.unit)∨x.level<1)∨4<x.level)-> ¬ ((64<(x.mark.length:Int)∨(x.title.length:Int)<1)∨64<(x.title.length:Int))->0<=c6 (aY pre x.unit)->mg pre x=6)∧
  (¬ (((x.unit<1∨1073741824<x.unit)∨x.level<1)∨4<x.level)-> ¬ ((64<(x.mark.length:Int)∨(x.title.length:Int)<1)∨64<(x.title.length:Int))-> ¬ 0<=c6 (aY pre x.unit)->mg pre x=0):=by
 unfold mg;refine ⟨fun h=> ?_,fun h1 h2=> ?_,fun h1 h2 h3=> ?_,fun h1 h2 h3=> ?_⟩
 ·rw [if_pos (by omega)]
 ·rw [if_neg (by omega),if_pos (by omega)]
 ·rw [if_neg (by omega),if_neg (by omega),if_pos ((yF _).1 h3)]
 ·rw [if_neg (by omega),if_neg (by omega),if_neg (fun h=>h3 ((yF _).2 h))]
theorem Qv (c:Ct) (hc:c.ok):aq cfg 88 [b8 c] []=some (.int .i64 (vU c.af c.ao), []):=by
 refine aa YW UP ?_;have hF:=fun (B:List Fc) nl z=>MP c hc nl z B;have hz:=hc.sz;have hl:=hc.sl;have hsh:=hc.sh;unfold vU;unfold b8 eV at*
 generalize aA c.af=A1 at*
 generalize c.aD.map fD=A2 at*
 have hBl:(c.ao.map cj).length=c.ao.length:=by simp
 have hE: ∀k (h:k<c.ao.length),(c.ao.map cj)[k]?=some (.agg [.int .i64 c.ao[k].unit,.int .i64 c.ao[k].par,.int .i64 c.ao[k].level,.str c.ao[k].mark,.str c.ao[k].title,.ag c.ao[k].fn c.ao[k].fz (c.ao[k].facts.map eW)]):=fun k h=>GD _ h
 have hfd: ∀k (h:k<c.ao.length),aq cfg 48 [.ag c.sn 6 ((c.ao.map cj).take k),.int .i64 c.ao[k].unit] []=some (.int .i64 (c6 (aY (c.ao.take k) c.ao[k].unit)), []):=fun k h=>by
  have:=vw c.sn 6 (c.ao.take k) (fun _=>rfl) (by simp;omega) c.ao[k].unit
  rwa [List.map_take] at this
 have hpl:ai (c.ao.map cj)=true:=cW _;generalize c.ao.map cj=E at*
 generalize c.ao=L at*
 by_cases h0:256<L.length
 ·simp (maxSteps:=9^9) (disch:=omega) [-aaO,-aaP,-aaE,-getElem?_pos,-getElem?_neg,om,Qw,h0,hBl]
 rw [if_neg h0];simp (maxSteps:=9^9) (disch:=omega) [-aaO,-aaP,-aaE,-getElem?_pos,-getElem?_neg,om,Qw,h0,hBl];refine Wp.aP (fun (a:Nat×Nat×List Int×List ad)=>L.length-a.1) (fun a=> [none,some (.ptr 0 0),none,some (.ax (1+a.2.1) a.2.2.1.length),none,none,none,none,none,some (.ag c.sn c.sz E),some (.int .i64 L.length),some (.int .i64 a.1),none,none,none,none,none,none,none,none,none,none,none,none,none,none,none,none]) (fun a=> .var 26 [.ag c.ln c.lz A1,.ag c.bn c.bz A2,.ag c.sn c.sz E]::a.2.2.2) (fun a=>nG c.af [] [] L=nG c.af (L.take a.1) a.2.2.1 (L.drop a.1)∧a.1<=L.length∧a.2.1<a.2.2.2.length∧ad.at a.2.2.2 a.2.1= .sl ⟨false,some 3,none⟩ 1 (eB a.2.2.1)∧a.2.2.1.length<=a.1∧ ∀n,shut n a.2.2.2=true) ?_ (0,0, [], [.sl ⟨false,some 3,none⟩ 1 []]) ⟨by simp,by simp,by simp,rfl,by simp,fun _=>rfl⟩ (by simp) rfl;rintro ⟨i,j,P,J⟩ ⟨hi,hil,hj,hjb,hPl,hJ⟩;simp only at hi hil hj hjb hPl hJ⊢;rw [hi];clear hi;by_cases h1:i<L.length
 ·have hg:=hE i h1;obtain hz6:c.sz=6:=hz (ne_of_lt h1);rw [hz6] at hF⊢;have hh:=hfd i h1;have hso:=hsh L[i] (List.getElem_mem h1);have hFF:=hF L[i].facts L[i].fn L[i].fz hso.fz hso.fl;rw [List.drop_eq_getElem_cons h1];simp only [nG];have htk:L.take (i+1)=L.take i++ [L[i]]:=vP L h1;clear hE hfd hF hz hsh hso;generalize L[i]=x at*
  generalize x.facts.map eW=FA at*
  generalize pI c.af x.facts=fe at*
  have hix:=HJ none 1 P (fun _=>rfl) (by omega) x.par;rw [Jx] at hix;obtain ⟨ct,hctd⟩: ∃ct,ct=ad.var 26 [.ag c.ln c.lz A1,.ag c.bn c.bz A2,.ag c.sn 6 E]:=⟨_,rfl⟩;obtain ⟨bs,hbs⟩: ∃bs,bs=ct::J:=⟨_,rfl⟩;rw [<-hctd,<-hbs];have hbl:bs.length=J.length+1:=by rw [hbs];rfl
  have hcu: ∀n,shut n [ct]=true:=fun n=>by rw [hctd];rfl
  have e0: ∀l,ad.at (bs++l) 0= .var 26 [.ag c.ln c.lz A1,.ag c.bn c.bz A2,.ag c.sn 6 E]:=fun l=>by rw [hbs,hctd];rfl
  have e0':=e0 [];rw [aa3] at e0'
  have e1: ∀l,ad.at (bs++l) (1+j)= .sl ⟨false,some 3,none⟩ 1 (eB P):=fun l=>by
   rw [hbs,aa4];show ad.at (J++l) j=_;rw [fG _ _ hj,hjb]
  have e1':=e1 [];rw [aa3] at e1'
  have mk: ∀Y:ad,(∀n,shut n [Y]=true)-> ∃C,C=ct::J.set j Y∧(∀l,(bs++l).set (1+j) Y=C++l)∧C.length=bs.length∧(∀l,ad.at (C++l) 0= .var 26 [.ag c.ln c.lz A1,.ag c.bn c.bz A2,.ag c.sn 6 E])∧(∀l m,(C++l)[bs.length+m]?=l[m]?)∧(∀l m X,(C++l).set (bs.length+m) X=C++l.set m X)∧C.map (bO bs.length)=C∧(∀l,(C++l).take bs.length=C)∧(∀l m,ad.at (C++l) (bs.length+m)=ad.at l m):=fun Y hY=>by
   have hCl:(ct::J.set j Y).length=bs.length:=by rw [hbl];simp
   refine ⟨ct::J.set j Y,rfl,fun l=> ?_,hCl,fun l=>by rw [hctd];rfl,fun l m=>by rw [<-hCl];exact dZ _ _ _,fun l m X=>by rw [<-hCl];exact cX _ _ _ _,?_,fun l=>List.take_left' hCl,fun l m=>by rw [<-hCl,eC]⟩
   ·rw [hbs,aa4];show ct::((J++l).set j Y)=_;rw [List.set_append_left _ _ hj];rfl
   ·refine shut_map (Nat.le_refl _) ?_;have h2:=hcu bs.length;have h3:shut bs.length (J.set j Y)=true:=(show pF (J.set j Y) from pF.set (fun n=>hJ n) j (fun n=>hY n)) _;show shut bs.length ([ct]++J.set j Y)=true;rw [eF,h2,h3];rfl
  have a1:bs.length+1-bs.length=1:=by omega
  have a2:bs.length+1+1-bs.length=2:=by omega
  have a3:bs.length+1+1+1-bs.length=3:=by omega
  have hil2:(eB P).length=P.length:=HI P;have hitk: ∀k,(eB P).take k=eB (P.take k):=EL P;generalize hV:(if mg (L.take i) x=0 then _ else mg (L.take i) x)=V;have b0: ∀l:List ad,(bs++l)[bs.length]?=l[0]?:=fun l=>by have:=dZ bs l 0;simpa using this
  have b1: ∀l:List ad,(bs++l)[bs.length+1]?=l[1]?:=fun l=>dZ bs l 1;have b2: ∀l:List ad,(bs++l)[bs.length+1+1]?=l[2]?:=fun l=>dZ bs l 2;by_cases hpar:x.par=0
  ·have hpl0:gx P x=some 0:=by unfold gx;rw [if_pos hpar]
   rw [hpl0] at hV;by_cases hP0:P= []
   ·subst hP0;obtain ⟨C,hC,s1,s2,s3,s4,s5,s6,s7,s8⟩:=mk (.sl ⟨false,some 3,none⟩ 1 (eB []++ [.int .i64 x.unit])) (fun n=>rfl);have s80: ∀l,ad.at (C++l) bs.length=ad.at l 0:=fun l=>by simpa using s8 l 0
    have s40: ∀l,(C++l)[bs.length]?=l[0]?:=fun l=>by simpa using s4 l 0
    have s50: ∀l X,(C++l).set bs.length X=C++l.set 0 X:=fun l X=>by simpa using s5 l 0 X
    clear hbs hctd mk hcu;simp (maxSteps:=9^9) (disch:=omega) [-aaO,-aaP,-aaE,-getElem?_pos,-getElem?_neg,om,h1,hg,ab,hh,hFF,hpar,hix,  e0,e0',e1,e1',s1,s2,s3,s4,s5,s6,s7,s8,s80,s40,s50,b2,b1,b0,a1,a2,a3,hil2,hitk];simp only at hV;obtain ⟨k1,k2,k3,k4⟩:=jG (L.take i) x;by_cases f1:((x.unit<1∨1073741824<x.unit)∨x.level<1)∨4<x.level
    ·rw [if_pos f1];rw [k1 f1,if_neg (by decide)] at hV;exact hV
    rw [if_neg f1];by_cases f2:(64<(x.mark.length:Int)∨(x.title.length:Int)<1)∨64<(x.title.length:Int)
    ·rw [if_pos f2];rw [k2 f1 f2,if_neg (by decide)] at hV;exact hV
    rw [if_neg f2];by_cases f3:0<=c6 (aY (L.take i) x.unit)
    ·rw [if_pos f3];rw [k3 f1 f2 f3,if_neg (by decide)] at hV;exact hV
    rw [if_neg f3];rw [k4 f1 f2 f3,if_pos rfl] at hV;rw [if_neg (by decide)] at hV;by_cases f5:fe=0
    ·rw [if_pos f5];rw [if_pos f5] at hV;exact ⟨i+1,j, [x.unit],J.set j (.sl ⟨false,some 3,none⟩ 1 [.int .i64 x.unit]),⟨by rw [htk];exact hV.symm,by omega,by simpa using hj,by rw [bC _ _ _ hj,if_pos rfl];rfl,by simp,fun n=>pF.set (fun n=>hJ n) j (fun n=>rfl) n⟩,by omega,⟨⟨rfl,rfl⟩,by simp⟩,hC⟩
    ·rw [if_neg f5];rw [if_neg f5] at hV;exact hV
   ·have hPl0: ¬ P.length=0:=fun h=>hP0 (List.length_eq_zero_iff.1 h);have hPl1: ¬ 0=P.length:=fun h=>hPl0 h.symm;obtain ⟨C,hC,s1,s2,s3,s4,s5,s6,s7,s8⟩:=mk (.gone) (fun n=>rfl);have s80: ∀l,ad.at (C++l) bs.length=ad.at l 0:=fun l=>by simpa using s8 l 0
    have s40: ∀l,(C++l)[bs.length]?=l[0]?:=fun l=>by simpa using s4 l 0
    have s50: ∀l X,(C++l).set bs.length X=C++l.set 0 X:=fun l X=>by simpa using s5 l 0 X
    clear hbs hctd mk hcu;simp (maxSteps:=9^9) (disch:=omega) [-aaO,-aaP,-aaE,-getElem?_pos,-getElem?_neg,om,h1,hg,ab,hh,hFF,hpar,hix,hPl0,hPl1,e0,e0',e1,e1',s1,s2,s3,s4,s5,s6,s7,s8,s80,s40,s50,b2,b1,b0,a1,a2,a3,hil2,hitk];simp only at hV;obtain ⟨k1,k2,k3,k4⟩:=jG (L.take i) x;by_cases f1:((x.unit<1∨1073741824<x.unit)∨x.level<1)∨4<x.level
    ·rw [if_pos f1];rw [k1 f1,if_neg (by decide)] at hV;exact hV
    rw [if_neg f1];by_cases f2:(64<(x.mark.length:Int)∨(x.title.length:Int)<1)∨64<(x.title.length:Int)
    ·rw [if_pos f2];rw [k2 f1 f2,if_neg (by decide)] at hV;exact hV
    rw [if_neg f2];by_cases f3:0<=c6 (aY (L.take i) x.unit)
    ·rw [if_pos f3];rw [k3 f1 f2 f3,if_neg (by decide)] at hV;exact hV
    rw [if_neg f3];rw [k4 f1 f2 f3,if_pos rfl] at hV;rw [if_neg (by decide)] at hV;by_cases f5:fe=0
    ·rw [if_pos f5];rw [if_pos f5] at hV;have hb: ∀l,C++l=ct::(J.set j .gone++l):=fun l=>by rw [hC];rfl
     refine ⟨i+1,J.length+2, []++ [x.unit],_,⟨by rw [htk];exact hV.symm,by omega,?_,?_,?_,?_⟩,by omega,⟨⟨by omega,by simp⟩,by simp⟩,hb _⟩
     ·simp
     ·rw [show J.length+2=(J.set j ad.gone).length+2 by simp,eC];rw [<-sR];rfl
     ·simp
     ·exact fun n=>pF.app (pF.set (fun n=>hJ n) j (fun n=>rfl)) (fun n=>rfl) n
    ·rw [if_neg f5];rw [if_neg f5] at hV;exact hV
  ·cases hI:p9 P x.par with
   | none=>
    have hpl0:gx P x=none:=by unfold gx;rw [if_neg hpar,hI];rfl
    rw [hpl0] at hV;rw [hI] at hix;simp only at hix;clear mk;simp (maxSteps:=9^9) (disch:=omega) [-aaO,-aaP,-aaE,-getElem?_pos,-getElem?_neg,om,h1,hg,ab,hh,hFF,hpar,hix,e0,e0',e1,e1',b2,b1,b0,a1,a2,a3,hil2,hitk];simp only at hV;obtain ⟨k1,k2,k3,k4⟩:=jG (L.take i) x;by_cases f1:((x.unit<1∨1073741824<x.unit)∨x.level<1)∨4<x.level
    ·rw [if_pos f1];rw [k1 f1,if_neg (by decide)] at hV;exact hV
    rw [if_neg f1];by_cases f2:(64<(x.mark.length:Int)∨(x.title.length:Int)<1)∨64<(x.title.length:Int)
    ·rw [if_pos f2];rw [k2 f1 f2,if_neg (by decide)] at hV;exact hV
    rw [if_neg f2];by_cases f3:0<=c6 (aY (L.take i) x.unit)
    ·rw [if_pos f3];rw [k3 f1 f2 f3,if_neg (by decide)] at hV;exact hV
    rw [if_neg f3];rw [k4 f1 f2 f3,if_pos rfl] at hV;exact hV
   | some k=>
    have hpl0:gx P x=some (k+1):=by unfold gx;rw [if_neg hpar,hI];rfl
    rw [hpl0] at hV;rw [hI] at hix;simp only [Nat.zero_add] at hix;have hkl:=GI hI;have hk1:((k:Int)+1).toNat=k+1:=by omega
    have hk2: ¬ ((k:Int)+1=0):=by omega
    have hk3:((k:Int)+1)<=(P.length:Int):=by omega
    by_cases hkP:k+1=P.length
    ·have htkP:P.take (k+1)=P:=List.take_of_length_le (by omega);have hkP2:(k:Int)+1=(P.length:Int):=by omega
     obtain ⟨C,hC,s1,s2,s3,s4,s5,s6,s7,s8⟩:=mk (.sl ⟨false,some 3,none⟩ 1 (eB P++ [.int .i64 x.unit])) (fun n=>rfl);have s80: ∀l,ad.at (C++l) bs.length=ad.at l 0:=fun l=>by simpa using s8 l 0
     have s40: ∀l,(C++l)[bs.length]?=l[0]?:=fun l=>by simpa using s4 l 0
     have s50: ∀l X,(C++l).set bs.length X=C++l.set 0 X:=fun l X=>by simpa using s5 l 0 X
     clear hbs hctd mk hcu;simp (maxSteps:=9^9) (disch:=omega) [-aaO,-aaP,-aaE,-getElem?_pos,-getElem?_neg,om,h1,hg,ab,hh,hFF,hpar,hix,hk1,hk2,hk3,hkP,e0,e0',e1,e1',s1,s2,s3,s4,s5,s6,s7,s8,s80,s40,s50,b2,b1,b0,a1,a2,a3,hil2,hitk];simp only at hV;obtain ⟨k1,k2,k3,k4⟩:=jG (L.take i) x;by_cases f1:((x.unit<1∨1073741824<x.unit)∨x.level<1)∨4<x.level
     ·rw [if_pos f1];rw [k1 f1,if_neg (by decide)] at hV;exact hV
     rw [if_neg f1];by_cases f2:(64<(x.mark.length:Int)∨(x.title.length:Int)<1)∨64<(x.title.length:Int)
     ·rw [if_pos f2];rw [k2 f1 f2,if_neg (by decide)] at hV;exact hV
     rw [if_neg f2];by_cases f3:0<=c6 (aY (L.take i) x.unit)
     ·rw [if_pos f3];rw [k3 f1 f2 f3,if_neg (by decide)] at hV;exact hV
     rw [if_neg f3];rw [k4 f1 f2 f3,if_pos rfl] at hV;by_cases f4:12<=(k:Int)+1
     ·rw [if_pos f4];rw [if_pos (by omega)] at hV;exact hV
     rw [if_neg f4];rw [if_neg (by omega)] at hV;by_cases f5:fe=0
     ·rw [if_pos f5];rw [if_pos f5] at hV;rw [htkP] at hV;exact ⟨i+1,j,P++ [x.unit],J.set j (.sl ⟨false,some 3,none⟩ 1 (eB P++ [.int .i64 x.unit])),⟨by rw [htk];exact hV.symm,by omega,by simpa using hj,by rw [bC _ _ _ hj,if_pos rfl,<-sR];rfl,by simp;omega,fun n=>pF.set (fun n=>hJ n) j (fun n=>rfl) n⟩,by omega,⟨⟨rfl,by simp⟩,by simp⟩,hC⟩
     ·rw [if_neg f5];rw [if_neg f5] at hV;exact hV
    ·have hkP2: ¬ (k+1=P.length):=hkP;obtain ⟨C,hC,s1,s2,s3,s4,s5,s6,s7,s8⟩:=mk (.gone) (fun n=>rfl);have s80: ∀l,ad.at (C++l) bs.length=ad.at l 0:=fun l=>by simpa using s8 l 0
     have s40: ∀l,(C++l)[bs.length]?=l[0]?:=fun l=>by simpa using s4 l 0
     have s50: ∀l X,(C++l).set bs.length X=C++l.set 0 X:=fun l X=>by simpa using s5 l 0 X
     clear hbs hctd mk hcu;simp (maxSteps:=9^9) (disch:=omega) [-aaO,-aaP,-aaE,-getElem?_pos,-getElem?_neg,om,h1,hg,ab,hh,hFF,hpar,hix,hk1,hk2,hk3,hkP,e0,e0',e1,e1',s1,s2,s3,s4,s5,s6,s7,s8,s80,s40,s50,b2,b1,b0,a1,a2,a3,hil2,hitk];simp only at hV;obtain ⟨k1,k2,k3,k4⟩:=jG (L.take i) x;by_cases f1:((x.unit<1∨1073741824<x.unit)∨x.level<1)∨4<x.level
     ·rw [if_pos f1];rw [k1 f1,if_neg (by decide)] at hV;exact hV
     rw [if_neg f1];by_cases f2:(64<(x.mark.length:Int)∨(x.title.length:Int)<1)∨64<(x.title.length:Int)
     ·rw [if_pos f2];rw [k2 f1 f2,if_neg (by decide)] at hV;exact hV
     rw [if_neg f2];by_cases f3:0<=c6 (aY (L.take i) x.unit)
     ·rw [if_pos f3];rw [k3 f1 f2 f3,if_neg (by decide)] at hV;exact hV
     rw [if_neg f3];rw [k4 f1 f2 f3,if_pos rfl] at hV;by_cases f4:12<=(k:Int)+1
     ·rw [if_pos f4];rw [if_pos (by omega)] at hV;exact hV
     rw [if_neg f4];rw [if_neg (by omega)] at hV;by_cases f5:fe=0
     ·rw [if_pos f5];rw [if_pos f5] at hV;have hb: ∀l,C++l=ct::(J.set j .gone++l):=fun l=>by rw [hC];rfl
      refine ⟨i+1,J.length+2,P.take (k+1)++ [x.unit],_,⟨by rw [htk];exact hV.symm,by omega,?_,?_,?_,?_⟩,by omega,⟨⟨by omega,by simp;omega⟩,by simp⟩,hb _⟩
      ·simp
      ·rw [show J.length+2=(J.set j ad.gone).length+2 by simp,eC];rw [<-sR];rfl
      ·simp;omega
      ·exact fun n=>pF.app (pF.set (fun n=>hJ n) j (fun n=>rfl)) (fun n=>rfl) n
     ·rw [if_neg f5];rw [if_neg f5] at hV;exact hV
 ·rw [List.drop_eq_nil_of_le (by omega)];simp (maxSteps:=9^9) (disch:=omega) [-aaO,-aaP,-aaE,-getElem?_pos,-getElem?_neg,om,h1,nG]
theorem vV (c:Ct) (hc:c.ok):aq cfg 46 [b8 c] []=some (.int .i64 (iE c), []):=by
 refine aa YX UQ ?_;have h1:=Jz c hc;have h2:=MO c hc;have h3:=Qv c hc;unfold iE;unfold b8 eV at*
 generalize qa c.af=e1 at*
 generalize vQ c.af c.aD=e2 at*
 generalize vU c.af c.ao=e3 at*
 by_cases k1:e1=0
 ·by_cases k2:e2=0
  ·simp (maxSteps:=9^9) (disch:=omega) [-aaO,-aaP,-aaE,-getElem?_pos,-getElem?_neg,om,MW,h1,h2,h3,k1,k2]
  ·simp (maxSteps:=9^9) (disch:=omega) [-aaO,-aaP,-aaE,-getElem?_pos,-getElem?_neg,om,MW,h1,h2,k1,k2]
 ·simp (maxSteps:=9^9) (disch:=omega) [-aaO,-aaP,-aaE,-getElem?_pos,-getElem?_neg,om,MW,h1,k1]
end Go.Proofs.YtfgbpngakkhdcaaGreatDoor
