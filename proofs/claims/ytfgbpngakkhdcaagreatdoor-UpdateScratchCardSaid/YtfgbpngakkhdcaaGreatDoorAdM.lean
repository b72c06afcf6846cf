/- Catalogs as the machine's values. -/
import Derived.Test.YtfgbpngakkhdcaaGreatDoorIrs
import Derived.Test.YtfgbpngakkhdcaaGreatDoorCatM
import Derived.Test.YtfgbpngakkhdcaaGreatDoorAmFrame
open Bool renaming false_eq_true->aav,not_eq_true'->aax
open List renaming drop_eq_getElem_cons->aaB,drop_eq_nil_of_le->aaC,ext_getElem?->aaD,getD_eq_getElem?_getD->aaE,getElem?_eq_getElem->aaF,getElem?_set_ne->aaG,length_cons->aaH,length_pos_iff->aaK,map_append->aaL,map_cons->aaM,map_nil->aaN,map_replicate->aaO,map_set->aaP,mem_cons->aaQ,mem_cons_self->aaR,mem_map->aaS,nodup_append->aaT,nodup_cons->aaU,pairwise_map->aaV,set_append_left->aaW,set_comm->aaX,set_set->aaY,take_left'->aaZ
open Nat renaming le_refl->aa0
open Option renaming map_some->aa1
set_option linter.all false
namespace Go.Proofs.YtfgbpngakkhdcaaGreatDoor
open Go.Am
set_option maxRecDepth 10000
set_option maxHeartbeats 4000000
def aA (l:List ae):List AV:=l.map .str
def fD (l:Lb):AV:= .agg [.int .i64 l.el,.str l.lang,.str l.text,.int .i64 l.ix]
def eW (f:Fc):AV:= .agg [.int .i64 f.el,.str f.lang,.str f.text]
def cj (s:Sh):AV:= .agg [.int .i64 s.unit,.int .i64 s.par,.int .i64 s.level,.str s.mark,.str s.title,.ag s.fn s.fz (s.facts.map eW)]
def eV (c:Ct):List AV:= [.ag c.ln c.lz (aA c.af),.ag c.bn c.bz (c.aD.map fD),.ag c.sn c.sz (c.ao.map cj)]
def b8 (c:Ct):AV:= .agg (eV c)
structure Sh.ok (s:Sh):Prop where
 fz:s.facts≠ []->s.fz=3
 fl:s.facts.length<1000000
structure Ct.ok (c:Ct):Prop where
 lz:c.af≠ []->c.lz=1
 bz:c.aD≠ []->c.bz=4
 sz:c.ao≠ []->c.sz=6
 ll:c.af.length<1000000
 bl:c.aD.length<1000000
 sl:c.ao.length<1000000
 sh: ∀s∈c.ao,s.ok
@[simp] theorem vO: ∀(l:List ae),ai (aA l)=true
 | []=>rfl
 | x::r=>by simp [aA,ai,AV.plain];exact vO r
@[simp] theorem oP: ∀(l:List Lb),ai (l.map fD)=true
 | []=>rfl
 | x::r=>by simp [ai,fD,AV.plain,oP r]
@[simp] theorem jr: ∀(l:List Fc),ai (l.map eW)=true
 | []=>rfl
 | x::r=>by simp [ai,eW,AV.plain,jr r]
@[simp] theorem cW: ∀(l:List Sh),ai (l.map cj)=true
 | []=>rfl
 | x::r=>by simp [ai,cj,AV.plain,cW r]
theorem BH (L:List ae) {i:Nat} (h:i<L.length):(aA L)[i]?=some (.str (L.getD i [])):=by simp [aA,h,aaE]
@[simp] theorem ly (L:List ae):(aA L).length=L.length:=by simp [aA]
theorem get_map {α:Type} (f:α->AV) (l:List α) {i:Nat} (h:i<l.length):(l.map f)[i]?=some (f l[i]):=by simp [h]
theorem ne_of_lt {α:Type} {l:List α} {i:Nat} (h:i<l.length):l≠ []:=fun h0=>by rw [h0] at h;simp at h
theorem Un (L:List ae) {i:Nat} (h:i<L.length):L.drop i=L.getD i []::L.drop (i+1):=by rw [aaB h];simp [aaE,h]
def p8 (w:ae):List ae->Nat->Int
 | [],_=> -1
 | x::r,i=>if w==x then (i:Int) else p8 w r (i+1)
theorem lA (nl:Option Bool) (z:Nat) (L:List ae) (hz:L≠ []->z=1) (hL:L.length<1000000) (w:ae):aq cfg 89 [.ag nl z (aA L),.str w] []=some (.int .i64 (p8 w L 0), []):=by
 refine aa YM Uo ?_;simp (maxSteps:=9^9) (disch:=omega) [-aaO,-aaP,-aaE,-getElem?_pos,-getElem?_neg,om,Up,ly];refine Wp.aP (fun (i:Nat)=>L.length-i) (fun i=> [some (.ag nl z (aA L)),some (.str w),none,none,some (.int .i64 L.length),some (.int .i64 i),none,none]) (fun _=> []) (fun i=>p8 w L 0=p8 w (L.drop i) i∧i<=L.length) ?_ 0 ⟨by simp,by omega⟩ (by simp) rfl;rintro i ⟨hi,hl⟩;rw [hi];by_cases h1:i<L.length
 ·have hg:=BH L h1;obtain rfl:=hz (ne_of_lt h1);rw [Un L h1] at hi⊢;simp only [p8] at hi⊢;generalize L.getD i []=x at*
  cases he:w==x with
  | true=>simp (maxSteps:=9^9) (disch:=omega) [-aaO,-aaP,-aaE,-getElem?_pos,-getElem?_neg,om,h1,hg,he]
  | false=>rw [he] at hi;simp (maxSteps:=9^9) (disch:=omega) [-aaO,-aaP,-aaE,-getElem?_pos,-getElem?_neg,om,h1,hg,he];exact ⟨i+1,⟨by simp,by omega⟩,by omega,by simp⟩
 ·rw [aaC (by omega)];simp (maxSteps:=9^9) (disch:=omega) [-aaO,-aaP,-aaE,-getElem?_pos,-getElem?_neg,om,h1,p8]
theorem BI (w:ae): ∀(L:List ae) (i:Nat),decide (0<=p8 w L i)=gP L w
 | [],i=>rfl
 | x::r,i=>by
  simp only [p8,gP,List.any_cons];have ih:=BI w r (i+1);by_cases he:(w==x)=true
  ·simp only [he,if_true,Bool.true_or];simp
  ·rw [Bool.not_eq_true] at he;simp only [he,Bool.false_or,aav,if_false];exact ih
theorem oQ (nl:Option Bool) (z:Nat) (L:List ae) (hz:L≠ []->z=1) (hL:L.length<1000000) (w:ae):aq cfg 47 [.ag nl z (aA L),.str w] []=some (.bool (gP L w), []):=by
 refine aa YN Uq ?_;have h1:=lA nl z L hz hL w;rw [<-BI w L 0];by_cases h4:0<=p8 w L 0
 ·simp (maxSteps:=9^9) (disch:=omega) [-aaO,-aaP,-aaE,-getElem?_pos,-getElem?_neg,om,Qf,h1,h4]
 ·simp (maxSteps:=9^9) (disch:=omega) [-aaO,-aaP,-aaE,-getElem?_pos,-getElem?_neg,om,Qf,h1,h4]
theorem EF (w:ae): ∀(L:List ae) (i:Nat),p8 w L i=match sQ L w with | some k=>((i+k:Nat):Int) | none=> -1
 | [],i=>rfl
 | x::r,i=>by
  unfold p8 sQ;by_cases h:x=w
  ·subst h;rw [if_pos rfl];simp
  ·have hb:(w==x)=false:=by simpa using fun h'=>h h'.symm
   rw [if_neg h,hb];simp only [aav,if_false];rw [EF w r (i+1)];cases sQ r w with
   | none=>rfl
   | some k=>simp only [aa1];congr 1;omega
theorem Gx (w:ae) (L:List ae):p8 w L 0=rk L w:=by
 rw [EF];unfold rk;cases sQ L w with
 | none=>rfl
 | some k=>simp
def eB (l:List Int):List AV:=l.map (AV.int .i64)
@[simp] theorem HI (l:List Int):(eB l).length=l.length:=by simp [eB]
def BJ (w:Int):List Int->Nat->Int
 | [],_=> -1
 | x::r,i=>if w=x then (i:Int) else BJ w r (i+1)
theorem HJ (nl:Option Bool) (z:Nat) (L:List Int) (hz:L≠ []->z=1) (hL:L.length<1000000) (w:Int):aq cfg 64 [.ag nl z (eB L),.int .i64 w] []=some (.int .i64 (BJ w L 0), []):=by
 refine aa Ur O8 ?_;simp (maxSteps:=9^9) (disch:=omega) [-aaO,-aaP,-aaE,-getElem?_pos,-getElem?_neg,om,Qg];refine Wp.aP (fun (i:Nat)=>L.length-i) (fun i=> [some (.ag nl z (eB L)),some (.int .i64 w),none,none,some (.int .i64 L.length),some (.int .i64 i),none,none]) (fun _=> []) (fun i=>BJ w L 0=BJ w (L.drop i) i∧i<=L.length) ?_ 0 ⟨by simp,by omega⟩ (by simp) rfl;rintro i ⟨hi,hl⟩;rw [hi];by_cases h1:i<L.length
 ·have hg:(eB L)[i]?=some (.int .i64 L[i]):=by simp [eB,h1]
  obtain rfl:=hz (ne_of_lt h1);rw [aaB h1] at hi⊢;simp only [BJ] at hi⊢;generalize L[i]=x at*
  by_cases he:w=x
  ·simp (maxSteps:=9^9) (disch:=omega) [-aaO,-aaP,-aaE,-getElem?_pos,-getElem?_neg,om,h1,hg,he]
  ·rw [if_neg he] at hi;simp (maxSteps:=9^9) (disch:=omega) [-aaO,-aaP,-aaE,-getElem?_pos,-getElem?_neg,om,h1,hg,he];exact ⟨i+1,⟨by simp,by omega⟩,by omega,by simp⟩
 ·rw [aaC (by omega)];simp (maxSteps:=9^9) (disch:=omega) [-aaO,-aaP,-aaE,-getElem?_pos,-getElem?_neg,om,h1,BJ]
theorem Jx (w:Int): ∀(L:List Int) (i:Nat),BJ w L i=match p9 L w with | some k=>((i+k:Nat):Int) | none=> -1
 | [],i=>rfl
 | x::r,i=>by
  unfold BJ p9;by_cases h:x=w
  ·subst h;rw [if_pos rfl,if_pos rfl];simp
  ·rw [if_neg h,if_neg (fun h'=>h h'.symm)];rw [Jx w r (i+1)];cases p9 r w with
   | none=>rfl
   | some k=>simp only [aa1];congr 1;omega
def jA (a b:Int):Int:=if a<b then -1 else if a=b then 0 else 1
theorem Gy (a:Int):aq cfg 107 [.int .i64 a] []=some (.bool false, []):=by refine aa Us Qh ?_;simp (maxSteps:=9^9) (disch:=omega) [-aaO,-aaP,-aaE,-getElem?_pos,-getElem?_neg,om,O9]
theorem vv (a b:Int):aq cfg 60 [.int .i64 a,.int .i64 b] []=some (.int .i64 (jA a b), []):=by
 refine aa YO Ut ?_;have h1:=Gy a;have h2:=Gy b;unfold jA;by_cases h3:a<b
 ·simp (maxSteps:=9^9) (disch:=omega) [-aaO,-aaP,-aaE,-getElem?_pos,-getElem?_neg,om,MM,h1,h2,h3]
 ·by_cases h4:a=b
  ·subst h4;simp (maxSteps:=9^9) (disch:=omega) [-aaO,-aaP,-aaE,-getElem?_pos,-getElem?_neg,om,MM,h1]
  ·have h5:b<a:=by omega
   simp (maxSteps:=9^9) (disch:=omega) [-aaO,-aaP,-aaE,-getElem?_pos,-getElem?_neg,om,MM,h1,h2,h3,h4,h5]
theorem Gz (a:ae):aq cfg 184 [.str a] []=some (.bool false, []):=by refine aa Uu Qi ?_;simp (maxSteps:=9^9) (disch:=omega) [-aaO,-aaP,-aaE,-getElem?_pos,-getElem?_neg,om,Pa]
theorem GA (a b:ae):aq cfg 140 [.str a,.str b] []=some (.int .i64 (Lib.compareBytes a b), []):=by
 refine aa Uv Qj ?_;have h1:=Gz a;have h2:=Gz b;obtain ⟨k1,k2,k3⟩:=nE a b;obtain ⟨l1,l2,l3⟩:=nE b a;have sw:=GB a b;have k4:=Uw a b;rw [sw] at l1;generalize Lib.compareBytes a b=c at*
 rcases k3 with rfl | rfl | rfl
 ·simp (maxSteps:=9^9) (disch:=omega) [-aaO,-aaP,-aaE,-getElem?_pos,-getElem?_neg,om,GC,h1,h2,k1]
 ·simp (maxSteps:=9^9) (disch:=omega) [-aaO,-aaP,-aaE,-getElem?_pos,-getElem?_neg,om,GC,h1,h2,k1,l1,k4]
 ·simp (maxSteps:=9^9) (disch:=omega) [-aaO,-aaP,-aaE,-getElem?_pos,-getElem?_neg,om,GC,h1,h2,k1,l1,k4]
def Mx:List Int->Int
 | []=>0
 | a::r=>if a=0 then Mx r else a
theorem Ux (nl:Option Bool) (L:List Int) (hL:L.length<1000000):aq cfg 59 [.ag nl 1 (eB L)] []=some (.int .i64 (Mx L), []):=by
 refine aa YP Uy ?_;simp (maxSteps:=9^9) (disch:=omega) [-aaO,-aaP,-aaE,-getElem?_pos,-getElem?_neg,om,Uz];refine Wp.aP (fun (i:Nat)=>L.length-i) (fun i=> [none,none,some (.int .i64 0),none,some (.ag nl 1 (eB L)),some (.int .i64 L.length),some (.int .i64 i),none,none]) (fun _=> []) (fun i=>Mx L=Mx (L.drop i)∧i<=L.length) ?_ 0 ⟨by simp,by omega⟩ (by simp) rfl;rintro i ⟨hi,hl⟩;rw [hi];by_cases h1:i<L.length
 ·have hg:(eB L)[i]?=some (.int .i64 L[i]):=by simp [eB,h1]
  rw [aaB h1] at hi⊢;simp only [Mx] at hi⊢;generalize L[i]=x at*
  by_cases he:x=0
  ·rw [if_pos he] at hi;simp (maxSteps:=9^9) (disch:=omega) [-aaO,-aaP,-aaE,-getElem?_pos,-getElem?_neg,om,h1,hg,he];exact ⟨i+1,⟨by simp,by omega⟩,by omega,by simp⟩
  ·simp (maxSteps:=9^9) (disch:=omega) [-aaO,-aaP,-aaE,-getElem?_pos,-getElem?_neg,om,h1,hg,he]
 ·rw [aaC (by omega)];simp (maxSteps:=9^9) (disch:=omega) [-aaO,-aaP,-aaE,-getElem?_pos,-getElem?_neg,om,h1,Mx]
theorem EG (nl:Option Bool) (a b:Int):aq cfg 59 [.ag nl 1 [.int .i64 a,.int .i64 b]] []=some (.int .i64 (if a=0 then b else a), []):=by
 have h:=Ux nl [a,b] (by simp)
 have e:Mx [a,b]=if a=0 then b else a:=by
  unfold Mx Mx Mx;split
  ·split
   ·rename_i h;rw [h]
   ·rfl
  ·rfl
 rw [e] at h;exact h
theorem yB (a b:Int) (s t:ae):(0<=(if jA a b=0 then Lib.compareBytes s t else jA a b))↔pE a s b t=false:=by
 unfold pE jA;rw [decide_eq_false_iff_not];by_cases h1:a<b
 ·simp [h1]
 ·rw [if_neg h1];by_cases h2:a=b
  ·rw [if_pos h2];simp [h1,h2]
  ·simp [h1,h2]
theorem Qk (s:ae):aq cfg 139 [.str s] []=some (.bool (HK s), []):=by
 refine aa UA Ql ?_;unfold HK;by_cases h:s.length=2
 ·match s,h with
  | [a,b],_=>
   simp only [List.getD_cons_zero,List.getD_cons_succ]
   by_cases h1:97<=a.toNat <;> by_cases h2:a.toNat<=122 <;> by_cases h3:97<=b.toNat <;> by_cases h4:b.toNat<=122 <;>
    first
    | omega
    | simp (maxSteps:=9^9) (disch:=omega) [-aaO,-aaP,-aaE,-getElem?_pos,-getElem?_neg,om,Jy,h1,h2,h3,h4]
 ·have h2:((s.length:Int)==2)=false:=by simp;omega
  simp (maxSteps:=9^9) (disch:=omega) [-aaO,-aaP,-aaE,-getElem?_pos,-getElem?_neg,om,Jy,h,h2]
theorem vP {α:Type} (L:List α) {i:Nat} (h:i<L.length):L.take (i+1)=L.take i++ [L[i]]:=by rw [List.take_succ_eq_append_getElem h]
theorem Jz (c:Ct) (hc:c.ok):aq cfg 86 [b8 c] []=some (.int .i64 (qa c.af), []):=by
 refine aa YQ UB ?_;have hl:=hc.ll;have hz:=hc.lz;unfold qa b8 eV;generalize c.aD.map fD=A2 at*
 generalize c.ao.map cj=A3 at*
 generalize c.af=L at*
 generalize c.lz=z at*
 by_cases h0:L.length<1
 ·simp (maxSteps:=9^9) (disch:=omega) [-aaO,-aaP,-aaE,-getElem?_pos,-getElem?_neg,om,MN,h0]
 by_cases h8:8<L.length
 ·simp (maxSteps:=9^9) (disch:=omega) [-aaO,-aaP,-aaE,-getElem?_pos,-getElem?_neg,om,MN,h0,h8]
 obtain rfl:z=1:=hz (by intro h;rw [h] at h0;simp at h0);have hif:(if L.length<1∨8<L.length then 2 else ik [] L)=ik [] L:=if_neg (by omega);rw [hif];simp (maxSteps:=9^9) (disch:=omega) [-aaO,-aaP,-aaE,-getElem?_pos,-getElem?_neg,om,MN,h0,h8];refine Wp.aP (fun (i:Nat)=>L.length-i) (fun i=> [none,some (.ptr 0 0),none,none,none,none,some (.ag c.ln 1 (aA L)),some (.int .i64 L.length),some (.int .i64 i),none,none,none,none,none]) (fun _=> [.var 26 [.ag c.ln 1 (aA L),.ag c.bn c.bz A2,.ag c.sn c.sz A3]]) (fun i=>ik [] L=ik (L.take i) (L.drop i)∧i<=L.length) ?_ 0 ⟨by simp,by omega⟩ (by simp) rfl;rintro i ⟨hi,hil⟩;rw [hi];by_cases h1:i<L.length
 ·have hg:(aA L)[i]?=some (.str L[i]):=by simp [aA,h1]
  have htk:(aA L).take i=aA (L.take i):=by simp [aA]
  have ht:=Qk L[i];have hh:=oQ c.ln 1 (L.take i) (fun _=>rfl) (by simp;omega) L[i];rw [aaB h1] at hi⊢;simp only [ik] at hi⊢;rw [<-vP L h1] at hi⊢;generalize L[i]=x at*
  cases he:HK x with
  | false=>rw [he] at ht;simp (maxSteps:=9^9) (disch:=omega) [-aaO,-aaP,-aaE,-getElem?_pos,-getElem?_neg,om,h1,hg,ht]
  | true=>
   rw [he] at hi ht;cases hb:gP (L.take i) x with
   | true=>rw [hb] at hh;simp (maxSteps:=9^9) (disch:=omega) [-aaO,-aaP,-aaE,-getElem?_pos,-getElem?_neg,om,h1,hg,ht,htk,hh]
   | false=>rw [hb] at hi hh;simp (maxSteps:=9^9) (disch:=omega) [-aaO,-aaP,-aaE,-getElem?_pos,-getElem?_neg,om,h1,hg,ht,htk,hh];exact ⟨i+1,⟨by simpa using hi,by omega⟩,by omega,by simp⟩
 ·rw [aaC (by omega)];simp (maxSteps:=9^9) (disch:=omega) [-aaO,-aaP,-aaE,-getElem?_pos,-getElem?_neg,om,h1,ik]
theorem MO (c:Ct) (hc:c.ok):aq cfg 87 [b8 c] []=some (.int .i64 (vQ c.af c.aD), []):=by
 refine aa YR UC ?_;have hl:=hc.ll;have hz:=hc.lz;have hbl:=hc.bl;have hbz:=hc.bz;unfold vQ b8 eV;generalize c.ao.map cj=A3 at*
 generalize c.af=L at*
 generalize c.lz=z at*
 generalize c.aD=B at*
 generalize c.bz=bz at*
 have hBl:(B.map fD).length=B.length:=by simp
 have hE: ∀k (h:k<B.length),(B.map fD)[k]?=some (.agg [.int .i64 B[k].el,.str B[k].lang,.str B[k].text,.int .i64 B[k].ix]):=fun k h=>get_map _ _ h;have hpl:ai (B.map fD)=true:=oP B;generalize B.map fD=E at*
 by_cases h0:256<B.length
 ·simp (maxSteps:=9^9) (disch:=omega) [-aaO,-aaP,-aaE,-getElem?_pos,-getElem?_neg,om,Qm,h0,hBl]
 rw [if_neg h0];simp (maxSteps:=9^9) (disch:=omega) [-aaO,-aaP,-aaE,-getElem?_pos,-getElem?_neg,om,Qm,h0,hBl];refine Wp.aP (fun (i:Nat)=>B.length-i) (fun i=> [none,some (.ptr 0 0),none,none,none,none,none,some (.ag c.bn bz E),some (.int .i64 B.length),some (.int .i64 i),none,none,none,none,none,none,none,none,none,none,none,none,none,none]) (fun _=> [.var 26 [.ag c.ln z (aA L),.ag c.bn bz E,.ag c.sn c.sz A3]]) (fun i=>jB L none B=jB L (if i=0 then none else B[i-1]?) (B.drop i)∧i<=B.length) ?_ 0 ⟨by simp,by omega⟩ (by simp) rfl;rintro i ⟨hi,hil⟩;rw [hi];clear hi;by_cases h1:i<B.length
 ·have hg:=hE i h1;obtain rfl:bz=4:=hbz (ne_of_lt h1);have hh:=oQ c.ln z L hz hl B[i].lang;rw [aaB h1];simp only [jB];have fin: ∃a,(jB L (some B[i]) (B.drop (i+1))=jB L (if a=0 then none else B[a-1]?) (B.drop a)∧a<=B.length)∧B.length-a<B.length-i∧(i:Int)+1=(a:Int):=⟨i+1,⟨by simp [h1],by omega⟩,by omega,by simp⟩
  -- the one before
  have hp:i≠0-> ∃p,B[i-1]?=some p∧E[i-1]?=some (.agg [.int .i64 p.el,.str p.lang,.str p.text,.int .i64 p.ix]):=fun h=>⟨B[i-1],aaF (by omega),hE _ (by omega)⟩;clear hE hz hbz;generalize jB L (some B[i]) (B.drop (i+1))=R at*
  generalize B[i]=x at*
  have lab: ∀o,Ae L o x=if x.el<1∨64<x.el∨x.ix<0∨3<x.ix then 2 else if gP L x.lang=false then 7 else if x.text.length<1∨64<x.text.length then 4 else
   match o with
   | none=>0
   | some p=>if pE p.el p.lang x.el x.lang=false then 5 else if p.el=x.el∧p.ix≠x.ix then 10 else 0:=fun o=>rfl
  by_cases hi0:i=0
  ·subst hi0;rw [if_pos rfl];clear hp lab;generalize hlv:Ae L none x=lv at*
   simp (maxSteps:=9^9) (disch:=omega) [-aaO,-aaP,-aaE,-getElem?_pos,-getElem?_neg,om,h1,hg,ab,hh];unfold Ae at hlv;by_cases e1:((x.el<1∨64<x.el)∨x.ix<0)∨3<x.ix
   ·rw [if_pos e1];rw [if_pos (by omega)] at hlv;subst hlv;rfl
   rw [if_neg e1];rw [if_neg (by omega)] at hlv;cases e2:gP L x.lang with
   | false=>rw [if_neg (by simp)];rw [if_pos e2] at hlv;subst hlv;rfl
   | true=>
    rw [if_pos rfl];rw [if_neg (by simp [e2])] at hlv;by_cases e3:(x.text.length:Int)<1∨64<(x.text.length:Int)
    ·rw [if_pos e3];rw [if_pos (by omega)] at hlv;subst hlv;rfl
    rw [if_neg e3];rw [if_neg (by omega)] at hlv;subst hlv;rw [if_pos rfl];exact fin
  ·obtain ⟨p,q1,q2⟩:=hp hi0;rw [if_neg hi0,q1];have c1:=vv p.el x.el;have c2:=GA p.lang x.lang;have c3:=EG none (jA p.el x.el) (Lib.compareBytes p.lang x.lang);have c4:=yB p.el x.el p.lang x.lang;generalize (if jA p.el x.el=0 then Lib.compareBytes p.lang x.lang else jA p.el x.el)=rr at*
   generalize jA p.el x.el=r1 at*
   generalize Lib.compareBytes p.lang x.lang=r2 at*
   have hi1:(i:Int)≠0:=by omega
   have hi2:((i:Int)-1).toNat=i-1:=by omega
   clear hp lab;generalize hlv:Ae L (some p) x=lv at*
   simp (maxSteps:=9^9) (disch:=omega) [-aaO,-aaP,-aaE,-getElem?_pos,-getElem?_neg,om,h1,hg,ab,hh,hi0,hi1,hi2,q2,c1,c2,c3];unfold Ae at hlv;by_cases e1:((x.el<1∨64<x.el)∨x.ix<0)∨3<x.ix
   ·rw [if_pos e1];rw [if_pos (by omega)] at hlv;subst hlv;rfl
   rw [if_neg e1];rw [if_neg (by omega)] at hlv;cases e2:gP L x.lang with
   | false=>rw [if_neg (by simp)];rw [if_pos e2] at hlv;subst hlv;rfl
   | true=>
    rw [if_pos rfl];rw [if_neg (by simp [e2])] at hlv;by_cases e3:(x.text.length:Int)<1∨64<(x.text.length:Int)
    ·rw [if_pos e3];rw [if_pos (by omega)] at hlv;subst hlv;rfl
    rw [if_neg e3];rw [if_neg (by omega)] at hlv;simp only at hlv;by_cases e4:0<=rr
    ·rw [if_pos e4];rw [if_pos (c4.1 e4)] at hlv;subst hlv;rfl
    rw [if_neg e4];rw [if_neg (fun h=>e4 (c4.2 h))] at hlv;by_cases e5:p.el=x.el∧ ¬ p.ix=x.ix
    ·rw [if_pos e5];rw [if_pos e5] at hlv;subst hlv;rfl
    rw [if_neg e5];rw [if_neg e5] at hlv;subst hlv;rw [if_pos rfl];exact fin
 ·rw [aaC (by omega)];simp (maxSteps:=9^9) (disch:=omega) [-aaO,-aaP,-aaE,-getElem?_pos,-getElem?_neg,om,h1,jB]
theorem MP (c:Ct) (hc:c.ok) (nl:Option Bool) (bz:Nat) (B:List Fc) (hbz:B≠ []->bz=3) (hbl:B.length<1000000):aq cfg 141 [b8 c,.ag nl bz (B.map eW)] []=some (.int .i64 (pI c.af B), []):=by
 refine aa UD Qn ?_;have hl:=hc.ll;have hz:=hc.lz;unfold pI b8 eV;generalize c.ao.map cj=A3 at*
 generalize c.aD.map fD=A2 at*
 generalize c.af=L at*
 generalize c.lz=z at*
 have hBl:(B.map eW).length=B.length:=by simp
 have hE: ∀k (h:k<B.length),(B.map eW)[k]?=some (.agg [.int .i64 B[k].el,.str B[k].lang,.str B[k].text]):=fun k h=>get_map _ _ h;have hpl:ai (B.map eW)=true:=jr B;generalize B.map eW=E at*
 by_cases h0:32<B.length
 ·simp (maxSteps:=9^9) (disch:=omega) [-aaO,-aaP,-aaE,-getElem?_pos,-getElem?_neg,om,JA,h0,hBl]
 rw [if_neg h0];simp (maxSteps:=9^9) (disch:=omega) [-aaO,-aaP,-aaE,-getElem?_pos,-getElem?_neg,om,JA,h0,hBl];refine Wp.aP (fun (a:Nat×Option AV×Option AV×Option AV×Option AV)=>B.length-a.1) (fun a=> [none,some (.ag nl bz E),some (.ptr 0 0),none,none,none,none,some (.ag nl bz E),some (.int .i64 B.length),some (.int .i64 a.1),none,none,none,none,none,none,a.2.1,a.2.2.1,a.2.2.2.1,a.2.2.2.2,none]) (fun _=> [.var 26 [.ag c.ln z (aA L),.ag c.bn c.bz A2,.ag c.sn c.sz A3]]) (fun a=>jC L none B=jC L (if a.1=0 then none else B[a.1-1]?) (B.drop a.1)∧a.1<=B.length) ?_ (0,none,none,none,none) ⟨by simp,by simp⟩ (by simp) rfl;rintro ⟨i,o1,o2,o3,o4⟩ ⟨hi,hil⟩;simp only at hi hil⊢;rw [hi];clear hi;by_cases h1:i<B.length
 ·have hg:=hE i h1;obtain rfl:bz=3:=hbz (ne_of_lt h1);have hh:=oQ c.ln z L hz hl B[i].lang;rw [aaB h1];simp only [jC];have fin: ∃a,(jC L (some B[i]) (B.drop (i+1))=jC L (if a=0 then none else B[a-1]?) (B.drop a)∧a<=B.length)∧B.length-a<B.length-i∧(i:Int)+1=(a:Int):=⟨i+1,⟨by simp [h1],by omega⟩,by omega,by simp⟩;have hp:i≠0-> ∃p,B[i-1]?=some p∧E[i-1]?=some (.agg [.int .i64 p.el,.str p.lang,.str p.text]):=fun h=>⟨B[i-1],aaF (by omega),hE _ (by omega)⟩;clear hE hz hbz;generalize jC L (some B[i]) (B.drop (i+1))=R at*
  generalize B[i]=x at*
  by_cases hi0:i=0
  ·subst hi0;rw [if_pos rfl];clear hp;generalize hlv:BK L none x=lv at*
   simp (maxSteps:=9^9) (disch:=omega) [-aaO,-aaP,-aaE,-getElem?_pos,-getElem?_neg,om,h1,hg,ab,hh];unfold BK at hlv;by_cases e1:x.el<1∨64<x.el
   ·rw [if_pos e1];rw [if_pos e1] at hlv;subst hlv;rfl
   rw [if_neg e1];rw [if_neg e1] at hlv;cases e2:gP L x.lang with
   | false=>rw [if_neg (by simp)];rw [if_pos e2] at hlv;subst hlv;rfl
   | true=>
    rw [if_pos rfl];rw [if_neg (by simp [e2])] at hlv;by_cases e3:(x.text.length:Int)<1∨4096<(x.text.length:Int)
    ·rw [if_pos e3];rw [if_pos (by omega)] at hlv;subst hlv;rfl
    rw [if_neg e3];rw [if_neg (by omega)] at hlv;subst hlv;rw [if_pos rfl];exact fin
  ·obtain ⟨p,q1,q2⟩:=hp hi0;rw [if_neg hi0,q1];have c1:=vv p.el x.el;have c2:=GA p.lang x.lang;have c3:=EG none (jA p.el x.el) (Lib.compareBytes p.lang x.lang);have c4:=yB p.el x.el p.lang x.lang;generalize (if jA p.el x.el=0 then Lib.compareBytes p.lang x.lang else jA p.el x.el)=rr at*
   generalize jA p.el x.el=r1 at*
   generalize Lib.compareBytes p.lang x.lang=r2 at*
   have hi1:(0:Int)<(i:Int):=by omega
   have hi2:((i:Int)-1).toNat=i-1:=by omega
   clear hp;generalize hlv:BK L (some p) x=lv at*
   simp (maxSteps:=9^9) (disch:=omega) [-aaO,-aaP,-aaE,-getElem?_pos,-getElem?_neg,om,h1,hg,ab,hh,hi0,hi1,hi2,q2,c1,c2,c3];unfold BK at hlv;by_cases e1:x.el<1∨64<x.el
   ·rw [if_pos e1];rw [if_pos e1] at hlv;subst hlv;rfl
   rw [if_neg e1];rw [if_neg e1] at hlv;cases e2:gP L x.lang with
   | false=>rw [if_neg (by simp)];rw [if_pos e2] at hlv;subst hlv;rfl
   | true=>
    rw [if_pos rfl];rw [if_neg (by simp [e2])] at hlv;by_cases e3:(x.text.length:Int)<1∨4096<(x.text.length:Int)
    ·rw [if_pos e3];rw [if_pos (by omega)] at hlv;subst hlv;rfl
    rw [if_neg e3];rw [if_neg (by omega)] at hlv;simp only at hlv;by_cases e4:0<=rr
    ·rw [if_pos e4];rw [if_pos (c4.1 e4)] at hlv;subst hlv;rfl
    rw [if_neg e4];rw [if_neg (fun h=>e4 (c4.2 h))] at hlv;subst hlv;rw [if_pos rfl];exact fin
 ·rw [aaC (by omega)];simp (maxSteps:=9^9) (disch:=omega) [-aaO,-aaP,-aaE,-getElem?_pos,-getElem?_neg,om,h1,jC]
theorem GD (l:List Sh) {i:Nat} (h:i<l.length):(l.map cj)[i]?=some (.agg [.int .i64 l[i].unit,.int .i64 l[i].par,.int .i64 l[i].level,.str l[i].mark,.str l[i].title,.ag l[i].fn l[i].fz (l[i].facts.map eW)]):=get_map _ _ h
def BL (u:Int):List Sh->Nat->Int
 | [],_=> -1
 | s::r,i=>if s.unit=u then (i:Int) else BL u r (i+1)
theorem JB (u:Int): ∀(l:List Sh) (i:Nat),BL u l i=match aY l u with | some k=>((i+k:Nat):Int) | none=> -1
 | [],i=>rfl
 | x::r,i=>by
  unfold BL aY;by_cases h:x.unit=u
  ·rw [if_pos h,if_pos h];simp
  ·rw [if_neg h,if_neg h];rw [JB u r (i+1)];cases aY r u with
   | none=>rfl
   | some k=>simp only [aa1];congr 1;omega
theorem JC (u:Int) (l:List Sh):BL u l 0=c6 (aY l u):=by
 rw [JB];cases aY l u with
 | none=>rfl
 | some k=>simp [c6]
structure vR (f:FuncId):Prop where
 ex:exts f=none
 ob:qV f=none
 ov:GF f=none
 mu:iW f=false
theorem BM (nl:Option Bool) (z:Nat) (l:List Sh) (hz:l≠ []->z=6) (hl:l.length<1000000) (f:FuncId) (hns:vR f) (j:Nat) (bs:List ad) (u:Int)
  (hf: ∀s:Sh,aq cfg f [cj s,.ptr j 0] bs=some (.bool (s.unit==u),bs)) (hj:j<bs.length) (hsh:shut bs.length bs=true):
  aq cfg 90 [.ag nl z (l.map cj),.fn f [] [.ptr j 0]] bs=some (.int .i64 (c6 (aY l u)),bs):=by
 refine aa YS UE ?_;have hLl:(l.map cj).length=l.length:=by simp
 have hE: ∀i (h:i<l.length),(l.map cj)[i]?=some (cj l[i]):=fun i h=>get_map _ _ h;generalize l.map cj=E at*
 obtain ⟨n1,n2,n3,n4⟩:=hns;simp only [exts,qV,GF,iW] at n1 n2 n3 n4;have hm:=shut_map (aa0 _) hsh;simp (maxSteps:=9^9) (disch:=omega) [-aaO,-aaP,-aaE,-getElem?_pos,-getElem?_neg,om,UF,hLl];rw [<-JC];refine Wp.aP (fun (i:Nat)=>l.length-i) (fun i=> [some (.ag nl z E),some (.fn f [] [.ptr j 0]),none,none,some (.int .i64 l.length),some (.int .i64 i),none,none]) (fun _=>bs) (fun i=>BL u l 0=BL u (l.drop i) i∧i<=l.length) ?_ 0 ⟨by simp,by omega⟩ (by simp) rfl;rintro i ⟨hi,hil⟩;rw [hi];clear hi;by_cases h1:i<l.length
 ·have hg:=hE i h1;have hs:=hf l[i];obtain rfl:=hz (ne_of_lt h1);rw [aaB h1];simp only [BL];generalize l[i]=x at*
  unfold cj at hg hs;simp (maxSteps:=9^9) (disch:=omega) [-aaO,-aaP,-aaE,-getElem?_pos,-getElem?_neg,om,h1,hg,hs,n1,n2,n3,n4];exact fun _=>⟨i+1,⟨rfl,by omega⟩,by omega,by simp⟩
 ·rw [aaC (by omega)];simp (maxSteps:=9^9) (disch:=omega) [-aaO,-aaP,-aaE,-getElem?_pos,-getElem?_neg,om,h1,BL]
theorem JD (s:Sh) (u:Int):aq cfg 91 [cj s,.ptr 0 0] [.var 3 [.int .i64 u]]=some (.bool (s.unit==u), [.var 3 [.int .i64 u]]):=by refine aa YT UG ?_;unfold cj;simp (maxSteps:=9^9) (disch:=omega) [-aaO,-aaP,-aaE,-getElem?_pos,-getElem?_neg,om,UH]
theorem vw (nl:Option Bool) (z:Nat) (l:List Sh) (hz:l≠ []->z=6) (hl:l.length<1000000) (u:Int):aq cfg 48 [.ag nl z (l.map cj),.int .i64 u] []=some (.int .i64 (c6 (aY l u)), []):=by
 refine aa YU UI ?_;have h:=BM nl z l hz hl 91 ⟨rfl,rfl,rfl,rfl⟩ 0 [.var 3 [.int .i64 u]] u (fun s=>JD s u) (by simp) rfl;have hpl:=cW l;generalize l.map cj=E at*
 simp (maxSteps:=9^9) (disch:=omega) [-aaO,-aaP,-aaE,-getElem?_pos,-getElem?_neg,om,UJ,h,hpl]
abbrev EH:=List UInt8
structure Qo (bs:List ad) (k j:Nat) (a:AV) (s:EH):Prop where
 hk:ad.at bs k= .var 178 [a,.ax j s.length]
 hj:ad.at bs j= .sl ⟨false,some 5,none⟩ 1 (s.map ak)
 ne:j≠k
 ha:a= .bZ∨a= .ptr k 0
 kl:k<bs.length
 jl:j<bs.length
 sh:shut bs.length bs=true
theorem eX {n:Nat}: ∀{bs:List ad} (k:Nat) {x:ad},shut n bs=true->shut n [x]=true->shut n (bs.set k x)=true
 | [],_,_,_,_=>rfl
 | b::r,0,x,h,hx=>by
  cases x <;> cases b <;> simp_all [shut]
 | b::r,k+1,x,h,hx=>by
  have:=fun (h:shut n r=true)=>eX (bs:=r) k h hx;cases b <;> simp_all [shut]
def iX (bs:List ad) (k j:Nat) (s:EH):List ad:=(bs.set k (.var 178 [.ptr k 0,.ax j s.length])).set j (.sl ⟨false,some 5,none⟩ 1 (s.map ak))
theorem qW {bs:List ad} {k j:Nat} {a:AV} {s:EH} (h:Qo bs k j a s):aq cfg 187 [.ptr k 0] bs=some (.aL [],bs.set k (.var 178 [.ptr k 0,.ax j s.length])):=by
 obtain ⟨hk,hj,ne,ha,kl,jl,sh⟩:=h;refine aa UK Qp ?_;have a1: ∀l,ad.at (bs++l) k= .var 178 [a,.ax j s.length]:=fun l=>by rw [fG _ _ kl,hk]
 have s1: ∀l b,(bs++l).set k b=bs.set k b++l:=fun l b=>aaW _ _ kl;have m1:=shut_map (aa0 bs.length) (eX k sh (x:= .var 178 [.ptr k 0,.ax j s.length]) (by simp [shut,ar,AV.under,kl,jl]));rcases ha with rfl | rfl
 ·simp (maxSteps:=9^9) (disch:=omega) [-aaO,-aaP,-aaE,-getElem?_pos,-getElem?_neg,om,JE,JF,ab,av.descOf,hk,a1,s1,m1];exact aaZ (by simp)
 ·have e:bs.set k (.var 178 [.ptr k 0,.ax j s.length])=bs:=by
   rw [<-hk];apply aaD;intro i;by_cases hi:i=k
   ·subst hi;simp [ad.at,kl,aaE]
   ·rw [aaG (Ne.symm hi)]
  simp (maxSteps:=9^9) (disch:=omega) [-aaO,-aaP,-aaE,-getElem?_pos,-getElem?_neg,om,JE,av.descOf,hk,e]
theorem iB {bs:List ad} {k j:Nat} {a:AV} {s:EH} (h:Qo bs k j a s) (x:EH) (hl:s.length<100000000) (hx:x.length<1000000):
  aq cfg 147 [.ptr k 0,.str x] bs=some (.aL [.int .i64 x.length,.gR false],iX bs k j (s++x)):=by
 have hc:=qW h;obtain ⟨hk,hj,ne,ha,kl,jl,sh⟩:=h;refine aa UL Qq ?_;have e1:ad.at (bs.set k (.var 178 [.ptr k 0,.ax j s.length])) k= .var 178 [.ptr k 0,.ax j s.length]:=by rw [Go.Am.bC _ _ _ kl,if_pos rfl]
 have e2:ad.at (bs.set k (.var 178 [.ptr k 0,.ax j s.length])) j= .sl ⟨false,some 5,none⟩ 1 (s.map ak):=by rw [Go.Am.bC _ _ _ kl,if_neg (Ne.symm ne),hj]
 have shc:=eX k sh (x:= .var 178 [.ptr k 0,.ax j s.length]) (by simp [shut,ar,AV.under,kl,jl]);have m2:=shut_map (aa0 bs.length) (eX j shc (x:= .sl ⟨false,some 5,none⟩ 1 ((s++x).map ak)) rfl);have hCl:(bs.set k (.var 178 [.ptr k 0,.ax j s.length])).length=bs.length:=by simp
 have hfin:iX bs k j (s++x)=((bs.set k (.var 178 [.ptr k 0,.ax j s.length])).set j (.sl ⟨false,some 5,none⟩ 1 ((s++x).map ak))).set k (.var 178 [.ptr k 0,.ax j (s++x).length]):=by unfold iX;rw [aaX _ _ ne,aaY]
 rw [hfin];generalize bs.set k (.var 178 [.ptr k 0,.ax j s.length])=C at*
 have a1: ∀l,ad.at (C++l) k= .var 178 [.ptr k 0,.ax j s.length]:=fun l=>by rw [fG _ _ (by omega),e1]
 have a2: ∀l,ad.at (C++l) j= .sl ⟨false,some 5,none⟩ 1 (s.map ak):=fun l=>by rw [fG _ _ (by omega),e2]
 have s2: ∀l b,(C++l).set j b=C.set j b++l:=fun l b=>aaW _ _ (by omega);have e3:ad.at (C.set j (.sl ⟨false,some 5,none⟩ 1 (s.map ak++x.map ak))) k= .var 178 [.ptr k 0,.ax j s.length]:=by rw [Go.Am.bC _ _ _ (by omega),if_neg ne,e1]
 have m3:=shut_map (aa0 bs.length) (eX k (eX j shc (x:= .sl ⟨false,some 5,none⟩ 1 (s.map ak++x.map ak)) rfl) (x:= .var 178 [.ptr k 0,.ax j (s.length+x.length)]) (by simp [shut,ar,AV.under,kl,jl]));have hDl:(C.set j (.sl ⟨false,some 5,none⟩ 1 (s.map ak++x.map ak))).length=bs.length:=by simp [hCl]
 generalize hD:C.set j (.sl ⟨false,some 5,none⟩ 1 (s.map ak++x.map ak))=D at*
 have b1: ∀l,ad.at (D++l) k= .var 178 [.ptr k 0,.ax j s.length]:=fun l=>by rw [fG _ _ (by omega),e3]
 have t2: ∀l b,(D++l).set k b=D.set k b++l:=fun l b=>aaW _ _ (by omega);simp (maxSteps:=9^9) (disch:=omega) [-aaO,-aaP,-aaE,-getElem?_pos,-getElem?_neg,om,Pb,hc,ab,a1,a2,s2,hCl,hD,b1,t2,m3,hDl]
 try exact aaZ (by simp [hDl])
theorem far {C bs:List ad} (h:C.length=bs.length):(∀l,(C++l)[bs.length]?=l[0]?)∧(∀l m,(C++l)[bs.length+m]?=l[m]?)∧(∀l X,(C++l).set bs.length X=C++l.set 0 X)∧(∀l m X,(C++l).set (bs.length+m) X=C++l.set m X)∧(∀l,ad.at (C++l) bs.length=ad.at l 0)∧(∀l m,ad.at (C++l) (bs.length+m)=ad.at l m)∧(∀l,(C++l).take bs.length=C):=by rw [<-h];exact ⟨fun l=>by simpa using dZ C l 0,fun l m=>dZ C l m,fun l X=>by simpa using cX C l 0 X,fun l m X=>cX C l m X,fun l=>by simpa using eC C l 0,fun l m=>eC C l m,fun l=>aaZ rfl⟩
theorem qX {bs:List ad} {k j:Nat} {a:AV} {s:EH} (h:Qo bs k j a s) (x:UInt8) (hl:s.length<100000000):
  aq cfg 148 [.ptr k 0,.int .u8 (x.toNat:Int)] bs=some (.gR false,iX bs k j (s++ [x])):=by
 have hc:=qW h;obtain ⟨hk,hj,ne,ha,kl,jl,sh⟩:=h;refine aa UM Qr ?_;have e1:ad.at (bs.set k (.var 178 [.ptr k 0,.ax j s.length])) k= .var 178 [.ptr k 0,.ax j s.length]:=by rw [Go.Am.bC _ _ _ kl,if_pos rfl]
 have e2:ad.at (bs.set k (.var 178 [.ptr k 0,.ax j s.length])) j= .sl ⟨false,some 5,none⟩ 1 (s.map ak):=by rw [Go.Am.bC _ _ _ kl,if_neg (Ne.symm ne),hj]
 have shc:=eX k sh (x:= .var 178 [.ptr k 0,.ax j s.length]) (by simp [shut,ar,AV.under,kl,jl]);have hCl:(bs.set k (.var 178 [.ptr k 0,.ax j s.length])).length=bs.length:=by simp
 have hfin:iX bs k j (s++ [x])=((bs.set k (.var 178 [.ptr k 0,.ax j s.length])).set j (.sl ⟨false,some 5,none⟩ 1 (s.map ak++ [ak x]))).set k (.var 178 [.ptr k 0,.ax j (s.length+1)]):=by unfold iX;rw [aaX _ _ ne,aaY];simp
 rw [hfin];generalize bs.set k (.var 178 [.ptr k 0,.ax j s.length])=C at*
 have a1: ∀l,ad.at (C++l) k= .var 178 [.ptr k 0,.ax j s.length]:=fun l=>by rw [fG _ _ (by omega),e1]
 have a2: ∀l,ad.at (C++l) j= .sl ⟨false,some 5,none⟩ 1 (s.map ak):=fun l=>by rw [fG _ _ (by omega),e2]
 have s2: ∀l b,(C++l).set j b=C.set j b++l:=fun l b=>aaW _ _ (by omega);have e3:ad.at (C.set j (.sl ⟨false,some 5,none⟩ 1 (s.map ak++ [ak x]))) k= .var 178 [.ptr k 0,.ax j s.length]:=by rw [Go.Am.bC _ _ _ (by omega),if_neg ne,e1]
 have m3:=shut_map (aa0 bs.length) (eX k (eX j shc (x:= .sl ⟨false,some 5,none⟩ 1 (s.map ak++ [ak x])) rfl) (x:= .var 178 [.ptr k 0,.ax j (s.length+1)]) (by simp [shut,ar,AV.under,kl,jl]));have hDl:(C.set j (.sl ⟨false,some 5,none⟩ 1 (s.map ak++ [ak x]))).length=bs.length:=by simp [hCl]
 generalize hD:C.set j (.sl ⟨false,some 5,none⟩ 1 (s.map ak++ [ak x]))=D at*
 have b1: ∀l,ad.at (D++l) k= .var 178 [.ptr k 0,.ax j s.length]:=fun l=>by rw [fG _ _ (by omega),e3]
 have t2: ∀l b,(D++l).set k b=D.set k b++l:=fun l b=>aaW _ _ (by omega);have of1:AV.int .u8 (x.toNat:Int)=ak x:=rfl;obtain ⟨p1,p2,p3,p4,p5,p6,p7⟩:=far hCl;obtain ⟨q1,q2,q3,q4,q5,q6,q7⟩:=far hDl;have z1:bs.length+1-bs.length=1:=by omega
 simp (maxSteps:=9^9) (disch:=omega) [-aaO,-aaP,-aaE,-getElem?_pos,-getElem?_neg,om,Pc,hc,ab,a1,a2,s2,hCl,hD,b1,t2,m3,hDl,of1,p1,p2,p3,p4,p5,p6,p7,q1,q2,q3,q4,q5,q6,q7,z1]
 try exact aaZ (by simp [hDl])
theorem qb {bs:List ad} {k j:Nat} {a:AV} {s:EH} (h:Qo bs k j a s) (hl:s.length<100000000) (h0:s≠ []):
  aq cfg 149 [.ptr k 0] bs=some (.str s,bs.set j (.sl ⟨false,none,none⟩ 1 (s.map ak))):=by
 obtain ⟨hk,hj,ne,ha,kl,jl,sh⟩:=h;refine aa Pd JG ?_;have hb:=pJ s;have e1:ad.at (bs.set j (.sl ⟨false,none,none⟩ 1 (s.map ak))) k= .var 178 [a,.ax j s.length]:=by rw [Go.Am.bC _ _ _ jl,if_neg ne,hk]
 have e2:ad.at (bs.set j (.sl ⟨false,none,none⟩ 1 (s.map ak))) j= .sl ⟨false,none,none⟩ 1 (s.map ak):=by rw [Go.Am.bC _ _ _ jl,if_pos rfl]
 cases s with
 | nil=>exact absurd rfl h0
 | cons c s=>
  simp only [aaH,aaM] at*
  simp (maxSteps:=9^9) (disch:=omega) [-aaO,-aaP,-aaE,-getElem?_pos,-getElem?_neg,om,JH,hk,hj,e1,e2,hb,av.descOf]
theorem ui {bs:List ad} {k j:Nat} {a:AV} (h:Qo bs k j a []):
  aq cfg 149 [.ptr k 0] bs=some (.str [],bs.set j (.sl ⟨false,none,none⟩ 1 [])):=by
 obtain ⟨hk,hj,ne,ha,kl,jl,sh⟩:=h;refine aa Pd JG ?_;have e1:ad.at (bs.set j (.sl ⟨false,none,none⟩ 1 [])) k= .var 178 [a,.ax j 0]:=by rw [Go.Am.bC _ _ _ jl,if_neg ne,hk];rfl
 have e2:ad.at (bs.set j (.sl ⟨false,none,none⟩ 1 [])) j= .sl ⟨false,none,none⟩ 1 []:=by rw [Go.Am.bC _ _ _ jl,if_pos rfl]
 simp only [List.length_nil,aaN] at hk hj;simp (maxSteps:=9^9) (disch:=omega) [-aaO,-aaP,-aaE,-getElem?_pos,-getElem?_neg,om,JH,hk,hj,e1,e2,av.descOf]
open Go.Am Go.ChangeShapes Go.WideShapes Go.RowKit
structure Sh.yC (s:Sh):Prop where
 fz:s.facts≠ []->s.fz=3
 fl:s.facts.length<=maxLen
structure Ct.yC (c:Ct):Prop where
 lz:c.af≠ []->c.lz=1
 bz:c.aD≠ []->c.bz=4
 sz:c.ao≠ []->c.sz=6
 ll:c.af.length<=maxLen
 bl:c.aD.length<=maxLen
 sl:c.ao.length<=maxLen
 sh: ∀s∈c.ao,s.yC
theorem vS {m:Nat} {cs:List AV} (h:nD Tryz.prog m 9 cs): ∃s:ae,True∧aQ (ka (Tryz.prog.underlying 9)) cs=AV.str s:=by obtain ⟨s,rfl,_⟩:=h.str (by kernel_rfl);exact ⟨s,trivial,by rw [show Tryz.prog.underlying 9=some .string by kernel_rfl];rfl⟩
theorem yD {m:Nat} {cs:List AV} (h:nD Tryz.prog m 80 cs): ∃n:Lb,True∧aQ (ka (Tryz.prog.underlying 80)) cs=fD n:=by
 have hfs:Tryz.prog.underlying 80=some (.struct (bL Tryz.prog 80)):=by kernel_rfl
 have hft:(bL Tryz.prog 80).toList.map (·.type)= [3,9,9,3]:=by kernel_rfl
 obtain ⟨m,hs⟩:=h.struct hfs;rw [hft] at hs;obtain ⟨a,r,rfl,ha,b,r2,rfl,hb,c,r3,rfl,hc,d,r4,rfl,hd,rfl⟩:=hs;obtain ⟨x,rfl,_⟩:=ha.int (k:= .i64) (by kernel_rfl);obtain ⟨s,rfl,_⟩:=hb.str (by kernel_rfl);obtain ⟨t,rfl,_⟩:=hc.str (by kernel_rfl);obtain ⟨y,rfl,_⟩:=hd.int (k:= .i64) (by kernel_rfl);exact ⟨⟨x,s,t,y⟩,trivial,by rw [hfs];rfl⟩
theorem JI {m:Nat} {cs:List AV} (h:nD Tryz.prog m 76 cs): ∃n:Fc,True∧aQ (ka (Tryz.prog.underlying 76)) cs=eW n:=by
 have hfs:Tryz.prog.underlying 76=some (.struct (bL Tryz.prog 76)):=by kernel_rfl
 have hft:(bL Tryz.prog 76).toList.map (·.type)= [3,9,9]:=by kernel_rfl
 obtain ⟨m,hs⟩:=h.struct hfs;rw [hft] at hs;obtain ⟨a,r,rfl,ha,b,r2,rfl,hb,c,r3,rfl,hc,rfl⟩:=hs;obtain ⟨x,rfl,_⟩:=ha.int (k:= .i64) (by kernel_rfl);obtain ⟨s,rfl,_⟩:=hb.str (by kernel_rfl);obtain ⟨t,rfl,_⟩:=hc.str (by kernel_rfl);exact ⟨⟨x,s,t⟩,trivial,by rw [hfs];rfl⟩
theorem yE {m:Nat} {cs:List AV} (h:nD Tryz.prog m 74 cs): ∃n:Sh,n.yC∧aQ (ka (Tryz.prog.underlying 74)) cs=cj n:=by
 have hfs:Tryz.prog.underlying 74=some (.struct (bL Tryz.prog 74)):=by kernel_rfl
 have hft:(bL Tryz.prog 74).toList.map (·.type)= [3,3,3,9,9,72]:=by kernel_rfl
 obtain ⟨m,hs⟩:=h.struct hfs;rw [hft] at hs;obtain ⟨a,r,rfl,ha,b,r2,rfl,hb,c,r3,rfl,hc,d,r4,rfl,hd,e,r5,rfl,he,f,r6,rfl,hf,rfl⟩:=hs;obtain ⟨x,rfl,_⟩:=ha.int (k:= .i64) (by kernel_rfl);obtain ⟨y,rfl,_⟩:=hb.int (k:= .i64) (by kernel_rfl);obtain ⟨z,rfl,_⟩:=hc.int (k:= .i64) (by kernel_rfl);obtain ⟨s,rfl,_⟩:=hd.str (by kernel_rfl);obtain ⟨t,rfl,_⟩:=he.str (by kernel_rfl);obtain ⟨n1,z1,l1,rfl,p1,q1,s1,_⟩:=hf.iC (e:=76) eW (fun _=>True) (by kernel_rfl) 3 (by kernel_rfl) (by decide) (fun m cs h=>JI h);exact ⟨⟨x,y,z,s,t,l1,some n1,z1⟩,⟨fun hl=>p1 0 (aaK.2 hl),s1⟩,by rw [hfs];rfl⟩
theorem qY {ts:List TypeId} {xs:List AV} (h:eP Tryz.prog (26::ts) xs): ∃(c:Ct) (r:List AV),xs=b8 c::r∧c.yC∧eP Tryz.prog ts r:=by
 obtain ⟨n,cs,r,rfl,h1,h2⟩:=h;have hfs:Tryz.prog.underlying 26=some (.struct (bL Tryz.prog 26)):=by kernel_rfl
 have hft:(bL Tryz.prog 26).toList.map (·.type)= [22,23,24]:=by kernel_rfl
 obtain ⟨m,hs⟩:=h1.struct hfs;rw [hft] at hs;obtain ⟨a,r1,rfl,ha,b,r2,rfl,hb,c,r3,rfl,hc,rfl⟩:=hs;obtain ⟨n1,z1,l1,rfl,p1,q1,s1,_⟩:=ha.iC (e:=9) AV.str (fun _=>True) (by kernel_rfl) 1 (by kernel_rfl) (by decide) (fun m cs h=>vS h);obtain ⟨n2,z2,l2,rfl,p2,q2,s2,_⟩:=hb.iC (e:=80) fD (fun _=>True) (by kernel_rfl) 4 (by kernel_rfl) (by decide) (fun m cs h=>yD h);obtain ⟨n3,z3,l3,rfl,p3,q3,s3,t3⟩:=hc.iC (e:=74) cj Sh.yC (by kernel_rfl) 6 (by kernel_rfl) (by decide) (fun m cs h=>yE h);exact ⟨⟨l1,l2,l3,some n1,z1,some n2,z2,some n3,z3⟩,r,by rw [hfs];rfl,⟨fun hl=>p1 0 (aaK.2 hl),fun hl=>p2 0 (aaK.2 hl),fun hl=>p3 0 (aaK.2 hl),s1,s2,s3,t3⟩,h2⟩
theorem qZ {ts:List TypeId} {xs:List AV} (h:eP Tryz.prog (3::ts) xs): ∃(i:Int) (r:List AV),xs= .int .i64 i::r∧ -9223372036854775808<=i∧i<=9223372036854775807∧eP Tryz.prog ts r:=by obtain ⟨n,cs,r,rfl,h1,h2⟩:=h;obtain ⟨x,rfl,hx⟩:=h1.int (k:= .i64) (by kernel_rfl);simp [Lit.wf,IntKind.min,IntKind.max,IntKind.signed,IntKind.bits] at hx;exact ⟨x,r,by rw [show Tryz.prog.underlying 3=some (.int .i64) by kernel_rfl];rfl,by omega,by omega,h2⟩
theorem oR {ts:List TypeId} {xs:List AV} (h:eP Tryz.prog (9::ts) xs): ∃(s:ae) (r:List AV),xs= .str s::r∧s.length<=maxLen∧eP Tryz.prog ts r:=by obtain ⟨n,cs,r,rfl,h1,h2⟩:=h;obtain ⟨s,rfl,hs⟩:=h1.str (by kernel_rfl);exact ⟨s,r,by rw [show Tryz.prog.underlying 9=some .string by kernel_rfl];rfl,hs,h2⟩
def nF (z:Cell):AV:= .agg [.int .i64 z.1,.int .i64 z.2]
def l9 (e:Cell×Nat):AV×AV×Nat:=(nF e.1,.bool true,e.2)
def lB (z:Cell):List (Cell×Nat)->Nat->Option (Nat×Cell×Nat)
 | [],_=>none
 | e::r,i=>if e.1=z then some (i,e) else lB z r (i+1)
theorem Af (z:Cell): ∀(m:List (Cell×Nat)) (i:Nat),kg (bh cfg 20 78) (nF z) (m.map l9) i=some ((lB z m i).map fun p=>(p.1,l9 p.2))
 | [],i=>rfl
 | e::r,i=>by
  have ih:=Af z r (i+1);have he:bh cfg 20 78 (nF z) (l9 e).1=some (z.1==e.1.1&&z.2==e.1.2):=by simp (config:={maxSteps:=1000000}) (disch:=omega) [-aaO,-aaP,-aaE,-getElem?_pos,-getElem?_neg,wrap_i64,oS,ki,kj,jh,l9,nF]
  simp only [aaM,kg,he,lB];by_cases hs:e.1=z
  ·subst hs;simp
  ·have hs2:(z.1==e.1.1&&z.2==e.1.2)=false:=by
    cases h:(z.1==e.1.1&&z.2==e.1.2) with
    | false=>rfl
    | true=>simp at h;exact absurd (Prod.ext h.1.symm h.2.symm) hs
   simp only [hs2,if_neg hs];exact ih
theorem jD (z:Cell): ∀(m:List (Cell×Nat)) (i j:Nat) (e:Cell×Nat),lB z m i=some (j,e)->i<=j∧m[j-i]?=some e∧e.1=z
 | [],i,j,e,h=>by cases h
 | x::r,i,j,e,h=>by
  simp only [lB] at h;split at h
  ·rename_i hs;cases h;exact ⟨aa0 _,by simp,hs⟩
  ·obtain ⟨h1,h2,h3⟩:=jD z r (i+1) j e h;refine ⟨by omega,?_,h3⟩;rw [show j-i=(j-(i+1))+1 by omega];simpa using h2
def fU (m:List (Cell×Nat)) (clock:Nat) (z:Cell):List (Cell×Nat):=match lB z m 0 with
 | some _=>m
 | none=>m++ [(z,clock)]
def eQ (m:List (Cell×Nat)) (clock:Nat) (z:Cell):Nat:=match lB z m 0 with
 | some _=>clock
 | none=>clock+1
theorem MQ {bs:List ad} {k clock:Nat} {m:List (Cell×Nat)} (h:ad.at bs k= .mp (m.map l9) clock) (z:Cell):ay cfg (cfg.ti 101) (.bT k) (nF z) (.bool true) bs=some (.aL [],.gQ k (.mp ((fU m clock z).map l9) (eQ m clock z))):=by
 have hf:=Af z m 0;unfold fU eQ;cases hq:lB z m 0 with
 | none=>rw [hq] at hf;unfold nF at*;simp [ay,bH,ga,iD,fI,eY,gb,h,hf,-bh,l9,nF]
 | some p=>
  obtain ⟨j,e⟩:=p;obtain ⟨_,hj,he⟩:=jD z m 0 j e hq;rw [hq] at hf;subst he
  have hset:(m.map l9).set j (nF e.1,.bool true,e.2)=m.map l9:=by
   apply aaD;intro i;by_cases hi:j=i
   ·subst hi;simp only [Nat.sub_zero] at hj
    have hl:j<m.length:=by
     rcases Nat.lt_or_ge j m.length with h' | h'
     ·exact h'
     ·rw [List.getElem?_eq_none h'] at hj;cases hj
    rw [List.getElem?_set_self (by simpa using hl),List.getElem?_map,hj];rfl
   ·rw [aaG hi]
  unfold nF at*
  simp [ay,bH,ga,iD,fI,eY,gb,h,hf,-bh,l9,nF,sameKey,gp,lC,hset]
theorem qc (z:Cell): ∀(m:List (Cell×Nat)) (i:Nat),lB z m i=none-> ∀e∈m,e.1≠z
 | [],_,_,_,h=>by cases h
 | x::r,i,h,e,he=>by
  simp only [lB] at h;split at h
  ·cases h
  ·rename_i hs;rcases aaQ.mp he with rfl | he
   ·exact hs
   ·exact qc z r (i+1) h e he
structure vT (m:List (Cell×Nat)) (clock:Nat):Prop where
 keys:(m.map Prod.fst).Nodup
 born:(m.map Prod.snd).Nodup
 lt: ∀e∈m,e.2<clock
theorem il {m:List (Cell×Nat)} {clock:Nat} (h:vT m clock) (z:Cell):vT (fU m clock z) (eQ m clock z)∧ ∀y,y∈(fU m clock z).map Prod.fst↔y∈m.map Prod.fst∨y=z:=by
 unfold fU eQ;cases hq:lB z m 0 with
 | some p=>
  obtain ⟨j,e⟩:=p;obtain ⟨_,hj,he⟩:=jD z m 0 j e hq;refine ⟨h,fun y=>⟨.inl,fun hy=> ?_⟩⟩;rcases hy with hy | rfl
  ·exact hy
  ·exact aaS.mpr ⟨e,List.mem_of_getElem? hj,he⟩
 | none=>
  have hn:=qc z m 0 hq;refine ⟨⟨?_,?_,?_⟩,fun y=>by simp⟩
  ·simp only [aaL,aaM,aaN];refine aaT.mpr ⟨h.keys,by simp,fun a ha b hb=> ?_⟩;obtain ⟨e,he,rfl⟩:=aaS.mp ha;simp at hb;subst hb;exact hn e he
  ·simp only [aaL,aaM,aaN];refine aaT.mpr ⟨h.born,by simp,fun a ha b hb=> ?_⟩;obtain ⟨e,he,rfl⟩:=aaS.mp ha;simp at hb;subst hb;have:=h.lt e he;omega
  ·intro e he;rcases List.mem_append.mp he with he | he
   ·exact Nat.lt_succ_of_lt (h.lt e he)
   ·simp at he;subst he;simp
def aN (l:List (Cell×ae)):List AV:=l.map nf
theorem aO: ∀l:List (Cell×ae),ai (aN l)=true
 | []=>rfl
 | x::r=>by simp [aN,nf,ai,AV.plain];exact aO r
theorem oT {α β:Type} {f:α->β}: ∀{M:List α} {a b:α},(M.map f).Nodup->a∈M->b∈M->f a=f b->a=b
 | x::r,a,b,hn,ha,hb,h=>by
  rw [aaM,aaU] at hn;rcases aaQ.1 ha with rfl | ha'
  ·rcases aaQ.1 hb with rfl | hb'
   ·rfl
   ·exact absurd (h▸aaS.mpr ⟨b,hb',rfl⟩) hn.1
  ·rcases aaQ.1 hb with rfl | hb'
   ·exact absurd (h▸aaS.mpr ⟨a,ha',rfl⟩) hn.1
   ·exact oT hn.2 ha' hb' h
theorem Pe: ∀(M:List (Cell×Nat)) (i:Nat) (e:Cell×Nat),e∈M->(M.map Prod.snd).Nodup-> ∃j,uj (e.2:Int) (M.map l9) i=some (j,l9 e)
 | x::r,i,e,he,hn=>by
  have hn2:=hn;rw [aaM,aaU] at hn2;simp only [aaM,uj];by_cases hx:x.2=e.2
  ·have hxe:=oT hn (aaR ..) he hx;subst hxe;exact ⟨i,by simp [l9]⟩
  ·have he:e∈r:=by
    rcases aaQ.1 he with h | h
    ·exact absurd (by rw [h]) hx
    ·exact h
   obtain ⟨j,hj⟩:=Pe r (i+1) e he hn2.2;refine ⟨j,?_⟩;rw [if_neg (by simp only [l9];omega)];exact hj
theorem mf {α β:Type} [DecidableEq α] {f:α->β}: ∀{l M:List α},(l.map f).Nodup->(∀e∈l,e∈M)->l.length<=M.length
 | [],M,_,_=>by simp
 | x::r,M,hn,h=>by
  rw [aaM,aaU] at hn;have hx:=h x (aaR ..)
  have h2:=mf (l:=r) (M:=M.erase x) hn.2 fun e he=>(List.mem_erase_of_ne (by
   rintro rfl;exact hn.1 (aaS.mpr ⟨e,he,rfl⟩))).2 (h e (List.mem_cons_of_mem _ he))
  rw [List.length_erase_of_mem hx] at h2;have:0<M.length:=List.length_pos_of_mem hx;simp only [aaH];omega
theorem EJ {M:List (Cell×Nat)} {clock:Nat} (h:vT M clock) {S:List Cell} (hS:gq S) (hM: ∀z,z∈M.map Prod.fst↔z∈S) (val:Cell->ae) {l:List (Cell×Nat)} (hl: ∀e∈l,e∈M) (hn:(l.map Prod.snd).Nodup) (hall: ∀e∈M,(l.map Prod.snd).contains e.2=true):
  ((l.map fun e=>(e.1,val e.1)).map Prod.fst).Nodup∧q8 (l.map fun e=>(e.1,val e.1))=S.map fun z=>(z,val z):=by
 have hmem: ∀e∈M,e∈l:=fun e he=>by
  have h1:=hall e he;rw [List.contains_iff_mem] at h1;obtain ⟨e',h2,h3⟩:=aaS.1 h1;have:=oT h.born (hl _ h2) he h3
  rwa [<-this]
 have hk:(l.map Prod.fst).Nodup:=by unfold List.Nodup at hn⊢;rw [aaV] at hn⊢;refine List.Pairwise.imp_of_mem (fun {a b} ha hb hab hf=> ?_) hn;exact hab (by rw [oT h.keys (hl _ ha) (hl _ hb) hf])
 have he:(l.map fun e=>(e.1,val e.1)).map Prod.fst=l.map Prod.fst:=by simp
 rw [he];refine ⟨hk,?_⟩;have hp:(q8 (l.map fun e=>(e.1,val e.1))).Perm (l.map fun e=>(e.1,val e.1)):=by unfold q8;exact List.mergeSort_perm _ _
 refine Ag hS (fun r hr=> ?_) (fun z=> ?_) ?_ ?_
 ·obtain ⟨e,_,rfl⟩:=aaS.1 (hp.mem_iff.1 hr);rfl
 ·rw [<-hM,(hp.map Prod.fst).mem_iff,he];constructor
  ·intro hz;obtain ⟨e,h1,rfl⟩:=aaS.1 hz;exact aaS.mpr ⟨e,hl _ h1,rfl⟩
  ·intro hz;obtain ⟨e,h1,rfl⟩:=aaS.1 hz;exact aaS.mpr ⟨e,hmem _ h1,rfl⟩
 ·rw [(hp.map Prod.fst).nodup_iff,he];exact hk
 ·rw [aaV];unfold q8
  have hs:=List.pairwise_mergeSort (le:=fun x y:Cell×ae=> !decide (gr y.1 x.1<0)) (fun a b c h1 h2=>by
   simp only [aax,decide_eq_false_iff_not,fQ] at h1 h2⊢;rw [gu] at*;omega) (fun a b=>by
   simp only [Bool.or_eq_true,aax,decide_eq_false_iff_not,fQ];rw [gu,gu];omega) (l.map fun e=>(e.1,val e.1))
  refine hs.imp fun {a b} hab=> ?_;simp only [aax,decide_eq_false_iff_not,fQ] at hab;exact hab
end Go.Proofs.YtfgbpngakkhdcaaGreatDoor
