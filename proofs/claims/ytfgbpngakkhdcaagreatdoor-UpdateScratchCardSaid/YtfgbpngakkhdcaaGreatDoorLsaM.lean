/- Catalogs that are few. -/
import Derived.Test.YtfgbpngakkhdcaaGreatDoorAdM
open Bool renaming and_eq_true->abj,eq_false_iff->adG,false_and->abD,true_and->adH
open List renaming all_cons->adI,all_nil->adJ,drop_eq_getElem_cons->aaB,drop_eq_nil_of_le->aaC,drop_zero->acY,getD_eq_getElem?_getD->aaE,getElem_mem->aa8,length_cons->aaH,map_append->aaL,map_cons->aaM,map_map->ab2,map_nil->aaN,map_replicate->aaO,map_set->aaP,map_take->adK,take_length->adn,take_succ_eq_append_getElem->adL
set_option linter.all false
namespace Go.Proofs.YtfgbpngakkhdcaaGreatDoor
open Go.Am
set_option maxRecDepth 10000
set_option maxHeartbeats 8000000
def oN (a b n:Nat):Bool:=decide (n<=a∨b<n∧n<=b+1)
def Je (f:Fc):Bool:=decide (f.lang.length<=10)&&oN 60 4096 f.text.length
def ua (s:Sh):Bool:=(decide (s.mark.length<=70)&&decide (s.title.length<=70)&&oN 6 32 s.facts.length)&&s.facts.all Je
def Gm (b:Lb):Bool:=decide (b.text.length<=70)&&decide (b.lang.length<=10)
def fv (c:Ct):Bool:=(decide (c.af.length<=10)&&oN 20 256 c.aD.length&&oN 14 256 c.ao.length)&&(c.af.all (fun s=>decide (s.length<=10))&&(c.aD.all Gm&&c.ao.all ua))
theorem ub {c:Ct} (hi:c.yC) (h:fv c=true):c.ok:=by unfold fv oN at h;simp only [abj,decide_eq_true_eq,List.all_eq_true] at h;obtain ⟨⟨⟨h1,h2⟩,h3⟩,h4,h5,h6⟩:=h;refine ⟨hi.lz,hi.bz,hi.sz,by omega,by omega,by omega,fun s hs=>⟨(hi.sh s hs).fz,?_⟩⟩;have:=h6 s hs;unfold ua oN at this;simp only [abj,decide_eq_true_eq] at this;omega
theorem pC (c:Ct) (hi:c.yC):aq cfg 10 [b8 c] []=some (.bool (fv c), []):=by
 refine aa ZE Xj ?_;have hl:=hi.ll;have hb:=hi.bl;have hs:=hi.sl;unfold maxLen at hl hb hs;unfold fv b8 eV;generalize hL:c.af.length=nL at*
 generalize hB:c.aD.length=nB at*
 generalize hS:c.ao.length=nS at*
 have hL':(aA c.af).length=nL:=by simp [hL]
 have hB':(c.aD.map fD).length=nB:=by simp [hB]
 have hS':(c.ao.map cj).length=nS:=by simp [hS]
 obtain ⟨AA,hA⟩: ∃A,A=(c.af.all (fun s=>decide (s.length<=10))&&(c.aD.all Gm&&c.ao.all ua)):=⟨_,rfl⟩;rw [<-hA];have hE1: ∀k (h:k<c.af.length),(aA c.af)[k]?=some (.str c.af[k]):=fun k h=>get_map _ _ (by omega);have hE2: ∀k (h:k<c.aD.length),(c.aD.map fD)[k]?=some (fD c.aD[k]):=fun k h=>get_map _ _ (by omega);have hE3: ∀k (h:k<c.ao.length),(c.ao.map cj)[k]?=some (cj c.ao[k]):=fun k h=>get_map _ _ (by omega);have z1:=hi.lz;have z2:=hi.bz;have z3:=hi.sz;generalize aA c.af=L1 at*
 generalize c.aD.map fD=L2 at*
 generalize c.ao.map cj=L3 at*
 by_cases hQ:(decide (nL<=10)&&oN 20 256 nB&&oN 14 256 nS)=true
 case neg=>
  rw [adG.2 hQ,abD];clear hE1 hE2 hE3 z1 z2 z3;simp (maxSteps:=9^9) (disch:=omega) [-aaO,-aaP,-aaE,-getElem?_pos,-getElem?_neg,om,SI,hL',hB',hS'];unfold oN at hQ;simp only [abj,decide_eq_true_eq] at hQ
  intros
  exfalso;omega
 rw [hQ,adH];have hq:=hQ;unfold oN at hq;simp only [abj,decide_eq_true_eq] at hq;obtain ⟨⟨q1,q2⟩,q3⟩:=hq;simp (maxSteps:=9^9) (disch:=omega) [-aaO,-aaP,-aaE,-getElem?_pos,-getElem?_neg,om,SI,hL',hB',hS'];rw [if_neg (by omega)];refine Wp.aP (fun (i:Nat)=>nL-i) (fun i=> [none,some (.ptr 0 0),none,some (.int .i64 i),none,none,none,none,none,none,none,none,none,none,none,none,none,none]) (fun _=> [.var 26 [.ag c.ln c.lz L1,.ag c.bn c.bz L2,.ag c.sn c.sz L3]]) (fun i=>AA=((c.af.drop i).all (fun s=>decide (s.length<=10))&&(c.aD.all Gm&&c.ao.all ua))∧i<=nL) ?_ 0 ⟨by rw [acY];exact hA,by omega⟩ (by simp) rfl;clear hA;rintro i ⟨hA,hil⟩;by_cases h1:i<nL
 ·have hg:=hE1 i (by omega);have h1':i<c.af.length:=by omega
  obtain hzz:=z1 (ne_of_lt h1');rw [aaB h1',adI] at hA;generalize c.af[i]=x at*
  clear hE1 hE2 hE3 z1 z2 z3 q2 q3;by_cases hx:x.length<=10
  ·rw [show decide (x.length<=10)=true by simpa using hx,adH] at hA;simp (maxSteps:=9^9) (disch:=omega) [-aaO,-aaP,-aaE,-getElem?_pos,-getElem?_neg,om,h1,hg,hL',hx,hzz];exact ⟨i+1,⟨hA,by omega⟩,by omega,by simp⟩
  ·rw [show decide (x.length<=10)=false by simpa using hx,abD,abD] at hA;subst hA;simp (maxSteps:=9^9) (disch:=omega) [-aaO,-aaP,-aaE,-getElem?_pos,-getElem?_neg,om,h1,hg,hL',hx,hzz]
 ·rw [aaC (by omega),adJ,adH] at hA;clear hE1 z1;simp (maxSteps:=9^9) (disch:=omega) [-aaO,-aaP,-aaE,-getElem?_pos,-getElem?_neg,om,h1,hL'];refine Wp.aP (fun (i:Nat)=>nB-i) (fun i=> [none,some (.ptr 0 0),none,none,some (.int .i64 i),none,none,none,none,none,none,none,none,none,none,none,none,none]) (fun _=> [.var 26 [.ag c.ln c.lz L1,.ag c.bn c.bz L2,.ag c.sn c.sz L3]]) (fun i=>AA=((c.aD.drop i).all Gm&&c.ao.all ua)∧i<=nB) ?_ 0 ⟨by rw [acY];exact hA,by omega⟩ (by simp) rfl;clear hA;rintro i ⟨hA,hil⟩;by_cases h1:i<nB
  ·have hg:=hE2 i (by omega);have h1':i<c.aD.length:=by omega
   obtain hzz:=z2 (ne_of_lt h1');rw [aaB h1',adI] at hA;generalize c.aD[i]=x at*
   unfold fD at hg;clear hE2 hE3 z2 z3 q2 q3;by_cases hx:Gm x=true
   ·rw [hx,adH] at hA;unfold Gm at hx;simp only [abj,decide_eq_true_eq] at hx;obtain ⟨x1,x2⟩:=hx;simp (maxSteps:=9^9) (disch:=omega) [-aaO,-aaP,-aaE,-getElem?_pos,-getElem?_neg,om,h1,hg,hB',x1,x2,hzz];exact ⟨i+1,⟨hA,by omega⟩,by omega,by simp⟩
   ·rw [adG.2 hx,abD,abD] at hA;subst hA;unfold Gm at hx;simp only [abj,decide_eq_true_eq] at hx;simp (maxSteps:=9^9) (disch:=omega) [-aaO,-aaP,-aaE,-getElem?_pos,-getElem?_neg,om,h1,hg,hB',hzz];omega
  ·rw [aaC (by omega),adJ,adH] at hA;clear hE2 z2;simp (maxSteps:=9^9) (disch:=omega) [-aaO,-aaP,-aaE,-getElem?_pos,-getElem?_neg,om,h1,hB'];refine Wp.aP (fun (i:Nat)=>nS-i) (fun i=> [none,some (.ptr 0 0),none,none,none,some (.int .i64 i),none,none,none,none,none,none,none,none,none,none,none,none]) (fun _=> [.var 26 [.ag c.ln c.lz L1,.ag c.bn c.bz L2,.ag c.sn c.sz L3]]) (fun i=>AA=((c.ao.drop i).all ua)∧i<=nS) ?_ 0 ⟨by rw [acY];exact hA,by omega⟩ (by simp) rfl;clear hA;rintro i ⟨hA,hil⟩;by_cases h1:i<nS
   ·have hg:=hE3 i (by omega);have h1':i<c.ao.length:=by omega
    obtain hzz:=z3 (ne_of_lt h1');have hxi:=hi.sh _ (aa8 h1');rw [aaB h1',adI] at hA;generalize c.ao[i]=x at*
    unfold cj at hg;clear hE3 z3 q2 q3;have hfz:=hxi.fz;have hfl:=hxi.fl;unfold maxLen at hfl;have hF:(x.facts.map eW).length=x.facts.length:=by simp
    have hE4: ∀k (h:k<x.facts.length),(x.facts.map eW)[k]?=some (.agg [.int .i64 x.facts[k].el,.str x.facts[k].lang,.str x.facts[k].text]):=fun k h=>get_map _ _ (by omega);generalize x.facts.map eW=L4 at*
    by_cases hQ2:(decide (x.mark.length<=70)&&decide (x.title.length<=70)&&oN 6 32 x.facts.length)=true
    case neg=>
     unfold ua at hA;rw [adG.2 hQ2,abD,abD] at hA;subst hA;simp (maxSteps:=9^9) (disch:=omega) [-aaO,-aaP,-aaE,-getElem?_pos,-getElem?_neg,om,h1,hg,hS',hF,hzz,ab];unfold oN at hQ2;simp only [abj,decide_eq_true_eq] at hQ2
     intros
     exfalso;omega
    unfold ua at hA;rw [hQ2,adH] at hA;unfold oN at hQ2;simp only [abj,decide_eq_true_eq] at hQ2;obtain ⟨⟨y1,y2⟩,y3⟩:=hQ2;simp (maxSteps:=9^9) (disch:=omega) [-aaO,-aaP,-aaE,-getElem?_pos,-getElem?_neg,om,h1,hg,hS',hF,hzz,ab];rw [if_neg (by omega)];refine Wp.aP (fun (j:Nat)=>x.facts.length-j) (fun j=> [none,some (.ptr 0 0),none,none,none,some (.int .i64 i),some (.ptr 1 0),some (.int .i64 j),none,none,none,none,none,none,none,none,none,none]) (fun _=> [.var 26 [.ag c.ln c.lz L1,.ag c.bn c.bz L2,.ag c.sn c.sz L3],.var 74 [.int .i64 x.unit,.int .i64 x.par,.int .i64 x.level,.str x.mark,.str x.title,.ag x.fn x.fz L4]]) (fun j=>AA=((x.facts.drop j).all Je&&(c.ao.drop (i+1)).all ua)∧j<=x.facts.length) ?_ 0 ⟨by rw [acY];exact hA,by omega⟩ (by simp) (by rw [hzz]);clear hA;rintro j ⟨hA,hjl⟩;by_cases h2:j<x.facts.length
    ·have hg4:=hE4 j h2;obtain hzz2:=hfz (ne_of_lt h2);rw [aaB h2,adI] at hA;generalize x.facts[j]=f at*
     clear hE4 hfz y3;by_cases hx:Je f=true
     ·rw [hx,adH] at hA;unfold Je oN at hx;simp only [abj,decide_eq_true_eq] at hx;simp (maxSteps:=9^9) (disch:=omega) [-aaO,-aaP,-aaE,-getElem?_pos,-getElem?_neg,om,h2,hg4,hF,hzz2];rw [if_neg (by omega)];exact ⟨j+1,⟨hA,by omega⟩,by omega,by simp⟩
     ·rw [adG.2 hx,abD,abD] at hA;subst hA;unfold Je oN at hx;simp only [abj,decide_eq_true_eq] at hx;simp (maxSteps:=9^9) (disch:=omega) [-aaO,-aaP,-aaE,-getElem?_pos,-getElem?_neg,om,h2,hg4,hF,hzz2];omega
    ·rw [aaC (by omega),adJ,adH] at hA;simp (maxSteps:=9^9) (disch:=omega) [-aaO,-aaP,-aaE,-getElem?_pos,-getElem?_neg,om,h2,hF];exact ⟨i+1,⟨hA,by omega⟩,by omega,by simp⟩
   ·rw [aaC (by omega),adJ] at hA;simp (maxSteps:=9^9) (disch:=omega) [-aaO,-aaP,-aaE,-getElem?_pos,-getElem?_neg,om,h1,hS',hA]
def mc (s:Sh):Sh:=⟨s.unit,s.par,s.level,s.mark,s.title,s.facts,if s.facts= [] then some false else none,if s.facts= [] then 0 else 3⟩
def bJ (c:Ct):Ct:=⟨c.af,c.aD,c.ao.map mc,if c.af= [] then some false else none,if c.af= [] then 0 else 1,if c.aD= [] then some false else none,if c.aD= [] then 0 else 4,none,6⟩
theorem OL (c:Ct):(bJ c).Wt c:=by unfold Ct.Wt Ct.pj bJ;simp only [ab2];congr 1
theorem dM {c:Ct} (h:c.ok):(bJ c).ok:=by refine ⟨fun h=>by simp only [bJ] at h⊢;rw [if_neg h],fun h=>by simp only [bJ] at h⊢;rw [if_neg h],fun _=>rfl,h.ll,h.bl,by simp only [bJ,List.length_map];exact h.sl,fun s hs=> ?_⟩;simp only [bJ,List.mem_map] at hs;obtain ⟨t,ht,rfl⟩:=hs;exact ⟨fun h=>by simp only [mc] at h⊢;rw [if_neg h],(h.sh t ht).fl⟩
theorem j8 (c:Ct) (hc:c.ok):aq cfg 12 [b8 c] []=some (b8 (bJ c), []):=by
 refine aa ZF Xk ?_;obtain ⟨af,aD,ao,ln,lz,bn,bz,sn,sz⟩:=c;have l1:=hc.ll;have l2:=hc.bl;have l3:=hc.sl;have z1:=hc.lz;have z2:=hc.bz;have z3:=hc.sz;have hsh:=hc.sh;clear hc;unfold b8 eV bJ;simp only at l1 l2 l3 z1 z2 z3 hsh⊢;have p3:=cW ao;have e3:(ao.map cj).length=ao.length:=by simp
 have hE: ∀k (h:k<ao.length),(ao.map cj)[k]?=some (cj ao[k]):=fun k h=>get_map _ _ h;generalize ao.map cj=L3 at*
 obtain ⟨OUT,hOUT⟩: ∃O,O=(ao.map mc).map cj:=⟨_,rfl⟩;rw [<-hOUT];cases af with
 | nil=>
  cases aD with
  | nil=>
   simp (maxSteps:=9^9) (disch:=omega) [-aaO,-aaP,-aaE,-getElem?_pos,-getElem?_neg,om,LY,p3,e3,ab,aA,fD];refine Wp.aP (fun (i:Nat)=>ao.length-i) (fun i=> [none,some (.ptr 0 0),some (.ptr 1 0),some (.ptr 9 0),some (.int .i64 i),none,none,none,none,none,none,none,none,none,none,none,none,none]) (fun i=> [.var 26 [.ag ln lz [],.ag bn bz [],.ag sn sz L3],.var 26 [.ax 2 0,.ax 3 0,.ax 4 0],.sl ⟨false,some 9,none⟩ 1 [],.sl ⟨false,some 80,none⟩ 4 [],.sl ⟨false,some 74,none⟩ 6 [],.dead,.dead,.dead,.dead,.var 26 [.cv (some false),.cv (some false),.ax 10 i],.sl ⟨false,some 74,none⟩ 6 (((ao.take i).map mc).map cj)]) (fun i=>i<=ao.length) ?_ 0 (by omega) (by simp) (by simp);rintro i hil;have hcl:(((ao.take i).map mc).map cj).length=i:=by simp;omega
   by_cases q1:i<ao.length
   ·have hg:=hE i q1;obtain rfl:=z3 (ne_of_lt q1)
    have htk:((ao.take (i+1)).map mc).map cj=((ao.take i).map mc).map cj++ [cj (mc ao[i])]:=by rw [adL q1,aaL,aaL];rfl
    have hso:=hsh _ (aa8 q1);have hpl:=cW ((ao.take i).map mc);generalize ao[i]=w at*
    have hst:cj (mc w)= .agg [.int .i64 w.unit,.int .i64 w.par,.int .i64 w.level,.str w.mark,.str w.title,.ag (if w.facts= [] then some false else none) (if w.facts= [] then 0 else 3) (w.facts.map eW)]:=rfl;rw [hst] at htk;unfold cj at hg;clear hst;have hfz:=hso.fz;have hfl:=hso.fl;generalize ((ao.take i).map mc).map cj=DONE at*
    cases hw:w.facts with
    | nil=>rw [hw] at hg htk;simp only [aaN,if_true] at hg htk;simp (maxSteps:=9^9) (disch:=omega) [-aaO,-aaP,-aaE,-getElem?_pos,-getElem?_neg,om,q1,hg,e3,hcl,ab,hpl];exact ⟨i+1,by omega,by omega,by simp,by simp only [ab2,adK] at htk;exact ⟨rfl,htk.symm⟩⟩
    | cons f fs=>
     have hfz3:=hfz (by rw [hw];simp);rw [hw] at hg htk hfl;rw [hfz3] at hg;rw [if_neg (by simp)] at htk;simp only [aaM,aaH] at hg htk hfl;have hfp:=jr fs;have hfn:(fs.map eW).length=fs.length:=by simp
     unfold eW at hg htk hfp hfn;generalize fs.map _=Fss at*
     simp (maxSteps:=9^9) (disch:=omega) [-aaO,-aaP,-aaE,-getElem?_pos,-getElem?_neg,om,q1,hg,e3,hcl,ab,hpl,hfp,hfn];exact ⟨i+1,by omega,by omega,by simp,by simp only [ab2,adK] at htk;exact ⟨rfl,htk.symm⟩⟩
   ·obtain rfl:i=ao.length:=by omega
    have hpl:=cW ((ao.take ao.length).map mc);rw [adn] at hcl hpl⊢;rw [<-hOUT] at hcl hpl⊢;simp (maxSteps:=9^9) (disch:=omega) [-aaO,-aaP,-aaE,-getElem?_pos,-getElem?_neg,om,q1,e3,hcl,ab,hpl]
  | cons y s=>
   have z2:=z2 (by simp);have p2:=oP s;have e2:(s.map fD).length=s.length:=by simp
   simp only [aaH] at l2;rw [z2,aaM];unfold fD at*
   generalize s.map _=L2 at*
   simp (maxSteps:=9^9) (disch:=omega) [-aaO,-aaP,-aaE,-getElem?_pos,-getElem?_neg,om,LY,p3,e3,ab,aA,fD,p2,e2];refine Wp.aP (fun (i:Nat)=>ao.length-i) (fun i=> [none,some (.ptr 0 0),some (.ptr 1 0),some (.ptr 9 0),some (.int .i64 i),none,none,none,none,none,none,none,none,none,none,none,none,none]) (fun i=> [.var 26 [.ag ln lz [],.ag bn 4 (.agg [.int .i64 y.el,.str y.lang,.str y.text,.int .i64 y.ix]::L2),.ag sn sz L3],.var 26 [.ax 2 0,.ax 3 0,.ax 4 0],.sl ⟨false,some 9,none⟩ 1 [],.sl ⟨false,some 80,none⟩ 4 [],.sl ⟨false,some 74,none⟩ 6 [],.dead,.dead,.dead,.sl ⟨false,some 80,none⟩ 4 (.agg [.int .i64 y.el,.str y.lang,.str y.text,.int .i64 y.ix]::L2),.var 26 [.cv (some false),.ax 8 (s.length+1),.ax 10 i],.sl ⟨false,some 74,none⟩ 6 (((ao.take i).map mc).map cj)]) (fun i=>i<=ao.length) ?_ 0 (by omega) (by simp) (by simp);rintro i hil;have hcl:(((ao.take i).map mc).map cj).length=i:=by simp;omega
   by_cases q1:i<ao.length
   ·have hg:=hE i q1;obtain rfl:=z3 (ne_of_lt q1)
    have htk:((ao.take (i+1)).map mc).map cj=((ao.take i).map mc).map cj++ [cj (mc ao[i])]:=by rw [adL q1,aaL,aaL];rfl
    have hso:=hsh _ (aa8 q1);have hpl:=cW ((ao.take i).map mc);generalize ao[i]=w at*
    have hst:cj (mc w)= .agg [.int .i64 w.unit,.int .i64 w.par,.int .i64 w.level,.str w.mark,.str w.title,.ag (if w.facts= [] then some false else none) (if w.facts= [] then 0 else 3) (w.facts.map eW)]:=rfl;rw [hst] at htk;unfold cj at hg;clear hst;have hfz:=hso.fz;have hfl:=hso.fl;generalize ((ao.take i).map mc).map cj=DONE at*
    cases hw:w.facts with
    | nil=>rw [hw] at hg htk;simp only [aaN,if_true] at hg htk;simp (maxSteps:=9^9) (disch:=omega) [-aaO,-aaP,-aaE,-getElem?_pos,-getElem?_neg,om,q1,hg,e3,hcl,ab,hpl];exact ⟨i+1,by omega,by omega,by simp,by simp only [ab2,adK] at htk;exact ⟨rfl,htk.symm⟩⟩
    | cons f fs=>
     have hfz3:=hfz (by rw [hw];simp);rw [hw] at hg htk hfl;rw [hfz3] at hg;rw [if_neg (by simp)] at htk;simp only [aaM,aaH] at hg htk hfl;have hfp:=jr fs;have hfn:(fs.map eW).length=fs.length:=by simp
     unfold eW at hg htk hfp hfn;generalize fs.map _=Fss at*
     simp (maxSteps:=9^9) (disch:=omega) [-aaO,-aaP,-aaE,-getElem?_pos,-getElem?_neg,om,q1,hg,e3,hcl,ab,hpl,hfp,hfn];exact ⟨i+1,by omega,by omega,by simp,by simp only [ab2,adK] at htk;exact ⟨rfl,htk.symm⟩⟩
   ·obtain rfl:i=ao.length:=by omega
    have hpl:=cW ((ao.take ao.length).map mc);rw [adn] at hcl hpl⊢;rw [<-hOUT] at hcl hpl⊢;simp (maxSteps:=9^9) (disch:=omega) [-aaO,-aaP,-aaE,-getElem?_pos,-getElem?_neg,om,q1,e3,hcl,ab,hpl,p2,e2]
 | cons x r=>
  have z1:=z1 (by simp);have p1:=vO r;have e1:(aA r).length=r.length:=by simp
  have hx:aA (x::r)= .str x::aA r:=rfl;simp only [aaH] at l1;rw [z1,hx];generalize aA r=L1 at*
  cases aD with
  | nil=>
   simp (maxSteps:=9^9) (disch:=omega) [-aaO,-aaP,-aaE,-getElem?_pos,-getElem?_neg,om,LY,p3,e3,ab,aA,fD,p1,e1];refine Wp.aP (fun (i:Nat)=>ao.length-i) (fun i=> [none,some (.ptr 0 0),some (.ptr 1 0),some (.ptr 9 0),some (.int .i64 i),none,none,none,none,none,none,none,none,none,none,none,none,none]) (fun i=> [.var 26 [.ag ln 1 (.str x::L1),.ag bn bz [],.ag sn sz L3],.var 26 [.ax 2 0,.ax 3 0,.ax 4 0],.sl ⟨false,some 9,none⟩ 1 [],.sl ⟨false,some 80,none⟩ 4 [],.sl ⟨false,some 74,none⟩ 6 [],.dead,.sl ⟨false,some 9,none⟩ 1 (.str x::L1),.dead,.dead,.var 26 [.ax 6 (r.length+1),.cv (some false),.ax 10 i],.sl ⟨false,some 74,none⟩ 6 (((ao.take i).map mc).map cj)]) (fun i=>i<=ao.length) ?_ 0 (by omega) (by simp) (by simp);rintro i hil;have hcl:(((ao.take i).map mc).map cj).length=i:=by simp;omega
   by_cases q1:i<ao.length
   ·have hg:=hE i q1;obtain rfl:=z3 (ne_of_lt q1)
    have htk:((ao.take (i+1)).map mc).map cj=((ao.take i).map mc).map cj++ [cj (mc ao[i])]:=by rw [adL q1,aaL,aaL];rfl
    have hso:=hsh _ (aa8 q1);have hpl:=cW ((ao.take i).map mc);generalize ao[i]=w at*
    have hst:cj (mc w)= .agg [.int .i64 w.unit,.int .i64 w.par,.int .i64 w.level,.str w.mark,.str w.title,.ag (if w.facts= [] then some false else none) (if w.facts= [] then 0 else 3) (w.facts.map eW)]:=rfl;rw [hst] at htk;unfold cj at hg;clear hst;have hfz:=hso.fz;have hfl:=hso.fl;generalize ((ao.take i).map mc).map cj=DONE at*
    cases hw:w.facts with
    | nil=>rw [hw] at hg htk;simp only [aaN,if_true] at hg htk;simp (maxSteps:=9^9) (disch:=omega) [-aaO,-aaP,-aaE,-getElem?_pos,-getElem?_neg,om,q1,hg,e3,hcl,ab,hpl];exact ⟨i+1,by omega,by omega,by simp,by simp only [ab2,adK] at htk;exact ⟨rfl,htk.symm⟩⟩
    | cons f fs=>
     have hfz3:=hfz (by rw [hw];simp);rw [hw] at hg htk hfl;rw [hfz3] at hg;rw [if_neg (by simp)] at htk;simp only [aaM,aaH] at hg htk hfl;have hfp:=jr fs;have hfn:(fs.map eW).length=fs.length:=by simp
     unfold eW at hg htk hfp hfn;generalize fs.map _=Fss at*
     simp (maxSteps:=9^9) (disch:=omega) [-aaO,-aaP,-aaE,-getElem?_pos,-getElem?_neg,om,q1,hg,e3,hcl,ab,hpl,hfp,hfn];exact ⟨i+1,by omega,by omega,by simp,by simp only [ab2,adK] at htk;exact ⟨rfl,htk.symm⟩⟩
   ·obtain rfl:i=ao.length:=by omega
    have hpl:=cW ((ao.take ao.length).map mc);rw [adn] at hcl hpl⊢;rw [<-hOUT] at hcl hpl⊢;simp (maxSteps:=9^9) (disch:=omega) [-aaO,-aaP,-aaE,-getElem?_pos,-getElem?_neg,om,q1,e3,hcl,ab,hpl,p1,e1]
  | cons y s=>
   have z2:=z2 (by simp);have p2:=oP s;have e2:(s.map fD).length=s.length:=by simp
   simp only [aaH] at l2;rw [z2,aaM];unfold fD at*
   generalize s.map _=L2 at*
   simp (maxSteps:=9^9) (disch:=omega) [-aaO,-aaP,-aaE,-getElem?_pos,-getElem?_neg,om,LY,p3,e3,ab,aA,fD,p1,e1,p2,e2];refine Wp.aP (fun (i:Nat)=>ao.length-i) (fun i=> [none,some (.ptr 0 0),some (.ptr 1 0),some (.ptr 9 0),some (.int .i64 i),none,none,none,none,none,none,none,none,none,none,none,none,none]) (fun i=> [.var 26 [.ag ln 1 (.str x::L1),.ag bn 4 (.agg [.int .i64 y.el,.str y.lang,.str y.text,.int .i64 y.ix]::L2),.ag sn sz L3],.var 26 [.ax 2 0,.ax 3 0,.ax 4 0],.sl ⟨false,some 9,none⟩ 1 [],.sl ⟨false,some 80,none⟩ 4 [],.sl ⟨false,some 74,none⟩ 6 [],.dead,.sl ⟨false,some 9,none⟩ 1 (.str x::L1),.dead,.sl ⟨false,some 80,none⟩ 4 (.agg [.int .i64 y.el,.str y.lang,.str y.text,.int .i64 y.ix]::L2),.var 26 [.ax 6 (r.length+1),.ax 8 (s.length+1),.ax 10 i],.sl ⟨false,some 74,none⟩ 6 (((ao.take i).map mc).map cj)]) (fun i=>i<=ao.length) ?_ 0 (by omega) (by simp) (by simp);rintro i hil;have hcl:(((ao.take i).map mc).map cj).length=i:=by simp;omega
   by_cases q1:i<ao.length
   ·have hg:=hE i q1;obtain rfl:=z3 (ne_of_lt q1)
    have htk:((ao.take (i+1)).map mc).map cj=((ao.take i).map mc).map cj++ [cj (mc ao[i])]:=by rw [adL q1,aaL,aaL];rfl
    have hso:=hsh _ (aa8 q1);have hpl:=cW ((ao.take i).map mc);generalize ao[i]=w at*
    have hst:cj (mc w)= .agg [.int .i64 w.unit,.int .i64 w.par,.int .i64 w.level,.str w.mark,.str w.title,.ag (if w.facts= [] then some false else none) (if w.facts= [] then 0 else 3) (w.facts.map eW)]:=rfl;rw [hst] at htk;unfold cj at hg;clear hst;have hfz:=hso.fz;have hfl:=hso.fl;generalize ((ao.take i).map mc).map cj=DONE at*
    cases hw:w.facts with
    | nil=>rw [hw] at hg htk;simp only [aaN,if_true] at hg htk;simp (maxSteps:=9^9) (disch:=omega) [-aaO,-aaP,-aaE,-getElem?_pos,-getElem?_neg,om,q1,hg,e3,hcl,ab,hpl];exact ⟨i+1,by omega,by omega,by simp,by simp only [ab2,adK] at htk;exact ⟨rfl,htk.symm⟩⟩
    | cons f fs=>
     have hfz3:=hfz (by rw [hw];simp);rw [hw] at hg htk hfl;rw [hfz3] at hg;rw [if_neg (by simp)] at htk;simp only [aaM,aaH] at hg htk hfl;have hfp:=jr fs;have hfn:(fs.map eW).length=fs.length:=by simp
     unfold eW at hg htk hfp hfn;generalize fs.map _=Fss at*
     simp (maxSteps:=9^9) (disch:=omega) [-aaO,-aaP,-aaE,-getElem?_pos,-getElem?_neg,om,q1,hg,e3,hcl,ab,hpl,hfp,hfn];exact ⟨i+1,by omega,by omega,by simp,by simp only [ab2,adK] at htk;exact ⟨rfl,htk.symm⟩⟩
   ·obtain rfl:i=ao.length:=by omega
    have hpl:=cW ((ao.take ao.length).map mc);rw [adn] at hcl hpl⊢;rw [<-hOUT] at hcl hpl⊢;simp (maxSteps:=9^9) (disch:=omega) [-aaO,-aaP,-aaE,-getElem?_pos,-getElem?_neg,om,q1,e3,hcl,ab,hpl,p1,e1,p2,e2]
end Go.Proofs.YtfgbpngakkhdcaaGreatDoor
