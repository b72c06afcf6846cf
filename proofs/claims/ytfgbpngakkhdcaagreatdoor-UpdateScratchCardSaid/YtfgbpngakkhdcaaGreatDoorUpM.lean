/- update.New and Update; copies of kept finding aids, and equal ones. -/
import Derived.Test.YtfgbpngakkhdcaaGreatDoorUpaM
open Bool renaming not_eq_true'->aax
open List renaming all_eq_true->abH,any_cons->acp,drop_eq_getElem_cons->aaB,drop_eq_nil_of_le->aaC,getD_eq_getElem?_getD->aaE,getElem_mem->aa8,length_cons->aaH,length_map->abp,map_append->aaL,map_cons->aaM,map_map->ab2,map_nil->aaN,map_replicate->aaO,map_set->aaP,mem_append->abN,mem_flatMap->acd,mem_map->aaS,mem_of_getElem?->ab3,mem_of_mem_take->adP,mem_singleton->adl,nodup_nil->ac9,take_length->adn,take_succ_eq_append_getElem->adL
open Nat renaming le_refl->aa0
set_option linter.all false
namespace Go.Proofs.YtfgbpngakkhdcaaGreatDoor
open Go.Am
set_option maxRecDepth 10000
set_option maxHeartbeats 8000000
theorem BD {l:List Mm} (h:fF unesc l=0):(dL l).Nodup:=by
 unfold fF at h;by_cases h1:(dL l).Nodup
 ·exact h1
 ·rw [if_neg h1] at h;cases h
theorem sN (c:Ct) (hc:c.ok) (unit:Int) (lang:ae) (h:aH c unit lang=0):aq cfg 11 [b8 c,.int .i64 unit,.str lang] []=
  some (.aL [yf unit lang (aG Lib.itoa esc c unit lang []),.int .i64 0], []):=by
 refine aa XI P8 ?_;have w:=Ev c hc ⟨unit,lang, [],some true,0⟩ ⟨fun h=>absurd rfl h,by simp,fun m hm=>by cases hm⟩ ac9 h;have pm:=cG (aG Lib.itoa esc c unit lang []);unfold b8 eV uf HH yf Kp.cs at*
 simp only [aaN] at w;generalize aG Lib.itoa esc c unit lang []=M at*
 generalize M.map gX=MV at*
 generalize fC Lib.itoa esc c unit lang []=AN at*
 have pa:=dB AN;generalize cI AN=IA at*
 generalize aA c.af=L1 at*
 generalize c.aD.map fD=L2 at*
 generalize c.ao.map cj=L3 at*
 simp (maxSteps:=9^9) (disch:=omega) [-aaO,-aaP,-aaE,-getElem?_pos,-getElem?_neg,om,SR,w,ab,pm,pa]
theorem vM (c:Ct) (hc:c.ok) (unit:Int) (lang:ae) (h:aH c unit lang≠0):aq cfg 11 [b8 c,.int .i64 unit,.str lang] []=some (.aL [Jg,.int .i64 (aH c unit lang)], []):=by
 refine aa XI P8 ?_;have w:=Ew c hc ⟨unit,lang, [],some true,0⟩ ⟨fun h=>absurd rfl h,by simp,fun m hm=>by cases hm⟩ h;unfold b8 eV uf HH Jg at*
 simp only [aaN] at w;generalize aH c unit lang=e at*
 generalize aA c.af=L1 at*
 generalize c.aD.map fD=L2 at*
 generalize c.ao.map cj=L3 at*
 simp (maxSteps:=9^9) (disch:=omega) [-aaO,-aaP,-aaE,-getElem?_pos,-getElem?_neg,om,SR,w,ab]
theorem pD (c:Ct) (hc:c.ok) (k:Kp) (hk:k.ok) (hi: ∀m∈k.cO,m.SU) (hch:fF unesc k.cs=0) (h:aH c k.unit k.lang=0):aq cfg 16 [uf k,b8 c] []=
  some (.aL [yf k.unit k.lang (aG Lib.itoa esc c k.unit k.lang k.cs),.ag none 1 (cI (fC Lib.itoa esc c k.unit k.lang k.cs)),.int .i64 0], []):=by
 refine aa XJ P9 ?_;have w1:=sO k hk.mz hk.ml hi;have w2:=Ev c hc k hk (BD hch) h;rw [hch] at w1;have pk:=cb k.cO;have pm:=cG (aG Lib.itoa esc c k.unit k.lang k.cs);unfold b8 eV uf HH yf at*
 generalize aG Lib.itoa esc c k.unit k.lang k.cs=M at*
 generalize M.map gX=MV at*
 generalize fC Lib.itoa esc c k.unit k.lang k.cs=AN at*
 have pa:=dB AN;generalize cI AN=IA at*
 generalize k.cO.map dT=KM at*
 generalize aA c.af=L1 at*
 generalize c.aD.map fD=L2 at*
 generalize c.ao.map cj=L3 at*
 simp (maxSteps:=9^9) (disch:=omega) [-aaO,-aaP,-aaE,-getElem?_pos,-getElem?_neg,om,SV,w1,w2,ab,pm,pa,pk]
theorem By (c:Ct) (hc:c.ok) (k:Kp) (hk:k.ok) (hi: ∀m∈k.cO,m.SU) (hch:fF unesc k.cs=0) (h:aH c k.unit k.lang≠0):aq cfg 16 [uf k,b8 c] []=
  some (.aL [Jg,.ag (some true) 0 [],.int .i64 (aH c k.unit k.lang)], []):=by
 refine aa XJ P9 ?_;have w1:=sO k hk.mz hk.ml hi;have w2:=Ew c hc k hk h;rw [hch] at w1;have pk:=cb k.cO;unfold b8 eV uf HH Jg at*
 generalize aH c k.unit k.lang=e at*
 generalize k.cO.map dT=KM at*
 generalize aA c.af=L1 at*
 generalize c.aD.map fD=L2 at*
 generalize c.ao.map cj=L3 at*
 simp (maxSteps:=9^9) (disch:=omega) [-aaO,-aaP,-aaE,-getElem?_pos,-getElem?_neg,om,SV,w1,w2,ab,pk]
def ML (m:Me):Me:=⟨m.c,if m.c.1= [] then some false else none,if m.c.1= [] then 0 else 3,if m.c.2.nodes= [] then some false else none,if m.c.2.nodes= [] then 0 else 3⟩
def nC (k:Kp):Kp:=⟨k.unit,k.lang,k.cO.map ML,none,4⟩
theorem fm (k:Kp):(nC k).cs=k.cs:=by unfold Kp.cs nC;rw [ab2];rfl
theorem Mg {m:Me} (h:m.ok):(ML m).ok:=⟨fun h=>by simp only [ML] at h⊢;rw [if_neg h],fun h=>by simp only [ML] at h⊢;rw [if_neg h],h.rl,h.nl⟩
theorem OV {m:Me} (h:m.ok) (hb:Bd m.c.1):(ML m).SU:=⟨Mg h,fun h=>by simp only [ML] at h⊢;rw [if_neg h],hb⟩
theorem j9 {k:Kp} (h:k.ok):(nC k).ok:=⟨fun _=>rfl,by simp [nC];exact h.ml,fun m hm=>by
 simp only [nC,aaS] at hm;obtain ⟨x,hx,rfl⟩:=hm;exact Mg (h.me x hx)⟩
theorem oO (k:Kp) (hk:k.ok):aq cfg 17 [uf k] []=some (uf (nC k), []):=by
 refine aa aac XS ?_;obtain ⟨ku,kl,km,mn,mz⟩:=k;have hmz:=hk.mz;have hml:=hk.ml;have hme:=hk.me;unfold nC uf HH;simp only at hmz hml hme⊢;have hp:=cb km;have hE: ∀i (h:i<km.length),(km.map dT)[i]?=some (dT km[i]):=fun i h=>get_map _ _ h;have hEl:(km.map dT).length=km.length:=by simp
 obtain ⟨DD,hDD⟩: ∃DD:Nat->List AV,DD=fun i=>((km.take i).map ML).map dT:=⟨_,rfl⟩;have hD0:DD 0= []:=by rw [hDD];rfl
 have hDn:(km.map ML).map dT=DD km.length:=by rw [hDD];simp only [adn]
 have hDs: ∀i (h:i<km.length),DD (i+1)=DD i++ [dT (ML km[i])]:=fun i h=>by
  rw [hDD];simp only;rw [adL h,aaL,aaL];rfl
 have hDl: ∀i,i<=km.length->(DD i).length=i:=fun i hi=>by rw [hDD];simp;omega
 have hDp: ∀i,ai (DD i)=true:=fun i=>by rw [hDD];exact cb _
 rw [hDn];clear hDD hDn;generalize km.map dT=KM at*
 simp (maxSteps:=9^9) (disch:=omega) [-aaO,-aaP,-aaE,-getElem?_pos,-getElem?_neg,om,XT,ab,hEl,hp]
 refine Wp.aP (fun (i:Nat)=>km.length-i) (fun i=> [none,some (.ptr 0 0),some (.ptr 1 0),some (.ptr 3 0),some (.int .i64 i),none,none,none,none,none,none,none,none,none,none,none])
  (fun i=> [.var 31 [.int .i64 ku,.str kl,.ag mn mz KM],.var 31 [.int .i64 0,.str [],.ax 2 0],.sl ⟨false,some 60,none⟩ 4 [],.var 31 [.int .i64 ku,.str kl,.ax 4 i],.sl ⟨false,some 60,none⟩ 4 (DD i)])
  (fun i=>i<=km.length) ?_ 0 (by omega) (by simp) (by simp [hD0])
 clear hD0;rintro i hil;have h2:=hDl i hil;have h3:=hDp i;by_cases h1:i<km.length
 ·have hg:=hE i h1;obtain rfl:=hmz (ne_of_lt h1);have hs:=hDs i h1;have hmo:=hme km[i] (aa8 h1);clear hE hDs hDl hDp hme;generalize km[i]=m at*
  have hrz:=hmo.rz;have hnz:=hmo.nz;have hrl:=hmo.rl;have hnl:=hmo.nl;clear hmo;obtain ⟨⟨rs,u,nm,ns⟩,rn,rz,nn,nz⟩:=m;simp only at hrz hnz hrl hnl;unfold dT ML at hs;unfold dT at hg;simp only at hg hs;have hRl:(aN rs).length=rs.length:=by simp [aN]
  have hNl:(ns.map dO).length=ns.length:=by simp
  have pr:=aO rs;have pn:=aK ns;cases rs with
  | nil=>
   simp only [if_true] at hs;rw [show aN []= [] from rfl] at hg hs;cases ns with
   | nil=>simp only [aaN,if_true] at hg hs;simp (maxSteps:=9^9) (disch:=omega) [-aaO,-aaP,-aaE,-getElem?_pos,-getElem?_neg,om,h1,hg,hEl,ab,h2,h3];exact ⟨i+1,by omega,by omega,by simp,rfl,hs.symm⟩
   | cons y ns=>
    obtain rfl:=hnz (by simp);rw [if_neg (by simp),if_neg (by simp)] at hs;simp only [aaH] at hnl hNl;have hne:(y::ns).map dO≠ []:=by simp
    generalize (y::ns).map dO=NN at*
    simp (maxSteps:=9^9) (disch:=omega) [-aaO,-aaP,-aaE,-getElem?_pos,-getElem?_neg,om,h1,hg,hEl,ab,h2,h3,hNl,pn,hne];exact ⟨i+1,by omega,by omega,by simp,rfl,hs.symm⟩
  | cons x rs=>
   obtain rfl:=hrz (by simp);rw [if_neg (by simp),if_neg (by simp)] at hs;simp only [aaH] at hrl hRl;have hre:aN (x::rs)≠ []:=by simp [aN]
   generalize aN (x::rs)=RR at*
   cases ns with
   | nil=>simp only [aaN,if_true] at hg hs;simp (maxSteps:=9^9) (disch:=omega) [-aaO,-aaP,-aaE,-getElem?_pos,-getElem?_neg,om,h1,hg,hEl,ab,h2,h3,hRl,pr,hre];exact ⟨i+1,by omega,by omega,by simp,rfl,hs.symm⟩
   | cons y ns=>
    obtain rfl:=hnz (by simp);rw [if_neg (by simp),if_neg (by simp)] at hs;simp only [aaH] at hnl hNl;have hne:(y::ns).map dO≠ []:=by simp
    generalize (y::ns).map dO=NN at*
    simp (maxSteps:=9^9) (disch:=omega) [-aaO,-aaP,-aaE,-getElem?_pos,-getElem?_neg,om,h1,hg,hEl,ab,h2,h3,hRl,pr,hre,hNl,pn,hne];exact ⟨i+1,by omega,by omega,by simp,rfl,hs.symm⟩
 ·obtain rfl:i=km.length:=by omega
  simp (maxSteps:=9^9) (disch:=omega) [-aaO,-aaP,-aaE,-getElem?_pos,-getElem?_neg,om,hEl,ab,h2,h3,hp]
theorem L5 (a b:Kp) (ha:a.ok) (hb:b.ok):aq cfg 14 [uf a,uf b] []=some (.bool (decide (a.unit=b.unit∧a.lang=b.lang∧a.cs=b.cs)), []):=by
 refine aa aab XU ?_;obtain ⟨ku,kl,km,mn,mz⟩:=a;obtain ⟨ku',kl',km',mn',mz'⟩:=b;have hmz:=ha.mz;have hml:=ha.ml;have hme:=ha.me;have hmz':=hb.mz;have hml':=hb.ml;have hme':=hb.me;unfold Kp.cs uf HH;simp only at hmz hml hme hmz' hml' hme'⊢;have hE: ∀i (h:i<km.length),(km.map dT)[i]?=some (dT km[i]):=fun i h=>get_map _ _ h;have hEl:(km.map dT).length=km.length:=by simp
 have hE': ∀i (h:i<km'.length),(km'.map dT)[i]?=some (dT km'[i]):=fun i h=>get_map _ _ h;have hEl':(km'.map dT).length=km'.length:=by simp
 have pk:=cb km;have pk':=cb km';have wr: ∀m∈km,∀n∈km',aq cfg 38 [.ag m.rn m.rz (aN m.c.1),.ag n.rn n.rz (aN n.c.1)] []=some (.bool (decide (m.c.1=n.c.1)), []):=fun m hm n hn=>LJ _ _ _ _ _ _ (hme m hm).rz (hme' n hn).rz (hme m hm).rl (hme' n hn).rl;have ws: ∀m∈km,∀n∈km',aq cfg 39 [.agg [.int .i64 m.c.2.unit,.str m.c.2.num,.ag m.nn m.nz (m.c.2.nodes.map dO)],.agg [.int .i64 n.c.2.unit,.str n.c.2.num,.ag n.nn n.nz (n.c.2.nodes.map dO)]] []=some (.bool (decide (m.c.2=n.c.2)), []):=fun m hm n hn=>x6 _ _ _ _ _ _ (hme m hm).nz (hme' n hn).nz (hme m hm).nl (hme' n hn).nl;clear hme hme';generalize km.map dT=KM at*
 generalize km'.map dT=KM' at*
 by_cases hq:ku=ku'∧kl=kl'∧km.length=km'.length
 case neg=>
  have hd:decide (ku=ku'∧kl=kl'∧km.map Me.c=km'.map Me.c)=false:=by rw [decide_eq_false_iff_not];rintro ⟨h1,h2,h3⟩;exact hq ⟨h1,h2,by simpa using congrArg List.length h3⟩
  rw [hd];clear hd wr ws hE hE';by_cases h1:ku=ku'
  ·by_cases h2:kl=kl'
   ·have h3: ¬ km.length=km'.length:=fun h3=>hq ⟨h1,h2,h3⟩;have h4:((km.length:Int) !=(km'.length:Int))=true:=by rw [bne_iff_ne];omega
    simp (maxSteps:=9^9) (disch:=omega) [-aaO,-aaP,-aaE,-getElem?_pos,-getElem?_neg,om,Mh,ab,hEl,hEl',pk,pk',h1,h2,h3,h4]
   ·have h2':(kl !=kl')=true:=by simpa using h2
    simp (maxSteps:=9^9) (disch:=omega) [-aaO,-aaP,-aaE,-getElem?_pos,-getElem?_neg,om,Mh,ab,hEl,hEl',pk,pk',h1,h2,h2']
  ·have h1':(ku !=ku')=true:=by simpa using h1
   simp (maxSteps:=9^9) (disch:=omega) [-aaO,-aaP,-aaE,-getElem?_pos,-getElem?_neg,om,Mh,ab,hEl,hEl',pk,pk',h1,h1']
 obtain ⟨rfl,rfl,hlen⟩:=hq;have h4:((km.length:Int) !=(km'.length:Int))=false:=by rw [bne_eq_false_iff_eq];omega
 simp only [true_and];simp (maxSteps:=9^9) (disch:=omega) [-aaO,-aaP,-aaE,-getElem?_pos,-getElem?_neg,om,Mh,ab,hEl,hEl',pk,pk',h4]
 refine Wp.aP (fun (x:Nat×Option AV)=>km.length-x.1) (fun x=> [none,none,some (.ptr 0 0),some (.ptr 1 0),none,some (.int .i64 x.1),none,none,none,x.2,none]) (fun _=> [.var 31 [.int .i64 ku,.str kl,.ag mn mz KM],.var 31 [.int .i64 ku,.str kl,.ag mn' mz' KM']])
  (fun x=>(km.map Me.c=km'.map Me.c↔(km.drop x.1).map Me.c=(km'.drop x.1).map Me.c)∧x.1<=km.length) ?_ (0,none) ⟨by simp,by simp⟩ (by simp) rfl
 rintro ⟨i,o⟩ ⟨hi,hil⟩;simp only at hi hil⊢;by_cases h1:i<km.length
 ·have h1':i<km'.length:=by omega
  have hg:=hE i h1;have hg':=hE' i h1';obtain rfl:=hmz (ne_of_lt h1);obtain rfl:=hmz' (ne_of_lt h1');rw [aaB h1,aaB h1',aaM,aaM,List.cons.injEq] at hi;have w1:=wr _ (aa8 h1) _ (aa8 h1');have w2:=ws _ (aa8 h1) _ (aa8 h1');clear hE hE' wr ws;generalize km[i]=m at*
  generalize km'[i]=n at*
  unfold dT at hg hg';have p1:=aO m.c.1;have p2:=aO n.c.1;have p3:=aK m.c.2.nodes;have p4:=aK n.c.2.nodes;have hc:m.c=n.c↔m.c.1=n.c.1∧m.c.2=n.c.2:=Prod.ext_iff;by_cases q1:m.c.1=n.c.1
  ·by_cases q2:m.c.2=n.c.2
   ·rw [decide_eq_true q1] at w1;rw [decide_eq_true q2] at w2;rw [hc] at hi;simp only [q1,q2,and_self,true_and] at hi;clear hc q1 q2;simp (maxSteps:=9^9) (disch:=omega) [-aaO,-aaP,-aaE,-getElem?_pos,-getElem?_neg,om,h1,h1',hg,hg',hEl,hEl',ab,w1,w2,p1,p2,p3,p4];exact ⟨i+1,⟨by simpa using hi,by omega⟩,by omega,by simp⟩
   ·have hd:decide (km.map Me.c=km'.map Me.c)=false:=by rw [decide_eq_false_iff_not];intro h;exact q2 (hc.1 (hi.1 h).1).2
    rw [hd];rw [decide_eq_true q1] at w1;rw [decide_eq_false q2] at w2;clear hc q1 q2 hi hd;simp (maxSteps:=9^9) (disch:=omega) [-aaO,-aaP,-aaE,-getElem?_pos,-getElem?_neg,om,h1,h1',hg,hg',hEl,hEl',ab,w1,w2,p1,p2,p3,p4]
  ·have hd:decide (km.map Me.c=km'.map Me.c)=false:=by rw [decide_eq_false_iff_not];intro h;exact q1 (hc.1 (hi.1 h).1).1
   rw [hd];rw [decide_eq_false q1] at w1;clear hc q1 hi hd w2;simp (maxSteps:=9^9) (disch:=omega) [-aaO,-aaP,-aaE,-getElem?_pos,-getElem?_neg,om,h1,h1',hg,hg',hEl,hEl',ab,w1,p1,p2,p3,p4]
 ·rw [aaC (by omega),aaC (by omega)] at hi
  have hd:decide (km.map Me.c=km'.map Me.c)=true:=by rw [decide_eq_true_eq];exact hi.2 rfl
  rw [hd];clear hi hd;simp (maxSteps:=9^9) (disch:=omega) [-aaO,-aaP,-aaE,-getElem?_pos,-getElem?_neg,om,h1,hEl,hEl',ab,pk,pk']
def meK (m:Mm):Me:=⟨m,none,3,none,3⟩
def gY (unit:Int) (lang:ae) (M:List Mm):Kp:=⟨unit,lang,M.map meK,none,4⟩
theorem uc (u:Int) (l:ae) (M:List Mm):yf u l M=uf (gY u l M):=by unfold yf uf HH gY;rw [ab2];rfl
theorem dN (u:Int) (l:ae) (M:List Mm):(gY u l M).cs=M:=by unfold Kp.cs gY;rw [ab2];exact List.map_id M
structure MB (m:Mm):Prop where
 rl:m.1.length<1000000
 nl:m.2.nodes.length<1000000
 bd:Bd m.1
theorem dX {u:Int} {l:ae} {M:List Mm} (hl:M.length<1000000) (hm: ∀m∈M,MB m):(gY u l M).ok:=⟨fun _=>rfl,by simpa [gY] using hl,fun m h=>by
 simp only [gY,aaS] at h;obtain ⟨x,hx,rfl⟩:=h;exact ⟨fun _=>rfl,fun _=>rfl,(hm x hx).rl,(hm x hx).nl⟩⟩
theorem kT {u:Int} {l:ae} {M:List Mm} (hl:M.length<1000000) (hm: ∀m∈M,MB m): ∀m∈(nC (gY u l M)).cO,m.SU:=fun m h=>by
 simp only [nC,gY,aaS] at h;obtain ⟨x,⟨y,hy,rfl⟩,rfl⟩:=h;exact OV ⟨fun _=>rfl,fun _=>rfl,(hm y hy).rl,(hm y hy).nl⟩ (hm y hy).bd
theorem Mi {c:Ct} (hf:fv c=true) {root u:Int} {lang:ae} (h:(bN Lib.itoa esc (bJ c) root lang u).2=0):Bd (bN Lib.itoa esc (bJ c) root lang u).1:=by
 obtain ⟨S,_,_,_,hS,_⟩:=kR h;rw [hS];intro r hr;obtain ⟨z,_,rfl⟩:=aaS.1 hr;have v:=Gl hf root lang;rw [(OL c).dY];obtain ⟨z1,z2⟩:=z;refine ⟨fun h1=> ?_,fun h1=> ?_,fun h1=> ?_⟩
 ·simp only at h1;subst h1;exact v.one z2
 ·simp only at h1;subst h1;exact ⟨v.two z2,fun p hp=>by have:=v.ZD z2 p hp;omega⟩
 ·exact v.more z1 z2 h1
theorem vN (c:Ct) (root:Int) (lang:ae):(eh Lib.itoa c root lang).length<=c.ao.length:=by unfold eh;rw [abp];exact (m9 Lib.itoa root c.ao ⟨[], []⟩).1
theorem l7 {c:Ct} (hc:c.ok) (hf:fv c=true) {root:Int} {lang:ae} (h:aH (bJ c) root lang=0) {old:List Mm} (ho: ∀m∈old,MB m):
  (∀m∈aG Lib.itoa esc (bJ c) root lang old,MB m)∧(aG Lib.itoa esc (bJ c) root lang old).length<1000000:=by
 constructor
 ·intro m hm;obtain ⟨s,hs,rfl⟩:=aaS.1 hm
  have hnew:MB ((bN Lib.itoa esc (bJ c) root lang s.unit).1,s):=⟨Jd _ root s.unit lang,by
   obtain ⟨x,hx,rfl⟩:=aaS.1 hs;exact LX (cJ (dz (dA h)).1) _ ((m9 Lib.itoa root (bJ c).ao ⟨[], []⟩).2 _ hx),Mi hf (jz h hs)⟩
  unfold iT pV;cases hfm:gO old s.unit with
  | none=>exact hnew
  | some m=>
   simp only;split
   ·exact hnew
   ·exact ho m (m8 hfm).1
 ·unfold aG;rw [abp];have:=vN (bJ c) root lang;have:=(dM hc).sl;omega
theorem nb (c:Ct): ∃a b d,b8 c= .agg [.ag c.ln c.lz a,.ag c.bn c.bz b,.ag c.sn c.sz d]:=⟨_,_,_,rfl⟩
theorem SL (u:Int) (l:ae) (M:List Mm):uf (nC (gY u l M))= .agg [.int .i64 u,.str l,.ag none 4 ((nC (gY u l M)).cO.map dT)]:=rfl
theorem vd (u:Int) (l:ae) (M:List Mm):(nC (gY u l M)).unit=u:=rfl
theorem ve (u:Int) (l:ae) (M:List Mm):(nC (gY u l M)).lang=l:=rfl
theorem L8 (k:Kp) (hk:k.ok):aq cfg 24 [uf k] []=some (wb k.unit k.lang (k.cs.map Prod.snd), []):=by
 refine aa aaf XV ?_;obtain ⟨ku,kl,km,mn,mz⟩:=k;have hmz:=hk.mz;have hml:=hk.ml;have hme:=hk.me;unfold Kp.cs wb uf HH;simp only at hmz hml hme⊢;have hp:=cb km;have hE: ∀i (h:i<km.length),(km.map dT)[i]?=some (dT km[i]):=fun i h=>get_map _ _ h;have hEl:(km.map dT).length=km.length:=by simp
 have w: ∀m∈km,aq cfg 53 [OW m.nn m.nz m.c.2] []=some (du m.c.2, []):=fun m hm=>vg m.nn m.nz m.c.2 (hme m hm).nz (hme m hm).nl;obtain ⟨SS,hSS⟩: ∃SS:Nat->List AV,SS=fun i=>((km.take i).map fun m=>m.c.2).map du:=⟨_,rfl⟩;have hS0:SS 0= []:=by rw [hSS];rfl
 have hSn:SS km.length=((km.map Me.c).map Prod.snd).map du:=by rw [hSS];simp only [adn];simp
 have hSs: ∀i (h:i<km.length),SS (i+1)=SS i++ [du km[i].c.2]:=fun i h=>by
  rw [hSS];simp only;rw [adL h,aaL,aaL];rfl
 have hSl: ∀i,i<=km.length->(SS i).length=i:=fun i hi=>by rw [hSS];simp;omega
 have hSp: ∀i,ai (SS i)=true:=fun i=>by rw [hSS];exact cQ (fun x=>by simp [du,AV.plain,aK]) _
 rw [<-hSn];clear hSS hSn hme;generalize km.map dT=KM at*
 simp (maxSteps:=9^9) (disch:=omega) [-aaO,-aaP,-aaE,-getElem?_pos,-getElem?_neg,om,XW,ab,hEl,hp]
 refine Wp.aP (fun (i:Nat)=>km.length-i) (fun i=> [none,none,some (.ptr 1 0),some (.ptr 3 0),none,none,some (.ag mn mz KM),some (.int .i64 km.length),some (.int .i64 i),none,none,none,none,none,none])
  (fun i=> [.var 31 [.int .i64 ku,.str kl,.ag mn mz KM],.var 49 [.int .i64 0,.str [],.ax 2 0],.sl ⟨false,some 58,none⟩ 3 [],.var 49 [.int .i64 ku,.str kl,.ax 4 i],.sl ⟨false,some 58,none⟩ 3 (SS i)])
  (fun i=>i<=km.length) ?_ 0 (by omega) (by simp) (by simp [hS0])
 clear hS0;rintro i hil;have h2:=hSl i hil;have h3:=hSp i;by_cases h1:i<km.length
 ·have hg:=hE i h1;obtain rfl:=hmz (ne_of_lt h1);have hs:=hSs i h1;have w1:=w km[i] (aa8 h1);clear hE w hSs hSl hSp;generalize km[i]=m at*
  simp only [Gv] at hg;unfold OW at w1;unfold du at w1 hs;have hpn:=aK m.c.2.nodes;simp (maxSteps:=9^9) (disch:=omega) [-aaO,-aaP,-aaE,-getElem?_pos,-getElem?_neg,om,h1,hg,hEl,ab,w1,h2,hpn,aO];exact ⟨i+1,by omega,by omega,by simp,rfl,hs.symm⟩
 ·obtain rfl:i=km.length:=by omega
  simp (maxSteps:=9^9) (disch:=omega) [-aaO,-aaP,-aaE,-getElem?_pos,-getElem?_neg,om,hEl,ab,h2,h3,hp]
def pY (p:Cell×ae->Bool):List (Cell×ae)->Nat->Int
 | [],_=> -1
 | s::r,i=>if p s=true then (i:Int) else pY p r (i+1)
theorem z7 (p:Cell×ae->Bool): ∀(l:List (Cell×ae)) (i:Nat),0<=pY p l i↔l.any p=true
 | [],i=>by simp [pY]
 | x::r,i=>by
  unfold pY;by_cases h:p x=true
  ·rw [if_pos h,acp,h];simp
  ·rw [if_neg h,z7 p r (i+1),acp];simp [h]
theorem OX (nl:Option Bool) (z:Nat) (l:List (Cell×ae)) (hz:l≠ []->z=3) (hl:l.length<1000000) (f:FuncId) (hns:vR f) (j:Nat) (bs:List ad) (p:Cell×ae->Bool)
  (hf: ∀s:Cell×ae,aq cfg f [nf s,.ptr j 0] bs=some (.bool (p s),bs)) (hj:j<bs.length) (hsh:shut bs.length bs=true):
  aq cfg 108 [.ag nl z (aN l),.fn f [] [.ptr j 0]] bs=some (.int .i64 (pY p l 0),bs):=by
 refine aa XM SX ?_;have hLl:(aN l).length=l.length:=by simp [aN]
 have hE: ∀i (h:i<l.length),(aN l)[i]?=some (nf l[i]):=fun i h=>get_map _ _ h;generalize aN l=E at*
 obtain ⟨n1,n2,n3,n4⟩:=hns;simp only [exts,qV,GF,iW] at n1 n2 n3 n4;have hm:=shut_map (aa0 _) hsh;simp (maxSteps:=9^9) (disch:=omega) [-aaO,-aaP,-aaE,-getElem?_pos,-getElem?_neg,om,Qa,hLl];refine Wp.aP (fun (i:Nat)=>l.length-i) (fun i=> [some (.ag nl z E),some (.fn f [] [.ptr j 0]),none,none,some (.int .i64 l.length),some (.int .i64 i),none,none]) (fun _=>bs) (fun i=>pY p l 0=pY p (l.drop i) i∧i<=l.length) ?_ 0 ⟨by simp,by omega⟩ (by simp) rfl;rintro i ⟨hi,hil⟩;rw [hi];clear hi;by_cases h1:i<l.length
 ·have hg:=hE i h1;have hs:=hf l[i];obtain rfl:=hz (ne_of_lt h1);rw [aaB h1];simp only [pY];generalize l[i]=x at*
  obtain ⟨⟨x1,x2⟩,t⟩:=x;unfold nf at hg hs;simp only at hg hs;generalize p ((x1,x2),t)=px at*
  clear hE hf;cases px with
  | true=>simp (maxSteps:=9^9) (disch:=omega) [-aaO,-aaP,-aaE,-getElem?_pos,-getElem?_neg,om,h1,hg,hs,n1,n2,n3,n4,hj,hm]
  | false=>rw [if_neg (by simp)];simp (maxSteps:=9^9) (disch:=omega) [-aaO,-aaP,-aaE,-getElem?_pos,-getElem?_neg,om,h1,hg,hs,n1,n2,n3,n4,hj,hm];exact ⟨i+1,⟨rfl,by omega⟩,by omega,by simp⟩
 ·rw [aaC (by omega)];simp (maxSteps:=9^9) (disch:=omega) [-aaO,-aaP,-aaE,-getElem?_pos,-getElem?_neg,om,h1,pY]
theorem OY (nl:Option Bool) (z:Nat) (l:List (Cell×ae)) (hz:l≠ []->z=3) (hl:l.length<1000000) (f:FuncId) (hns:vR f) (j:Nat) (bs:List ad) (p:Cell×ae->Bool)
  (hf: ∀s:Cell×ae,aq cfg f [nf s,.ptr j 0] bs=some (.bool (p s),bs)) (hj:j<bs.length) (hsh:shut bs.length bs=true):
  aq cfg 61 [.ag nl z (aN l),.fn f [] [.ptr j 0]] bs=some (.bool (l.any p),bs):=by
 refine aa aan XX ?_;have h:=OX nl z l hz hl f hns j bs p hf hj hsh;have hm:=shut_map (aa0 _) hsh;have hpl:=aO l;have hd:=z7 p l 0;generalize aN l=E at*
 generalize pY p l 0=q at*
 obtain ⟨n1,n2,n3,n4⟩:=hns;simp only [exts,qV,GF,iW] at n1 n2 n3 n4;clear hf;cases hb:l.any p with
 | true=>have hq:=hd.2 hb;simp (maxSteps:=9^9) (disch:=omega) [-aaO,-aaP,-aaE,-getElem?_pos,-getElem?_neg,om,SY,h,hpl,hq,hj,hm]
 | false=>
  have hq: ¬ 0<=q:=fun h=>by rw [hd.1 h] at hb;cases hb
  simp (maxSteps:=9^9) (disch:=omega) [-aaO,-aaP,-aaE,-getElem?_pos,-getElem?_neg,om,SY,h,hpl,hq,hj,hm]
theorem Mj (k0:List AV) (nl:Option Bool) (z:Nat) (cs:List Cell) (hz:cs≠ []->z=2) (hl:cs.length<1000000) (N m:List AV) (hk0:k0.map (forget 4)=k0) (hm:m.map (forget 4)=m) (s:Cell×ae):
  aq cfg 62 [nf s,.ptr 1 0] [.var 31 k0,.var 65 [.ag nl z (dh cs)],.sl ⟨false,some 3,none⟩ 1 N,.var 60 m]
   =some (.bool (decide (s.1∈cs)), [.var 31 k0,.var 65 [.ag nl z (dh cs)],.sl ⟨false,some 3,none⟩ 1 N,.var 60 m]):=by
 refine aa aao XY ?_;have w:=OI nl z cs hz hl s.1;have hp:=eA cs;obtain ⟨⟨x1,x2⟩,t⟩:=s;unfold nf nF at*
 simp only at w⊢;generalize dh cs=E at*
 simp (maxSteps:=9^9) (disch:=omega) [-aaO,-aaP,-aaE,-getElem?_pos,-getElem?_neg,om,XZ,ab,w,hp,hk0,hm]
theorem HE (k:Kp) (hk:k.ok) (nl:Option Bool) (z:Nat) (cs:List Cell) (hz:cs≠ []->z=2) (hl:cs.length<1000000):aq cfg 30 [uf k,.ag nl z (dh cs)] []=some (.ag none 1 (cI (oH k.cs cs)), []):=by
 refine aa aai X0 ?_;obtain ⟨ku,kl,km,mn,mz⟩:=k;have hmz:=hk.mz;have hml:=hk.ml;have hme:=hk.me;unfold Kp.cs uf HH;simp only at hmz hml hme⊢;have hp:=cb km;have hE: ∀i (h:i<km.length),(km.map dT)[i]?=some (dT km[i]):=fun i h=>get_map _ _ h;have hEl:(km.map dT).length=km.length:=by simp
 have hcp:=eA cs;have w:=fun k0 N m h1 h2=>Mj k0 nl z cs hz hl N m h1 h2;obtain ⟨NL,hNL⟩: ∃NL:Nat->List Int,NL=fun i=>((km.take i).filter fun m=>m.c.1.any fun r=>decide (r.1∈cs)).map fun m=>m.c.2.unit:=⟨_,rfl⟩;have hN0:NL 0= []:=by rw [hNL];rfl
 have hNn:oH (km.map Me.c) cs=NL km.length:=by rw [hNL];simp only [adn];unfold oH;rw [List.filter_map,ab2];rfl
 have hNs: ∀i (h:i<km.length),NL (i+1)=NL i++(if (km[i].c.1.any fun r=>decide (r.1∈cs))=true then [km[i].c.2.unit] else []):=fun i h=>by
  rw [hNL];simp only;rw [adL h,List.filter_append,aaL];cases hq:km[i].c.1.any (fun r=>decide (r.1∈cs)) <;> simp [hq]
 have hNi: ∀i,i<=km.length->(NL i).length<=i:=fun i hi=>by
  rw [hNL];have:=List.length_filter_le (fun m:Me=>m.c.1.any fun r=>decide (r.1∈cs)) (km.take i);rw [List.length_take] at this;simp only [abp];omega
 rw [hNn];clear hNL hNn;generalize km.map dT=KM at*
 simp (maxSteps:=9^9) (disch:=omega) [-aaO,-aaP,-aaE,-getElem?_pos,-getElem?_neg,om,X1,ab,hEl,hp,hcp]
 refine Wp.aP (fun (i:Nat)=>km.length-i) (fun i=> [none,none,none,some (.ptr 1 0),none,some (.ax 2 (NL i).length),none,some (.ag mn mz KM),some (.int .i64 km.length),some (.int .i64 i),none,none,none,none,none,none,none])
  (fun i=> [.var 31 [.int .i64 ku,.str kl,.ag mn mz KM],.var 65 [.ag nl z (dh cs)],.sl ⟨false,some 3,none⟩ 1 (cI (NL i))])
  (fun i=>i<=km.length) ?_ 0 (by omega) (by simp [hN0]) (by simp [hN0,cI])
 clear hN0;rintro i hil;have h2:(cI (NL i)).length=(NL i).length:=by simp [cI]
 have h3:=dB (NL i);have h4:=hNi i hil;by_cases h1:i<km.length
 ·have hg:=hE i h1;obtain rfl:=hmz (ne_of_lt h1);have hs:=hNs i h1;have hmo:=hme km[i] (aa8 h1);have w1:=OY km[i].rn km[i].rz km[i].c.1 hmo.rz hmo.rl 62 ⟨rfl,rfl,rfl,rfl⟩ 1 _ (fun s=>decide (s.1∈cs)) (w [.int .i64 ku,.str kl,.ag mn 4 KM] (cI (NL i)) [.ag km[i].rn km[i].rz (aN km[i].c.1),.int .i64 km[i].c.2.unit,.str km[i].c.2.num,.ag km[i].nn km[i].nz (km[i].c.2.nodes.map dO)] (by simp [forget,AV.under,ar]) (by simp [forget,AV.under,ar])) (by simp) (by simp [shut,ar,AV.under]);clear hE w hNs hNi hme hmo;generalize km[i]=m at*
  simp only [Gv] at hg;have hpn:=aK m.c.2.nodes;generalize hq:(m.c.1.any fun r=>decide (r.1∈cs))=q at*
  cases q with
  | true=>
   rw [if_pos rfl] at hs;have hs2:cI (NL (i+1))=cI (NL i)++ [.int .i64 m.c.2.unit]:=by rw [hs];simp [cI]
   have hs3:(NL (i+1)).length=(NL i).length+1:=by rw [hs];simp
   simp (maxSteps:=9^9) (disch:=omega) [-aaO,-aaP,-aaE,-getElem?_pos,-getElem?_neg,om,h1,hg,hEl,ab,w1,h2,hpn,aO,hcp];exact ⟨i+1,by omega,by omega,⟨hs3.symm,by simp⟩,hs2.symm⟩
  | false=>rw [if_neg (by simp),List.append_nil] at hs;simp (maxSteps:=9^9) (disch:=omega) [-aaO,-aaP,-aaE,-getElem?_pos,-getElem?_neg,om,h1,hg,hEl,ab,w1,h2,hpn,aO,hcp];exact ⟨i+1,by omega,by omega,⟨by rw [hs],by simp⟩,by rw [hs]⟩
 ·obtain rfl:i=km.length:=by omega
  simp (maxSteps:=9^9) (disch:=omega) [-aaO,-aaP,-aaE,-getElem?_pos,-getElem?_neg,om,hEl,ab,h2,h3,hp,hcp]
theorem Mk {l:List Cell} (hn:l.Nodup) {S:List Cell} (hS:gq S) (hm: ∀z,z∈l↔z∈S):x5 l=S:=by
 have hp:(x5 l).Perm l:=by unfold x5;exact List.mergeSort_perm _ _
 refine yd _ _ (lx _ (hp.nodup_iff.2 hn) ?_) hS (fun z=>by rw [hp.mem_iff];exact hm z);unfold x5
 have hs:=List.pairwise_mergeSort (le:=fun x y:Cell=> !decide (gr y x<0)) (fun a b c h1 h2=>by
  simp only [aax,decide_eq_false_iff_not,fQ] at h1 h2⊢;rw [gu] at*;omega) (fun a b=>by
  simp only [Bool.or_eq_true,aax,decide_eq_false_iff_not,fQ];rw [gu,gu];omega) l
 refine hs.imp fun {a b} hab=> ?_;simp only [aax,decide_eq_false_iff_not,fQ] at hab;exact hab
theorem Bz (nl nl':Option Bool) (z z':Nat) (l m:List Int) (hz:l≠ []->z=1) (hz':m≠ []->z'=1) (hl:l.length<1000000) (hm:m.length<1000000):aq cfg 21 [.ag nl z (cI l),.ag nl' z' (cI m)] []=some (.bool (decide (l=m)), []):=by
 refine aa aae X2 ?_;have hE: ∀k (h:k<l.length),(cI l)[k]?=some (.int .i64 l[k]):=fun k h=>get_map _ _ h;have hE': ∀k (h:k<m.length),(cI m)[k]?=some (.int .i64 m[k]):=fun k h=>get_map _ _ h;have hEl:(cI l).length=l.length:=by simp [cI]
 have hEm:(cI m).length=m.length:=by simp [cI]
 generalize cI l=E at*
 generalize cI m=E' at*
 by_cases hlm:l.length=m.length
 case neg=>
  have h2:((l.length:Int) !=(m.length:Int))=true:=by rw [bne_iff_ne];omega
  have h3: ¬ l=m:=fun h=>hlm (by rw [h]);simp (maxSteps:=9^9) (disch:=omega) [-aaO,-aaP,-aaE,-getElem?_pos,-getElem?_neg,om,SZ,hEl,hEm,h2,h3]
 have h2:((l.length:Int) !=(m.length:Int))=false:=by rw [bne_eq_false_iff_eq];omega
 simp (maxSteps:=9^9) (disch:=omega) [-aaO,-aaP,-aaE,-getElem?_pos,-getElem?_neg,om,SZ,hEl,hEm,h2];refine Wp.aP (fun (i:Nat)=>l.length-i) (fun i=> [some (.ag nl z E),some (.ag nl' z' E'),none,none,none,some (.int .i64 l.length),some (.int .i64 i),none,none]) (fun _=> []) (fun i=>(l=m↔l.drop i=m.drop i)∧i<=l.length) ?_ 0 ⟨by simp,by omega⟩ (by simp) rfl;rintro i ⟨hi,hil⟩;by_cases h1:i<l.length
 ·have h1':i<m.length:=by omega
  have hg:=hE i h1;have hg':=hE' i h1';obtain rfl:=hz (ne_of_lt h1);obtain rfl:=hz' (ne_of_lt h1');rw [aaB h1,aaB h1',List.cons.injEq] at hi;clear hE hE';generalize l[i]=r at*
  generalize m[i]=r' at*
  by_cases q:r=r'
  ·subst q;simp only [true_and] at hi;simp (maxSteps:=9^9) (disch:=omega) [-aaO,-aaP,-aaE,-getElem?_pos,-getElem?_neg,om,h1,h1',hg,hg',hEl,hEm];exact ⟨i+1,⟨hi,by omega⟩,by omega,by simp⟩
  ·have h3: ¬ l=m:=fun h=>q (hi.1 h).1;have q2:(r !=r')=true:=by simpa using q
   clear hi;simp (maxSteps:=9^9) (disch:=omega) [-aaO,-aaP,-aaE,-getElem?_pos,-getElem?_neg,om,h1,h1',hg,hg',hEl,hEm,q,q2,h3]
 ·rw [aaC (by omega),aaC (by omega)] at hi;have hi2:l=m:=hi.2 rfl;simp (maxSteps:=9^9) (disch:=omega) [-aaO,-aaP,-aaE,-getElem?_pos,-getElem?_neg,om,h1,hEl,hEm,hi2]
theorem S0 (nl:Option Bool) (z:Nat) (l:List Int) (hz:l≠ []->z=1) (hl:l.length<1000000) (x:Int): ∃i:Int,aq cfg 64 [.ag nl z (cI l),.int .i64 x] []=some (.int .i64 i, [])∧(0<=i↔x∈l):=by
 obtain ⟨i,hi⟩: ∃i:Int,i=match l.findIdx? (fun y=>decide (x=y)) with | some k=>(k:Int) | none=> -1:=⟨_,rfl⟩
 refine ⟨i,aa Ur O8 ?_,?_⟩
 case refine_2=>
  rw [hi];cases h:l.findIdx? (fun y=>decide (x=y)) with
  | none=>rw [List.findIdx?_eq_none_iff] at h;simp only [show¬ (0:Int)<= -1 by decide,false_iff];intro hx;simpa using h x hx
  | some k=>rw [List.findIdx?_eq_some_iff_getElem] at h;obtain ⟨h1,h2,_⟩:=h;have:x=l[k]:=of_decide_eq_true h2;simp only [show (0:Int)<=(k:Int) by omega,true_iff];rw [this];exact aa8 h1
 have hE: ∀k (h:k<l.length),(cI l)[k]?=some (.int .i64 l[k]):=fun k h=>get_map _ _ h;have hEl:(cI l).length=l.length:=by simp [cI]
 generalize cI l=E at*
 simp (maxSteps:=9^9) (disch:=omega) [-aaO,-aaP,-aaE,-getElem?_pos,-getElem?_neg,om,Qg,hEl];refine Wp.aP (fun (i:Nat)=>l.length-i) (fun i=> [some (.ag nl z E),some (.int .i64 x),none,none,some (.int .i64 l.length),some (.int .i64 i),none,none]) (fun _=> []) (fun k=>i=(match (l.drop k).findIdx? (fun y=>decide (x=y)) with | some j=>(k:Int)+(j:Int) | none=> -1)∧k<=l.length) ?_ 0 ⟨by simpa using hi,by omega⟩ (by simp) rfl;clear hi;rintro k ⟨hi,hil⟩;by_cases h1:k<l.length
 ·have hg:=hE k h1;obtain rfl:=hz (ne_of_lt h1);rw [aaB h1,List.findIdx?_cons] at hi;clear hE;generalize l[k]=r at*
  by_cases q:x=r
  ·subst q;have hi2:i=(k:Int):=by simpa using hi
   subst hi2;simp (maxSteps:=9^9) (disch:=omega) [-aaO,-aaP,-aaE,-getElem?_pos,-getElem?_neg,om,h1,hg,hEl]
  ·rw [show decide (x=r)=false by simpa using q] at hi;have q2:(x==r)=false:=by simpa using q
   have q3:(r==x)=false:=by simpa using fun h:r=x=>q h.symm
   have q4: ¬ r=x:=fun h=>q h.symm
   have hi3:i=(match (l.drop (k+1)).findIdx? (fun y=>decide (x=y)) with | some j=>((k+1:Nat):Int)+(j:Int) | none=> -1):=by
    rw [hi];cases (l.drop (k+1)).findIdx? (fun y=>decide (x=y)) with
    | none=>rfl
    | some j=>show (k:Int)+((j+1:Nat):Int)=((k+1:Nat):Int)+(j:Int);omega
   clear hi;simp (maxSteps:=9^9) (disch:=omega) [-aaO,-aaP,-aaE,-getElem?_pos,-getElem?_neg,om,h1,hg,hEl,q,q2,q3,q4];exact ⟨k+1,⟨hi3,by omega⟩,by omega,by simp⟩
 ·rw [aaC (by omega)] at hi;have hi2:i= -1:=hi;subst hi2;simp (maxSteps:=9^9) (disch:=omega) [-aaO,-aaP,-aaE,-getElem?_pos,-getElem?_neg,om,h1,hEl]
theorem HF (nl:Option Bool) (z:Nat) (l:List Int) (hz:l≠ []->z=1) (hl:l.length<1000000) (x:Int):aq cfg 33 [.ag nl z (cI l),.int .i64 x] []=some (.bool (decide (x∈l)), []):=by
 refine aa aak X3 ?_;obtain ⟨i,hi,hd⟩:=S0 nl z l hz hl x;have hp:=dB l;generalize cI l=E at*
 by_cases hx:x∈l
 ·have h0:=hd.2 hx;rw [decide_eq_true hx];simp (maxSteps:=9^9) (disch:=omega) [-aaO,-aaP,-aaE,-getElem?_pos,-getElem?_neg,om,S1,hi,hp,h0]
 ·have h0: ¬ 0<=i:=fun h=>hx (hd.1 h);rw [decide_eq_false hx];simp (maxSteps:=9^9) (disch:=omega) [-aaO,-aaP,-aaE,-getElem?_pos,-getElem?_neg,om,S1,hi,hp,h0]
theorem HD (nl:Option Bool) (z:Nat) (l:List Mm) (hz:l≠ []->z=4) (hl:l.length<1000000) (f:FuncId) (hns:vR f) (j:Nat) (bs:List ad) (u:Int)
  (hf: ∀s:Mm,aq cfg f [gX s,.ptr j 0] bs=some (.bool (s.2.unit==u),bs)) (hj:j<bs.length) (hsh:shut bs.length bs=true):
  aq cfg 25 [.ag nl z (l.map gX),.fn f [] [.ptr j 0]] bs=some (.int .i64 (oI u l 0),bs):=by
 refine aa aag X4 ?_;have hLl:(l.map gX).length=l.length:=by simp
 have hE: ∀i (h:i<l.length),(l.map gX)[i]?=some (gX l[i]):=fun i h=>get_map _ _ h;generalize l.map gX=E at*
 obtain ⟨n1,n2,n3,n4⟩:=hns;simp only [exts,qV,GF,iW] at n1 n2 n3 n4;have hm:=shut_map (aa0 _) hsh;simp (maxSteps:=9^9) (disch:=omega) [-aaO,-aaP,-aaE,-getElem?_pos,-getElem?_neg,om,X5,hLl];refine Wp.aP (fun (i:Nat)=>l.length-i) (fun i=> [some (.ag nl z E),some (.fn f [] [.ptr j 0]),none,none,some (.int .i64 l.length),some (.int .i64 i),none,none]) (fun _=>bs) (fun i=>oI u l 0=oI u (l.drop i) i∧i<=l.length) ?_ 0 ⟨by simp,by omega⟩ (by simp) rfl;rintro i ⟨hi,hil⟩;rw [hi];clear hi;by_cases h1:i<l.length
 ·have hg:=hE i h1;have hs:=hf l[i];obtain rfl:=hz (ne_of_lt h1);rw [aaB h1];simp only [oI];have hpl:=aK l[i].2.nodes;have hpr:=aO l[i].1;generalize l[i]=x at*
  unfold gX at hg hs;generalize x.2.nodes.map dO=NX at*
  generalize aN x.1=RX at*
  by_cases q:x.2.unit=u
  ·rw [if_pos q];rw [show (x.2.unit==u)=true by simpa using q] at hs;clear hE hf;simp (maxSteps:=9^9) (disch:=omega) [-aaO,-aaP,-aaE,-getElem?_pos,-getElem?_neg,om,h1,hg,hs,n1,n2,n3,n4,hpl,hpr,hj,hm]
  ·rw [if_neg q];rw [show (x.2.unit==u)=false by simpa using q] at hs;clear hE hf;simp (maxSteps:=9^9) (disch:=omega) [-aaO,-aaP,-aaE,-getElem?_pos,-getElem?_neg,om,h1,hg,hs,n1,n2,n3,n4,hpl,hpr,hj,hm];exact ⟨i+1,⟨rfl,by omega⟩,by omega,by simp⟩
 ·rw [aaC (by omega)];simp (maxSteps:=9^9) (disch:=omega) [-aaO,-aaP,-aaE,-getElem?_pos,-getElem?_neg,om,h1,oI]
theorem ON (nl:Option Bool) (z:Nat) (l:List Mm) (hz:l≠ []->z=4) (hl:l.length<1000000) (f:FuncId) (hns:vR f) (j:Nat) (bs:List ad) (u:Int)
  (hf: ∀s:Mm,aq cfg f [gX s,.ptr j 0] bs=some (.bool (s.2.unit==u),bs)) (hj:j<bs.length) (hsh:shut bs.length bs=true):
  aq cfg 31 [.ag nl z (l.map gX),.fn f [] [.ptr j 0]] bs=some (.bool (decide (u∈dL l)),bs):=by
 refine aa aaj X6 ?_;have h:=HD nl z l hz hl f hns j bs u hf hj hsh;have hm:=shut_map (aa0 _) hsh;have hpl:=cG l;have hd:=IL u l;generalize l.map gX=E at*
 generalize oI u l 0=q at*
 obtain ⟨n1,n2,n3,n4⟩:=hns;simp only [exts,qV,GF,iW] at n1 n2 n3 n4;clear hf;by_cases hb:u∈dL l
 ·have hq:=hd.2 hb;rw [decide_eq_true hb];simp (maxSteps:=9^9) (disch:=omega) [-aaO,-aaP,-aaE,-getElem?_pos,-getElem?_neg,om,S4,h,hpl,hq,hj,hm]
 ·have hq: ¬ 0<=q:=fun h=>hb (hd.1 h);rw [decide_eq_false hb];simp (maxSteps:=9^9) (disch:=omega) [-aaO,-aaP,-aaE,-getElem?_pos,-getElem?_neg,om,S4,h,hpl,hq,hj,hm]
theorem S5 {bs:List ad} {k clock:Nat} {m:List (Cell×Nat)} (h:ad.at bs k= .mp (m.map l9) clock) (z:Cell):bU cfg (cfg.ti 101) (.bT k) (nF z) false bs=some (.bool (decide (z∈m.map Prod.fst)),.none):=by
 have hf:=Af z m 0;cases hq:lB z m 0 with
 | none=>
  have hn:=qc z m 0 hq
  have hd:decide (z∈m.map Prod.fst)=false:=by rw [decide_eq_false_iff_not];intro hm;obtain ⟨e,he,rfl⟩:=aaS.1 hm;exact hn e he rfl
  rw [hd];rw [hq] at hf;unfold nF at*
  simp [bU,dq,iZ,jF,bH,ga,iD,h,hf,-bh]
 | some p=>
  obtain ⟨j,e⟩:=p;obtain ⟨_,hj,he⟩:=jD z m 0 j e hq
  have hd:decide (z∈m.map Prod.fst)=true:=by rw [decide_eq_true_eq];exact aaS.2 ⟨e,ab3 hj,he⟩
  rw [hd];rw [hq] at hf;unfold nF at*
  simp [bU,dq,iZ,jF,bH,ga,iD,h,hf,-bh,l9]
structure X7 (M:List (Cell×Nat)) (F:List Cell) (rs:List (Cell×ae)) (j:Nat):Prop where
 h: ∀z,z∈M.map Prod.fst↔z∈F∨z∈(rs.take j).map Prod.fst
theorem Ml {m:List (Cell×Nat)} {ck:Nat} {z:Cell} (h:z∉m.map Prod.fst):fU m ck z=m++ [(z,ck)]∧eQ m ck z=ck+1:=by
 unfold fU eQ;cases hq:lB z m 0 with
 | none=>exact ⟨rfl,rfl⟩
 | some p=>obtain ⟨j,e⟩:=p;obtain ⟨_,hj,he⟩:=jD z m 0 j e hq;exact absurd (aaS.2 ⟨e,ab3 hj,he⟩) h
theorem Eo (k:Kp) (hk:k.ok) (hne:bR k.cs≠ []) (hT:(bR k.cs).length<1000000):aq cfg 29 [uf k] []=some (.ag none 2 (dh (bR k.cs)), []):=by
 refine aa aah X8 ?_;obtain ⟨ku,kl,km,mn,mz⟩:=k;have hmz:=hk.mz;have hml:=hk.ml;have hme:=hk.me;have hmem:=fun z=>qS (l:=km.map Me.c) (z:=z);have hinc:=F8 (km.map Me.c);unfold Kp.cs at*
 unfold uf HH;simp only at hmz hml hme hne hT hmem hinc⊢;have hp:=cb km;have hE: ∀i (h:i<km.length),(km.map dT)[i]?=some (dT km[i]):=fun i h=>get_map _ _ h;have hEl:(km.map dT).length=km.length:=by simp
 obtain ⟨FF,hFF⟩: ∃FF:Nat->List Cell,FF=fun i=>(km.take i).flatMap fun m=>m.c.1.map Prod.fst:=⟨_,rfl⟩;have hF0:FF 0= []:=by rw [hFF];rfl
 have hFs: ∀i (h:i<km.length),FF (i+1)=FF i++km[i].c.1.map Prod.fst:=fun i h=>by
  rw [hFF];simp only;rw [adL h,List.flatMap_append];simp
 have hFn: ∀z,z∈FF km.length↔z∈bR (km.map Me.c):=fun z=>by
  rw [hmem,hFF];simp only [adn,acd,aaS];constructor
  ·rintro ⟨m,hm,h⟩;exact ⟨m.c,⟨m,hm,rfl⟩,h⟩
  ·rintro ⟨_,⟨m,hm,rfl⟩,h⟩;exact ⟨m,hm,h⟩
 have hFsub: ∀i,∀z∈FF i,z∈bR (km.map Me.c):=fun i z hz=>by
  rw [hmem];rw [hFF] at hz;simp only [acd] at hz;obtain ⟨m,hm,h⟩:=hz;exact ⟨m.c,aaS.2 ⟨m,adP hm,rfl⟩,h⟩
 clear hmem hFF;generalize bR (km.map Me.c)=CS at*
 have hlen: ∀{M:List (Cell×Nat)} {ck:Nat},vT M ck->(∀z∈M.map Prod.fst,z∈CS)->M.length<1000000:=fun {M ck} h1 h2=>by
  have h3:=mf (f:=id) (l:=M.map Prod.fst) (M:=CS) (by simpa using h1.keys) h2;rw [abp] at h3;omega
 generalize km.map dT=KM at*
 simp (maxSteps:=9^9) (disch:=omega) [-aaO,-aaP,-aaE,-getElem?_pos,-getElem?_neg,om,X9,ab,hEl,hp,gw]
 refine Wp.aP (fun (a:Nat×List (Cell×Nat)×Nat)=>km.length-a.1) (fun a=> [none,none,none,some (.bT 1),some (.ax 2 a.2.1.length),none,none,none,some (.ag mn mz KM),some (.int .i64 km.length),some (.int .i64 a.1),none,none,none,none,none,none,none,none,none,none,none])
  (fun a=> [.var 31 [.int .i64 ku,.str kl,.ag mn mz KM],.mp (a.2.1.map l9) a.2.2,.sl ⟨false,some 78,none⟩ 2 (dh (a.2.1.map Prod.fst))])
  (fun a=>a.1<=km.length∧vT a.2.1 a.2.2∧X7 a.2.1 (FF a.1) [] 0) ?_ (0, [],0) ⟨by omega,⟨ac9,ac9,fun e h=>by cases h⟩,⟨fun z=>by rw [hF0];simp⟩⟩ (by simp) (by simp [dh])
 rintro ⟨i,M,ck⟩ ⟨hil,hok,hMI⟩;simp only at hil hok hMI⊢;have hM: ∀z,z∈M.map Prod.fst↔z∈FF i:=fun z=>by rw [hMI.h];simp
 clear hMI;by_cases h1:i<km.length
 ·have hg:=hE i h1;obtain rfl:=hmz (ne_of_lt h1);have hfs:=hFs i h1;have hsub:=hFsub (i+1);have hmo:=hme _ (aa8 h1);clear hE hFs hFn hFsub hF0 hme hne;generalize km[i]=m at*
  have hrz:=hmo.rz;have hrl:=hmo.rl;have pm:=l8 m;unfold dT at hg pm;have hRE: ∀j (h:j<m.c.1.length),(aN m.c.1)[j]?=some (.agg [.int .i64 m.c.1[j].1.1,.int .i64 m.c.1[j].1.2,.str m.c.1[j].2]):=fun j h=>get_map _ _ h;have hRl:(aN m.c.1).length=m.c.1.length:=by simp [aN]
  have pr:=aO m.c.1;generalize aN m.c.1=RD at*
  generalize m.c.2.nodes.map dO=ND at*
  have hM1: ∀z∈M.map Prod.fst,z∈CS:=fun z hz=>hsub z (by rw [hfs];exact List.mem_append_left _ ((hM z).1 hz));have hL0:=hlen hok hM1;have hcl:(dh (M.map Prod.fst)).length=M.length:=by simp [dh]
  simp (maxSteps:=9^9) (disch:=omega) [-aaO,-aaP,-aaE,-getElem?_pos,-getElem?_neg,om,h1,hg,hEl,ab,hRl,pm,pr,tX,l6,hcl]
  refine Wp.aP (fun (a:Nat×List (Cell×Nat)×Nat)=>m.c.1.length-a.1) (fun a=> [none,none,none,some (.bT 1),some (.ax 2 a.2.1.length),none,none,none,some (.ag mn 4 KM),some (.int .i64 km.length),some (.int .i64 i),none,none,some (.ag m.rn m.rz RD),some (.int .i64 m.c.1.length),some (.int .i64 a.1),none,none,none,none,none,none])
   (fun a=> [.var 31 [.int .i64 ku,.str kl,.ag mn 4 KM],.mp (a.2.1.map l9) a.2.2,.sl ⟨false,some 78,none⟩ 2 (dh (a.2.1.map Prod.fst)),.var 60 [.ag m.rn m.rz RD,.int .i64 m.c.2.unit,.str m.c.2.num,.ag m.nn m.nz ND]])
   (fun a=>a.1<=m.c.1.length∧vT a.2.1 a.2.2∧X7 a.2.1 (FF i) m.c.1 a.1) ?_ (0,M,ck) ⟨by omega,hok,⟨fun z=>by rw [hM];simp⟩⟩ (by simp) (by simp)
  clear hM hok hM1 hL0 hcl;rintro ⟨j,M,ck⟩ ⟨hjl,hok,hMI⟩;simp only at hjl hok hMI⊢;have hM:=hMI.h;clear hMI
  have hM1: ∀z∈M.map Prod.fst,z∈CS:=fun z hz=>hsub z (by
   rw [hfs,abN];rcases (hM z).1 hz with h | h
   ·exact .inl h
   ·rw [List.map_take] at h;exact .inr (adP h))
  have hL0:=hlen hok hM1;have hcl:(dh (M.map Prod.fst)).length=M.length:=by simp [dh]
  have pcl:=eA (M.map Prod.fst);by_cases h2:j<m.c.1.length
  ·have hr:=hRE j h2;have hrz3:=hrz (ne_of_lt h2)
   have htk:(m.c.1.take (j+1)).map Prod.fst=(m.c.1.take j).map Prod.fst++ [m.c.1[j].1]:=by rw [adL h2,aaL];rfl
   clear hRE hsub hfs;generalize m.c.1[j]=r at*
   obtain ⟨z,t⟩:=r;simp only at hr htk;have lk: ∀B0 l,bU cfg (cfg.ti 101) (.bT 1) (.agg [.int .i64 z.1,.int .i64 z.2]) false (B0:: .mp (M.map l9) ck::l)=some (.bool (decide (z∈M.map Prod.fst)),.none):=fun B0 l=>S5 rfl z;have up: ∀B0 l,ay cfg (cfg.ti 101) (.bT 1) (.agg [.int .i64 z.1,.int .i64 z.2]) (.bool true) (B0:: .mp (M.map l9) ck::l)=some (.aL [],.gQ 1 (.mp ((fU M ck z).map l9) (eQ M ck z))):=fun B0 l=>MQ rfl z;have hput:=(il hok z).1;have hput2:=(il hok z).2;simp only [Ln] at lk up;by_cases hin:z∈M.map Prod.fst
   ·rw [decide_eq_true hin] at lk
    have hnew:X7 M (FF i) m.c.1 (j+1):=⟨fun y=>by
     rw [htk,abN,hM y];constructor
     ·rintro (h | h)
      ·exact .inl h
      ·exact .inr (.inl h)
     ·rintro (h | h | h)
      ·exact .inl h
      ·exact .inr h
      ·simp only [adl] at h;subst h;exact (hM _).1 hin⟩
    clear hput hput2 up hM hM1 hin;simp (maxSteps:=9^9) (disch:=omega) [-aaO,-aaP,-aaE,-getElem?_pos,-getElem?_neg,om,h2,hr,hrz3,hEl,ab,hRl,lk,tX,l6,hcl,pcl,pm,pr];exact ⟨j+1,M,ck,⟨by omega,hok,hnew⟩,by omega,by simp⟩
   ·rw [decide_eq_false hin] at lk;obtain ⟨e1,e2⟩:=Ml (ck:=ck) hin;rw [e1,e2] at up hput;rw [e1] at hput2
    have hnew:X7 (M++ [(z,ck)]) (FF i) m.c.1 (j+1):=⟨fun y=>by
     rw [hput2,htk,abN,hM y,adl,or_assoc]⟩
    have hcs:dh ((M++ [(z,ck)]).map Prod.fst)=dh (M.map Prod.fst)++ [.agg [.int .i64 z.1,.int .i64 z.2]]:=by simp [dh,nF]
    have hlm:(M++ [(z,ck)]).length=M.length+1:=by simp
    generalize M++ [(z,ck)]=M' at*
    clear hput2 hM hM1 hin e1 e2;simp (maxSteps:=9^9) (disch:=omega) [-aaO,-aaP,-aaE,-getElem?_pos,-getElem?_neg,om,h2,hr,hrz3,hEl,ab,hRl,lk,up,tX,l6,hcl,pcl,pm,pr];exact ⟨j+1,M',ck+1,⟨by omega,hput,hnew⟩,by omega,by simp [hlm],by simp [hcs]⟩
  ·obtain rfl:j=m.c.1.length:=by omega
   rw [adn] at hM;have hnew:X7 M (FF (i+1)) [] 0:=⟨fun z=>by rw [hM,hfs,abN];simp⟩;clear hM hM1 hRE hsub hfs;simp (maxSteps:=9^9) (disch:=omega) [-aaO,-aaP,-aaE,-getElem?_pos,-getElem?_neg,om,hRl,hEl,ab,tX,l6,hcl,pcl,pm,pr];exact ⟨i+1,M,ck,⟨by omega,hok,hnew⟩,by omega,by simp⟩
 ·obtain rfl:i=km.length:=by omega
  have hMS: ∀z,z∈M.map Prod.fst↔z∈CS:=fun z=>by rw [hM,hFn]
  have hL0:=hlen hok (fun z hz=>(hMS z).1 hz);have hsk:=Mk hok.keys hinc hMS;have hcl:(dh (M.map Prod.fst)).length=M.length:=by simp [dh]
  have pcl:=eA CS;have hcf:x4 (dh (M.map Prod.fst))=some (M.map Prod.fst):=zZ _
  have hMne:M.map Prod.fst≠ []:=fun h=>hne (by
   cases hc:CS with
   | nil=>rfl
   | cons z r=>
    have:=(hMS z).2 (by rw [hc];simp);rw [h] at this;cases this)
  have hkeys:=hok.keys;have hce:CS.map OC=dh CS:=rfl;have hml2:(M.map Prod.fst).length=M.length:=by simp
  have hlc:(dh CS).length=M.length:=by rw [<-hsk];unfold dh x5;simp
  clear hM hMS hFn hFs hFsub hF0 hE hok hinc hlen;generalize dh (M.map Prod.fst)=CM at*
  generalize M.map Prod.fst=MF at*
  simp (maxSteps:=9^9) (disch:=omega) [-aaO,-aaP,-aaE,-getElem?_pos,-getElem?_neg,om,hEl,ab,hcl,tX,l6,Bt,hcf,hMne,hkeys,hsk,hce,hml2,hlc,pcl,hp]
set_option maxRecDepth 100000
def kV:Ct:=⟨[[101,110], [100,101]], [⟨1, [100,101], [73,110,104,97,108,116],0⟩,⟨1, [101,110], [67,111,110,116,101,110,116,115],0⟩],
 [⟨7,0,1, [65], [84,111,119,110], [⟨1, [100,101], [65,108,108,101,115]⟩,⟨1, [101,110], [83,101,101,32,91,57,93]⟩],none,3⟩,⟨9,7,3, [], [71,97,116,101], [⟨2, [100,101], [120]⟩],none,3⟩],none,1,none,4,none,6⟩
theorem Mn:kV.ok:=⟨by simp [kV],by simp [kV],by simp [kV],by simp [kV],by simp [kV],by simp [kV],fun s hs=>by
 simp only [kV,List.mem_cons,List.not_mem_nil,or_false] at hs;rcases hs with rfl | rfl <;> exact ⟨by simp,by simp⟩⟩
def z8:List Mm:=aG Lib.itoa esc HA 7 [101,110] []
def Jw:List Mm:=aG Lib.itoa esc zX 7 [101,110] z8
def Jl:List Mm:=aG Lib.itoa esc kV 7 [101,110] Jw
def Ya (m:Mm):Bool:=decide (m.1.length<1000000)&&decide (m.2.nodes.length<1000000)&&m.1.all fun r=>decide (r.2.length<=1000)&&(splitB 10 r.2.dropLast).all fun p=>decide (p.length<=1000)
theorem Aa {l:List Mm} (h:l.all Ya=true): ∀m∈l,MB m:=fun m hm=>by
 have h:=abH.1 h m hm;unfold Ya at h;simp only [Bool.and_eq_true,decide_eq_true_eq,abH] at h;obtain ⟨⟨h1,h2⟩,h3⟩:=h;refine ⟨h1,h2,fun r hr=> ?_⟩;obtain ⟨h4,h5⟩:=h3 r hr;exact ⟨fun _=>by omega,fun _=>⟨by omega,fun p hp=>by have:=h5 p hp;omega⟩,fun _=>h4⟩
theorem Mo:z8.all Ya=true:=by decide+kernel
theorem Mp:Jw.all Ya=true:=by decide+kernel
theorem Mq:Jl.all Ya=true:=by decide+kernel
theorem S6:z8.length=2∧Jw.length=2∧Jl.length=2:=by decide+kernel
theorem Mr:fF unesc z8=0∧fF unesc Jw=0∧fF unesc Jl=0:=by decide+kernel
theorem OZ:aH HA 7 [101,110]=0∧aH zX 7 [101,110]=0∧aH kV 7 [101,110]=0:=by decide+kernel
theorem O0:fC Lib.itoa esc zX 7 [101,110] z8= [7,9]∧fC Lib.itoa esc kV 7 [101,110] Jw= [9]:=by decide+kernel
theorem O1:oH z8 [(4,9)]= [7]:=by decide+kernel
theorem ye:(bR z8).length=6:=by decide+kernel
theorem BE {u:Int} {l:ae} {M:List Mm} (hm: ∀m∈M,MB m): ∀m∈(gY u l M).cO,m.SU:=fun m h=>by
 simp only [gY,aaS] at h;obtain ⟨x,hx,rfl⟩:=h;exact ⟨⟨fun _=>rfl,fun _=>rfl,(hm x hx).rl,(hm x hx).nl⟩,fun _=>rfl,(hm x hx).bd⟩
theorem Ms (V1:List AV) (hV:ai V1=true):aq cfg 34 [] [.var 31 [.int .i64 7,.str [101,110],.ag none 4 V1],.var 26 [.ax 5 2,.ax 6 2,.ax 8 2],.sl ⟨false,some 9,none⟩ 1 [],.sl ⟨false,some 80,none⟩ 4 [],.sl ⟨false,some 74,none⟩ 6 [],.sl ⟨true,some 9,none⟩ 1 [.str [101,110],.str [100,101]],.sl ⟨true,some 80,none⟩ 4 Jv,.sl ⟨true,some 76,none⟩ 3 Jc,.sl ⟨true,some 74,none⟩ 6 OJ,.dead]=some (.agg [.ax 14 2,.ax 15 2,.ax 17 2], [.var 31 [.int .i64 7,.str [101,110],.ag none 4 V1],.var 26 [.ax 5 2,.ax 6 2,.ax 8 2],.sl ⟨false,some 9,none⟩ 1 [],.sl ⟨false,some 80,none⟩ 4 [],.sl ⟨false,some 74,none⟩ 6 [],.sl ⟨true,some 9,none⟩ 1 [.str [101,110],.str [100,101]],.sl ⟨true,some 80,none⟩ 4 Jv,.sl ⟨true,some 76,none⟩ 3 Jc,.sl ⟨true,some 74,none⟩ 6 OJ,.dead,.var 26 [.ax 14 2,.ax 15 2,.ax 17 2],.sl ⟨false,some 9,none⟩ 1 [],.sl ⟨false,some 80,none⟩ 4 [],.sl ⟨false,some 74,none⟩ 6 [],.sl ⟨false,some 9,none⟩ 1 [.str [101,110],.str [100,101]],.sl ⟨false,some 80,none⟩ 4 Jv,.sl ⟨true,some 76,none⟩ 3 Jc,.sl ⟨false,some 74,none⟩ 6 OJ]):=by refine aa SG LN ?_;simp (maxSteps:=9^9) (disch:=omega) [-aaO,-aaP,-aaE,-getElem?_pos,-getElem?_neg,om,OK,ab,Jv,Jc,OJ,hV]
def twG:List AV:= [.agg [.int .i64 7,.int .i64 0,.int .i64 1,.str [65],.str [84,111,119,110],.ag none 3 Jc],.agg [.int .i64 9,.int .i64 7,.int .i64 3,.str [],.str [71,97,116,101],.ag (some true) 0 []]]
theorem GX (B0 B1 B2 B3 B4 B5 B6 B7 B8 B9 B10 B11 B12 B13 B16:ad) (l:List ad):dv (.aL [.agg [.int .i64 7,.str [101,110],.ag none 4 (Jw.map gX)],.ag none 1 [.int .i64 7,.int .i64 9],.int .i64 0]) (B0::B1::B2::B3::B4::B5::B6::B7::B8::B9::B10::B11::B12::B13:: .sl ⟨false,some 9,none⟩ 1 [.str [101,110],.str [100,101]]:: .sl ⟨false,some 80,none⟩ 4 Jv::B16:: .sl ⟨false,some 74,none⟩ 6 twG::l) [.ax 14 2,.ax 15 2,.ax 17 2]=true:=by kernel_rfl
def twX:List AV:= [.agg [.int .i64 7,.int .i64 0,.int .i64 1,.str [65],.str [84,111,119,110],.ag none 3 Jc],.agg [.int .i64 9,.int .i64 7,.int .i64 3,.str [],.str [71,97,116,101],.ag none 3 [.agg [.int .i64 2,.str [100,101],.str [120]]]]]
theorem My (B0 B1 B2 B3 B4 B5 B6 B7 B8 B9 B10 B11 B12 B13 B16:ad) (l:List ad):dv (.aL [.agg [.int .i64 7,.str [101,110],.ag none 4 (Jl.map gX)],.ag none 1 [.int .i64 9],.int .i64 0]) (B0::B1::B2::B3::B4::B5::B6::B7::B8::B9::B10::B11::B12::B13:: .sl ⟨false,some 9,none⟩ 1 [.str [101,110],.str [100,101]]:: .sl ⟨false,some 80,none⟩ 4 Jv::B16:: .sl ⟨false,some 74,some (1,5,19,1)⟩ 6 twX::l) [.ax 14 2,.ax 15 2,.ax 17 2]=false:=by kernel_rfl
theorem HC:aq cfg 9 [] []=some (.bool true, []):=by
 refine aa fn9 aat ?_;have hT0:=LM;have hT1:=LO;obtain ⟨l1,l2,l3⟩:=S6;obtain ⟨ch1,ch2,ch3⟩:=Mr;obtain ⟨co1,co2,co3⟩:=OZ;obtain ⟨an1,an2⟩:=O0;have k1:(gY 7 [101,110] z8).ok:=dX (by rw [l1];decide) (Aa Mo);have k2:(gY 7 [101,110] Jw).ok:=dX (by rw [l2];decide) (Aa Mp);have k3:(gY 7 [101,110] Jl).ok:=dX (by rw [l3];decide) (Aa Mq);have i1:=BE (u:=7) (l:= [101,110]) (Aa Mo);have i2:=BE (u:=7) (l:= [101,110]) (Aa Mp);have i3:=BE (u:=7) (l:= [101,110]) (Aa Mq);have h1:=sN HA (HB _) 7 [101,110] co1;have h2:=pD zX (HB _) (gY 7 [101,110] z8) k1 i1 (by rw [dN];exact ch1) co2;have h3:=pD kV Mn (gY 7 [101,110] Jw) k2 i2 (by rw [dN];exact ch2) co3;have h4:=L8 (gY 7 [101,110] Jl) k3;have h5:=sO (gY 7 [101,110] Jl) k3.mz k3.ml i3;have h6:=HE (gY 7 [101,110] z8) k1 none 2 [(4,9)] (fun _=>rfl) (by simp);have h7:=Eo (gY 7 [101,110] z8) k1 (by rw [dN];intro h;have:=ye;rw [h] at this;cases this) (by rw [dN,ye];decide);rw [dN] at h2 h3 h4 h5 h6 h7;have e1:=Bz none none 1 1 [7,9] [7,9] (fun _=>rfl) (fun _=>rfl) (by simp) (by simp);have e2:=Bz none none 1 1 [9] [9] (fun _=>rfl) (fun _=>rfl) (by simp) (by simp);have e3:=Bz none none 1 1 [7] [7] (fun _=>rfl) (fun _=>rfl) (by simp) (by simp);change aq cfg 11 _ []=some (.aL [yf 7 [101,110] z8,_], []) at h1;change aq cfg 16 _ []=some (.aL [yf 7 [101,110] Jw,.ag none 1 (cI (fC Lib.itoa esc zX 7 [101,110] z8)),_], []) at h2;change aq cfg 16 _ []=some (.aL [yf 7 [101,110] Jl,.ag none 1 (cI (fC Lib.itoa esc kV 7 [101,110] Jw)),_], []) at h3;rw [an1] at h2;rw [an2] at h3;rw [ch3] at h5;rw [O1] at h6;rw [<-uc] at h2 h3 h4 h5 h6 h7;have hA:((Jl.map Prod.snd).map du).length=2:=by rw [abp,abp];exact l3
 have hC:(dh (bR z8)).length=6:=by unfold dh;rw [abp];exact ye
 have p1:=cG z8;have p2:=cG Jw;have p3:=cG Jl;have p4:ai ((Jl.map Prod.snd).map du)=true:=cQ (fun x=>by simp [du,AV.plain,aK]) _;have p5:=eA (bR z8);have GX:=GX;have My:=My;have hT2:=Ms (z8.map gX) p1;have m1:(z8.map gX).length=2:=by rw [abp];exact l1
 simp only [b8,eV,HA,zX,oM,kV,dh,nF,wb,cI,aA,fD,cj,eW,aaM,aaN,decide_true] at h1 h2 h3 h4 h5 h6 h7 e1 e2 e3 hC p5;simp only [gY] at h4;unfold yf at h1 h2 h3 h4 h5 h6 h7;simp only [Jv,Jc,OJ] at hT0 hT1 hT2;simp only [Jv,Jc,twG,twX] at GX My;generalize (bR z8).map _=CC at*
 generalize (Jl.map Prod.snd).map _=AA at*
 generalize z8.map gX=V1 at*
 generalize Jw.map gX=V2 at*
 generalize Jl.map gX=V3 at*
 clear l1 l2 l3 ch1 ch2 ch3 co1 co2 co3 an1 an2 k1 k2 k3 i1 i2 i3;simp (maxSteps:=9^9) (disch:=omega) [-aaO,-aaP,-aaE,-getElem?_pos,-getElem?_neg,om,ir9,-dv,GX,My,ab,hT0,hT1,hT2,h1,h2,h3,h4,h5,h6,h7,e1,e2,e3,hA,hC,p1,p2,p3,p4,p5,m1]
end Go.Proofs.YtfgbpngakkhdcaaGreatDoor
