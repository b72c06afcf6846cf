/- The law UpdateScratch. -/
import Derived.Test.YtfgbpngakkhdcaaGreatDoorUpM
open List renaming getD_eq_getElem?_getD->aaE,getElem_mem->aa8,length_pos_iff->aaK,map_replicate->aaO,map_set->aaP
set_option linter.all false
namespace Go.Proofs.YtfgbpngakkhdcaaGreatDoor
open Go.Am Go.ChangeShapes Go.WideShapes Go.RowKit
set_option maxRecDepth 10000
set_option maxHeartbeats 8000000
def Xq:ca:=by refine (?f:_->_) (by conv=>lhs;cbv:al cfgS Tryz.f23=some ?x);exact fun _=>?x
theorem Xr:al cfg Tryz.f23=some Xq:=by kernel_rfl
def Xs:ca:=(.mk [0,1,2,6,8,9,10,12,13,15,16,17,18,19,32,33,34,35,36,38,40,41,47,50,54,59,60,61,62,64,67,69,70,76,79,84,86,89,90,92,96,97,99] (.seq (.rp 3 (.cst (.bool false))) (.seq (.seq (.bW 0 [] [.f 0 12 (.cl 9 #[] #[]) [],.par [(13,.un .not (.v 12))]]) (.cond 13 (.seq (.rp 3 (.cst (.bool false))) .ret) .skip)) (.seq (.seq (.rp 14 (.or (.or (.bin .eql 3 (.len 46 (.v 0)) (.ci 0)) (.bin .gtr 3 (.len 46 (.v 0)) (.ci 5))) (.bin .gtr 3 (.lenS (.v 2)) (.ci 10)))) (.cond 14 (.seq (.rp 3 (.cst (.bool true))) .ret) .skip)) (.seq (.seq (.bW 0 [] [.par [(15,.v 0),(16,.len 46 (.v 0)),(17,.ci 0)]]) (.block 0 (.loop [3,4,5,6,7,8,9,10,11,12,13,14,18,19,20,21,22,23,24,25,26,27,28,29,30,31,32,33,34,35,36,37,38,39,42] (.seq (.rp 18 (.bin .lss 3 (.v 17) (.v 16))) (.seq (.cond 18 .skip (.exit 0)) (.seq (.block 1 (.seq (.bW 1 [] [.par [(19,.load 26 (.iaddr 46 (.v 15) (.v 17)))],.f 0 4 (.alloc 26) [],.dm none 1 none none (.store 26 (.t 8) (.t 38)) [(8,.v 4),(38,.v 19)]]) (.seq (.bW 0 [] [.f 0 20 (.cl 10 #[.t 39] #[26]) [(39,.load 26 (.v 4))],.par [(21,.un .not (.v 20))]]) (.cond 21 (.seq (.rp 3 (.cst (.bool true))) .ret) .skip)))) (.rp 17 (.bin .add 3 (.v 17) (.ci 1))))))))) (.seq (.bW 1 [] [.f 0 22 (.cl 12 #[.t 46] #[26]) [(46,.load 26 (.iaddr 46 (.v 0) (.ci 0)))],.f 0 23 (.cl 11 #[.t 47,.t 48,.t 49] #[26,3,9]) [(47,.v 22),(48,.v 1),(49,.v 2)],.f 0 5 (.alloc 31) [],.dm none 1 none none (.store 31 (.t 9) (.t 51)) [(9,.v 5),(51,.extract (.v 23) 0)],.par [(6,.extract (.v 23) 1)]]) (.seq (.seq (.rp 24 (.bin .neq 32 (.v 6) (.ci 0))) (.cond 24 (.seq (.rp 3 (.bin .eql 3 (.len 29 (.lf 29 31 5 2)) (.ci 0))) .ret) .skip)) (.seq (.seq (.bW 0 [] [.par [(25,.v 0),(26,.len 46 (.v 0)),(27,.ci 0)]]) (.block 2 (.loop [0,3,4,6,7,8,9,10,11,12,13,14,15,16,17,18,19,20,21,22,23,24,28,29,30,31,32,33,34,35,36,37,38,39,42] (.seq (.rp 28 (.bin .lss 3 (.v 27) (.v 26))) (.seq (.cond 28 .skip (.exit 2)) (.seq (.block 3 (.seq (.bW 1 [] [.par [(29,.load 26 (.iaddr 46 (.v 25) (.v 27)))],.f 0 7 (.alloc 26) [],.dm none 1 none none (.store 26 (.t 12) (.t 64)) [(12,.v 7),(64,.v 29)]]) (.seq (.seq (.own [.mk 30 none 0 0,.mk 31 none 0 0]) (.bW 1 [0] [.dm (some [0,0]) 0 (some 30) none (.cl 17 #[.t 66] #[31]) [(66,.load 31 (.v 5))],.dm (some [0,0]) 0 (some 31) none (.cl 12 #[.t 68] #[26]) [(68,.load 26 (.v 7))],.dm (some [0,0]) 0 (some 32) none (.cl 16 #[.t 67,.t 69] #[31,26]) [(67,.v 30),(69,.v 31)],.dm (some [0,0]) 0 (some 8) none (.alloc 31) [],.dm none 1 none none (.store 31 (.t 13) (.t 71)) [(13,.v 8),(71,.extract (.v 32) 0)],.par [(43,.extract (.v 32) 1)],.par [(9,.extract (.v 32) 2)]])) (.seq (.bW 1 [] [.f 0 33 (.cl 12 #[.t 75] #[26]) [(75,.load 26 (.v 7))],.f 0 34 (.cl 22 #[.t 76,.t 77,.t 78] #[26,3,9]) [(76,.v 33),(77,.v 1),(78,.v 2)],.f 0 10 (.alloc 49) [],.dm none 1 none none (.store 49 (.t 16) (.t 80)) [(16,.v 10),(80,.extract (.v 34) 0)],.par [(11,.extract (.v 34) 1)]]) (.seq (.seq (.rp 35 (.bin .neq 32 (.v 9) (.v 11))) (.cond 35 (.seq (.rp 3 (.cst (.bool false))) .ret) .skip)) (.seq (.seq (.rp 36 (.bin .neq 32 (.v 9) (.ci 0))) (.cond 36 (.exit 3) .skip)) (.seq (.bW 0 [] [.dm none 0 none none (.store 31 (.t 9) (.t 87)) [(9,.v 5),(87,.load 31 (.v 8))]]) (.seq (.bW 0 [] [.dm (some [0]) 0 (some 37) none (.cl 17 #[.t 88] #[31]) [(88,.load 31 (.v 5))],.dm (some [0]) 0 (some 38) none (.cl 24 #[.t 89] #[31]) [(89,.v 37)],.f 0 39 (.cl 23 #[.t 90,.t 91] #[49,49]) [(90,.v 38),(91,.load 49 (.v 10))],.dm none 0 (some 40) (some (.un .not (.v 39),false)) (.cl 17 #[.t 95] #[31]) [(95,.load 31 (.v 5))],.dm none 0 (some 41) (some (.un .not (.v 39),false)) (.cl 19 #[.t 96] #[31]) [(96,.v 40)],.par [(42,.or (.un .not (.v 39)) (.bin .neq 32 (.v 41) (.ci 0)))]]) (.cond 42 (.seq (.rp 3 (.cst (.bool false))) .ret) .skip))))))))) (.rp 27 (.bin .add 3 (.v 27) (.ci 1))))))))) (.seq (.rp 3 (.cst (.bool true))) .ret)))))))) [.v 3])
theorem ZL:al cfg Tryz.f5=some Xs:=by kernel_rfl
theorem SQ {m:Nat} {cs:List AV} (h1:nD Tryz.prog m 26 cs): ∃c:Ct,c.yC∧aQ (ka (Tryz.prog.underlying 26)) cs=b8 c:=by
 have hfs:Tryz.prog.underlying 26=some (.struct (bL Tryz.prog 26)):=by kernel_rfl
 have hft:(bL Tryz.prog 26).toList.map (·.type)= [22,23,24]:=by kernel_rfl
 obtain ⟨m,hs⟩:=h1.struct hfs;rw [hft] at hs;obtain ⟨a,r1,rfl,ha,b,r2,rfl,hb,c,r3,rfl,hc,rfl⟩:=hs;obtain ⟨n1,z1,l1,rfl,p1,q1,s1,_⟩:=ha.iC (e:=9) AV.str (fun _=>True) (by kernel_rfl) 1 (by kernel_rfl) (by decide) (fun m cs h=>vS h);obtain ⟨n2,z2,l2,rfl,p2,q2,s2,_⟩:=hb.iC (e:=80) fD (fun _=>True) (by kernel_rfl) 4 (by kernel_rfl) (by decide) (fun m cs h=>yD h);obtain ⟨n3,z3,l3,rfl,p3,q3,s3,t3⟩:=hc.iC (e:=74) cj Sh.yC (by kernel_rfl) 6 (by kernel_rfl) (by decide) (fun m cs h=>yE h);exact ⟨⟨l1,l2,l3,some n1,z1,some n2,z2,some n3,z3⟩,⟨fun hl=>p1 0 (aaK.2 hl),fun hl=>p2 0 (aaK.2 hl),fun hl=>p3 0 (aaK.2 hl),s1,s2,s3,t3⟩,by rw [hfs];rfl⟩
theorem L7 {ts:List TypeId} {xs:List AV} (h:eP Tryz.prog (46::ts) xs): ∃(nl:Bool) (z:Nat) (l:List Ct) (r:List AV),xs= .ag (some nl) z (l.map b8)::r∧(l≠ []->z=3)∧l.length<=maxLen∧(∀c∈l,c.yC)∧eP Tryz.prog ts r:=by obtain ⟨n,cs,r,rfl,h1,h2⟩:=h;obtain ⟨n1,z1,l1,rfl,p1,q1,s1,t1⟩:=h1.iC (e:=26) b8 Ct.yC (by kernel_rfl) 3 (by kernel_rfl) (by decide) (fun m cs h=>SQ h);exact ⟨n1,z1,l1,r,by rw [show Tryz.prog.underlying 46=some (.slice 26) by kernel_rfl];rfl,fun hl=>p1 0 (aaK.2 hl),s1,t1,h2⟩
theorem Gp (u:Int) (lang:ae) (S:List mm) (hl:S.length<1000000) (hn: ∀s∈S,s.nodes.length<1000000):aq cfg 23 [wb u lang S,wb u lang S] []=some (.bool true, []):=by
 refine aa ZM Xr ?_;have hE: ∀i (h:i<S.length),(S.map du)[i]?=some (du S[i]):=fun i h=>get_map _ _ h;have hEl:(S.map du).length=S.length:=by simp
 have pS:ai (S.map du)=true:=cQ (fun x=>by simp [du,AV.plain,aK]) _
 have w: ∀s∈S,aq cfg 39 [.agg [.int .i64 s.unit,.str s.num,.ag none 3 (s.nodes.map dO)],.agg [.int .i64 s.unit,.str s.num,.ag none 3 (s.nodes.map dO)]] []=some (.bool true, []):=fun s hs=>by
  have:=x6 s s none none 3 3 (fun _=>rfl) (fun _=>rfl) (hn s hs) (hn s hs)
  rwa [decide_eq_true rfl] at this
 unfold wb;generalize S.map _=E at*
 simp (maxSteps:=9^9) (disch:=omega) [-aaO,-aaP,-aaE,-getElem?_pos,-getElem?_neg,om,Xq,ab,hEl,pS];refine Wp.aP (fun (i:Nat)=>S.length-i) (fun i=> [none,none,some (.ptr 0 0),some (.ptr 1 0),none,some (.int .i64 i),none,none,none,none]) (fun _=> [.var 49 [.int .i64 u,.str lang,.ag none 3 E],.var 49 [.int .i64 u,.str lang,.ag none 3 E]]) (fun i=>i<=S.length) ?_ 0 (by omega) (by simp) rfl;rintro i hil;by_cases h1:i<S.length
 ·have hg:=hE i h1;have w1:=w _ (aa8 h1);clear hE w;generalize S[i]=s at*
  unfold du at hg;have pn:=aK s.nodes;generalize s.nodes.map dO=NN at*
  simp (maxSteps:=9^9) (disch:=omega) [-aaO,-aaP,-aaE,-getElem?_pos,-getElem?_neg,om,h1,hg,hEl,ab,w1,pn,pS];exact ⟨i+1,by omega,by omega,by simp⟩
 ·simp (maxSteps:=9^9) (disch:=omega) [-aaO,-aaP,-aaE,-getElem?_pos,-getElem?_neg,om,h1,hEl,ab,pS]
theorem OO {l:List Mm} (h: ∀m∈l,MB m) {c:Ct} {root:Int} {lang:ae} (he:l.map Prod.snd=eh Lib.itoa c root lang): ∀s∈eh Lib.itoa c root lang,s.nodes.length<1000000:=fun s hs=>by
 rw [<-he] at hs;obtain ⟨m,hm,rfl⟩:=List.mem_map.1 hs;exact (h m hm).nl
structure Um (root:Int) (lang:ae) (K:List Mm):Prop where
 OP: ∀m∈K,Good Lib.itoa esc root lang m
 nod:(dL K).Nodup
 mb: ∀m∈K,MB m
 len:K.length<1000000
theorem Um.next {c:Ct} (hc:c.ok) (hf:fv c=true) {root:Int} {lang:ae} (h:aH (bJ c) root lang=0) {K:List Mm} (hg: ∀m∈K,Good Lib.itoa esc root lang m) (hb: ∀m∈K,MB m):Um root lang (aG Lib.itoa esc (bJ c) root lang K):=by obtain ⟨h1,h2⟩:=l7 hc hf h hb;exact ⟨(qQ (unesc:=unesc) dS na h hg).1,by rw [iU];exact pz (pv h) root lang,h1,h2⟩
theorem Ep (nl:Bool) (z:Nat) (l:List Ct) (hz:l≠ []->z=3) (hl:l.length<=maxLen) (hi: ∀c∈l,c.yC) (unit:Int) (lang:ae) (hlang:lang.length<=maxLen):aq cfg 5 [.ag (some nl) z (l.map b8),.int .i64 unit,.str lang] []=some (.bool true, []):=by
 refine aa fn5 ZL ?_;have a:=HC;unfold maxLen at hlang hl;have hE: ∀i (h:i<l.length),(l.map b8)[i]?=some (b8 l[i]):=fun i h=>get_map _ _ (by omega);have hEl:(l.map b8).length=l.length:=by simp
 have pl:ai (l.map b8)=true:=cQ (fun c=>by simp [b8,eV,AV.plain,ai]) _;have wf: ∀c∈l,aq cfg 10 [b8 c] []=some (.bool (fv c), []):=fun c hc=>pC c (hi c hc);generalize hLL:l.map b8=LL at*
 by_cases hq:0<l.length∧l.length<=5∧lang.length<=10
 case neg=>
  clear hE wf;by_cases q1:0<l.length
  ·by_cases q2:l.length<=5
   ·have q3: ¬ lang.length<=10:=fun h=>hq ⟨q1,q2,h⟩;simp (maxSteps:=9^9) (disch:=omega) [-aaO,-aaP,-aaE,-getElem?_pos,-getElem?_neg,om,Xs,a,hEl,pl,q1,q2,q3]
   ·simp (maxSteps:=9^9) (disch:=omega) [-aaO,-aaP,-aaE,-getElem?_pos,-getElem?_neg,om,Xs,a,hEl,pl,q1,q2]
  ·simp (maxSteps:=9^9) (disch:=omega) [-aaO,-aaP,-aaE,-getElem?_pos,-getElem?_neg,om,Xs,a,hEl,pl,q1]
 obtain ⟨q1,q2,q3⟩:=hq;obtain rfl:=hz (ne_of_lt q1);simp (maxSteps:=9^9) (disch:=omega) [-aaO,-aaP,-aaE,-getElem?_pos,-getElem?_neg,om,Xs,a,hEl,pl,q1,q2,q3];refine Wp.aP (fun (i:Nat)=>l.length-i) (fun i=> [some (.ag (some nl) 3 LL),some (.int .i64 unit),some (.str lang),none,none,none,none,none,none,none,none,none,none,none,none,some (.ag (some nl) 3 LL),some (.int .i64 l.length),some (.int .i64 i),none,none,none,none,none,none,none,none,none,none,none,none,none,none,none,none,none,none,none,none,none,none,none,none,none]) (fun _=> []) (fun i=>i<=l.length∧ ∀j (h:j<l.length),j<i->fv l[j]=true) ?_ 0 ⟨by omega,fun j _ h=>absurd h (by omega)⟩ (by simp) (by simp);rintro i ⟨hil,hfew⟩;by_cases h1:i<l.length
 ·have hg:=hE i h1;have w1:=wf _ (aa8 h1);have hfs:=hfew;have hpc: ∀c:Ct,(b8 c).plain=true:=fun c=>by simp [b8,eV,AV.plain,ai]
  have hp1:=hpc l[i];cases hf:fv l[i] with
  | false=>
   rw [hf] at w1;clear hE wf hfew hfs hpc hLL;unfold b8 eV at hg w1 hp1;generalize aA l[i].af=L1 at*
   generalize l[i].aD.map fD=L2 at*
   generalize l[i].ao.map cj=L3 at*
   simp (maxSteps:=9^9) (disch:=omega) [-aaO,-aaP,-aaE,-getElem?_pos,-getElem?_neg,om,h1,hg,hEl,pl,w1,hp1,ab]
  | true=>
   rw [hf] at w1
   have hnew: ∀j (h:j<l.length),j<i+1->fv l[j]=true:=fun j h hj=>by
    by_cases e:j=i
    ·subst e;exact hf
    ·exact hfew j h (by omega)
   clear hE wf hfew hfs hpc hLL hf;unfold b8 eV at hg w1 hp1;generalize aA l[i].af=L1 at*
   generalize l[i].aD.map fD=L2 at*
   generalize l[i].ao.map cj=L3 at*
   simp (maxSteps:=9^9) (disch:=omega) [-aaO,-aaP,-aaE,-getElem?_pos,-getElem?_neg,om,h1,hg,hEl,pl,w1,hp1,ab];exact ⟨i+1,⟨by omega,hnew⟩,by omega,by simp⟩
 obtain rfl:i=l.length:=by omega
 have hf: ∀c∈l,fv c=true:=fun c hc=>by
  obtain ⟨j,hj,rfl⟩:=List.getElem_of_mem hc;exact hfew j hj hj
 have hok: ∀c∈l,c.ok:=fun c hc=>ub (hi c hc) (hf c hc);clear hfew wf;have hm0:l[0]∈l:=aa8 q1;have hg0:=hE 0 q1;have c0:=j8 l[0] (hok _ hm0);have p0:(b8 (bJ l[0])).plain=true:=by simp [b8,eV,AV.plain,ai]
 have p1:(b8 l[0]).plain=true:=by simp [b8,eV,AV.plain,ai]
 by_cases hC:aH (bJ l[0]) unit lang=0
 case neg=>
  have w3:=vM (bJ l[0]) (dM (hok _ hm0)) unit lang hC;have hC2:(aH (bJ l[0]) unit lang !=0)=true:=by simpa using hC
  generalize aH (bJ l[0]) unit lang=e at*
  unfold Jg at w3;generalize hcd:bJ l[0]=cd at*
  clear hE hi hf hok hLL hm0 hcd;generalize l[0]=c at*
  obtain ⟨K1,K2,K3,y0⟩:=nb cd;obtain ⟨L1,L2,L3,y1⟩:=nb c;simp only [y0,y1] at*
  simp (maxSteps:=9^9) (disch:=omega) [-aaO,-aaP,-aaE,-getElem?_pos,-getElem?_neg,om,hEl,pl,q1,hg0,c0,w3,p0,p1,hC,hC2,ab]
 have w3:=sN (bJ l[0]) (dM (hok _ hm0)) unit lang hC;have hK0:=Um.next (hok _ hm0) (hf _ hm0) hC (K:= []) (fun m hm=>by cases hm) (fun m hm=>by cases hm);generalize aG Lib.itoa esc (bJ l[0]) unit lang []=M0 at*
 have pm0:=cG M0;generalize hcd:bJ l[0]=cd at*
 generalize hcl0:l[0]=c at*
 unfold yf at w3;obtain ⟨K1,K2,K3,y0⟩:=nb cd;obtain ⟨L1,L2,L3,y1⟩:=nb c;simp only [y0,y1] at hg0 c0 p0 p1 w3;simp (maxSteps:=9^9) (disch:=omega) [-aaO,-aaP,-aaE,-getElem?_pos,-getElem?_neg,om,hEl,pl,q1,hg0,c0,w3,p0,p1,pm0,ab];clear w3 c0 p0 p1 hg0 pm0 hC;refine Wp.aP (fun (x:Nat×List Mm×Option (List AV))=>l.length-x.1) (fun x=> [none,some (.int .i64 unit),some (.str lang),none,none,some (.ptr 0 0),none,none,none,none,none,none,none,none,none,none,none,none,none,none,none,none,none,none,none,some (.ag (some nl) 3 LL),some (.int .i64 l.length),some (.int .i64 x.1),none,none,none,none,none,none,none,none,none,none,none,none,x.2.2.map fun C=>AV.agg [.int .i64 unit,.str lang,.ag none 4 C],x.2.2.map fun _=>AV.int .i64 0,none]) (fun x=> [.var 31 [.int .i64 unit,.str lang,.ag none 4 (x.2.1.map gX)]]) (fun x=>x.1<=l.length∧Um unit lang x.2.1) ?_ (0,M0,none) ⟨by omega,hK0⟩ (by simp) (by simp);clear hK0;rintro ⟨i,K,o⟩ ⟨hil,hK⟩;simp only at hil hK⊢;have hch:=qR (unesc:=unesc) dS na hK.OP hK.nod;have pK:=cG K;by_cases h1:i<l.length
 ·have hg:=hE i h1;have hm:=aa8 h1;have hfc:=hf _ hm;have hoc:=hok _ hm;clear hE hf hok hi hcd hcl0 hLL hm0;generalize l[i]=d at*
  have c1:=j8 d hoc;have c2:=oO (gY unit lang K) (dX hK.len hK.mb);rw [<-uc] at c2;have w8:=mq (bJ d) (dM hoc) unit lang;have p1:(b8 (bJ d)).plain=true:=by simp [b8,eV,AV.plain,ai]
  have p2:(b8 d).plain=true:=by simp [b8,eV,AV.plain,ai]
  have pc:=cb (nC (gY unit lang K)).cO;by_cases hC:aH (bJ d) unit lang=0
  ·have w5:=pD (bJ d) (dM hoc) (nC (gY unit lang K)) (j9 (dX hK.len hK.mb)) (kT hK.len hK.mb) (by rw [fm,dN];exact hch) hC;rw [fm,dN] at w5;simp only [vd,ve] at w5;have hN:=Um.next hoc hfc hC hK.OP hK.mb;have hsn:=(qQ (unesc:=unesc) dS na hC hK.OP).2;have hch2:=qR (unesc:=unesc) dS na hN.OP hN.nod;rw [if_pos hC,hC] at w8;have hal:=vN (bJ d) unit lang;have hsl:=(dM hoc).sl;have hnn:=OO hN.mb hsn;generalize fC Lib.itoa esc (bJ d) unit lang K=AN at*
   generalize aG Lib.itoa esc (bJ d) unit lang K=N at*
   have c3:=oO (gY unit lang N) (dX hN.len hN.mb);rw [<-uc] at c3;have w6:=L8 (nC (gY unit lang N)) (j9 (dX hN.len hN.mb));rw [fm,dN,hsn] at w6;simp only [vd,ve] at w6;have w7:=Gp unit lang (eh Lib.itoa (bJ d) unit lang) (by omega) hnn;have w9:=sO (nC (gY unit lang N)) (fun _=>rfl) (j9 (dX hN.len hN.mb)).ml (kT hN.len hN.mb);rw [fm,dN,hch2] at w9;have pN:=cG N;have pcn:=cb (nC (gY unit lang N)).cO;have pS:ai ((eh Lib.itoa (bJ d) unit lang).map du)=true:=cQ (fun x=>by simp [du,AV.plain,aK]) _;have pa:=dB AN;simp only [SL] at c2 c3 w5 w6 w9;unfold yf at c2 c3 w5;unfold wb at w6 w7 w8;generalize (nC (gY unit lang K)).cO.map dT=CK at*
   generalize (nC (gY unit lang N)).cO.map dT=CN at*
   generalize (eh Lib.itoa (bJ d) unit lang).map _=AA at*
   generalize cI AN=IA at*
   clear hsn hnn hal hsl hch hch2 hK hC hfc hoc;obtain ⟨J1,J2,J3,y0⟩:=nb (bJ d);obtain ⟨M1,M2,M3,y1⟩:=nb d;simp only [y0,y1] at hg c1 w5 w8 p1 p2;have hex: ∃KK,KK=N.map gX∧Um unit lang N:=⟨_,rfl,hN⟩;clear hN;generalize hNV:N.map gX=NV at*
   generalize K.map gX=KV at*
   rcases o with _ | CO <;> simp (maxSteps:=9^9) (disch:=omega) [-aaO,-aaP,-aaE,-getElem?_pos,-getElem?_neg,om,h1,hg,hEl,pl,ab,c1,c2,c3,w5,w6,w7,w8,w9,p1,p2,pc,pcn,pK,pN,pS,pa]
   all_goals
    obtain ⟨_,_,hN⟩:=hex;exact ⟨i+1,N,by exact ⟨by omega,hN⟩,by omega,⟨by simp,some CN,by simp⟩,by simp [hNV]⟩
  ·have w5:=By (bJ d) (dM hoc) (nC (gY unit lang K)) (j9 (dX hK.len hK.mb)) (kT hK.len hK.mb) (by rw [fm,dN];exact hch) hC;simp only [vd,ve] at w5;rw [if_neg hC] at w8;have hC2:(aH (bJ d) unit lang !=0)=true:=by simpa using hC
   generalize aH (bJ d) unit lang=e at*
   unfold Jg at w5;unfold M6 at w8;simp only [SL] at c2 w5;unfold yf at c2;generalize (nC (gY unit lang K)).cO.map dT=CK at*
   clear hch hfc hoc;obtain ⟨J1,J2,J3,y0⟩:=nb (bJ d);obtain ⟨M1,M2,M3,y1⟩:=nb d;simp only [y0,y1] at hg c1 w5 w8 p1 p2;generalize hKV:K.map gX=KV at*
   rcases o with _ | CO <;> simp (maxSteps:=9^9) (disch:=omega) [-aaO,-aaP,-aaE,-getElem?_pos,-getElem?_neg,om,h1,hg,hEl,pl,ab,c1,c2,w5,w8,p1,p2,pc,pK,hC,hC2]
   ·trace_state
    exact ⟨i+1,K,⟨by omega,hK⟩,by omega,⟨by simp,none,by simp⟩,by simp [hKV]⟩
   ·trace_state
    exact ⟨i+1,K,⟨by omega,hK⟩,by omega,⟨by simp,some CO,by simp⟩,by simp [hKV]⟩
 ·obtain rfl:i=l.length:=by omega
  clear hE hf hok hi hch;generalize K.map gX=KV at*
  simp (maxSteps:=9^9) (disch:=omega) [-aaO,-aaP,-aaE,-getElem?_pos,-getElem?_neg,om,hEl,pl,ab,pK]
theorem Gq {xs:List AV} (h:eP Tryz.prog [46,3,9] xs):aq cfg 5 xs []=some (.bool true, []):=by obtain ⟨nl,z,l,r,rfl,hz,hl,hi,h⟩:=L7 h;obtain ⟨unit,r,rfl,_,_,h⟩:=qZ h;obtain ⟨lang,r,e,hla,h9⟩:=oR h;subst e;obtain rfl:r= []:=h9;exact Ep nl z l hz hl hi unit lang hla
end Go.Proofs.YtfgbpngakkhdcaaGreatDoor
