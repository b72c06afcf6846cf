/- The law UpdateNeeds. -/
import Derived.Test.YtfgbpngakkhdcaaGreatDoorUpM
open List renaming getD_eq_getElem?_getD->aaE,length_filter_le->adM,length_map->abp,map_replicate->aaO,map_set->aaP,mem_map->aaS
open Nat renaming mul_le_mul_right->acF
set_option linter.all false
namespace Go.Proofs.YtfgbpngakkhdcaaGreatDoor
open Go.Am
set_option maxRecDepth 10000
set_option maxHeartbeats 8000000
def SM:ca:=(.mk [0,1,2,3,4,5,8,9,10,11,12,13,14,15,17,18,19,20,21,23,27,34,37,40,44,47,49,50,55,57,59,63,64,65,67,69,71,72,73,74,76,79,81,82,83,88,91,93] (.seq (.bW 2 [] [.f 0 4 (.box 26 (.t 0)) [(0,.v 0)],.f 1 5 (.box 26 (.t 1)) [(1,.v 1)],.par [(6,.cst (.bool false))]]) (.seq (.seq (.bW 0 [] [.f 0 17 (.cl 9 #[] #[]) [],.par [(18,.un .not (.v 17))]]) (.cond 18 (.seq (.rp 6 (.cst (.bool false))) .ret) .skip)) (.seq (.seq (.bW 0 [] [.f 0 19 (.cl 10 #[.t 22] #[26]) [(22,.load 26 (.v 4))],.dm none 0 (some 20) (some (.un .not (.v 19),false)) (.cl 10 #[.t 26] #[26]) [(26,.load 26 (.v 5))],.par [(21,.or (.or (.un .not (.v 19)) (.un .not (.v 20))) (.bin .gtr 3 (.lenS (.v 3)) (.ci 10)))]]) (.cond 21 (.seq (.rp 6 (.cst (.bool true))) .ret) .skip)) (.seq (.bW 1 [] [.f 0 22 (.cl 12 #[.t 36] #[26]) [(36,.load 26 (.v 4))],.f 0 23 (.cl 11 #[.t 37,.t 38,.t 39] #[26,3,9]) [(37,.v 22),(38,.v 2),(39,.v 3)],.f 0 7 (.alloc 31) [],.dm none 1 none none (.store 31 (.t 9) (.t 41)) [(9,.v 7),(41,.extract (.v 23) 0)],.par [(8,.extract (.v 23) 1)]]) (.seq (.seq (.rp 24 (.bin .neq 32 (.v 8) (.ci 0))) (.cond 24 (.seq (.rp 6 (.cst (.bool true))) .ret) .skip)) (.seq (.seq (.own [.mk 25 none 0 0,.mk 26 none 0 0]) (.bW 1 [0] [.dm (some [0,0]) 0 (some 25) none (.cl 17 #[.t 46] #[31]) [(46,.load 31 (.v 7))],.dm (some [0,0]) 0 (some 26) none (.cl 12 #[.t 48] #[26]) [(48,.load 26 (.v 5))],.dm (some [0,0]) 0 (some 27) none (.cl 16 #[.t 47,.t 49] #[31,26]) [(47,.v 25),(49,.v 26)],.dm (some [0,0]) 0 (some 9) none (.alloc 31) [],.dm none 1 none none (.store 31 (.t 11) (.t 51)) [(11,.v 9),(51,.extract (.v 27) 0)],.par [(10,.extract (.v 27) 1),(11,.extract (.v 27) 2)]])) (.seq (.seq (.rp 28 (.bin .neq 32 (.v 11) (.ci 0))) (.cond 28 (.seq (.rp 6 (.cst (.bool true))) .ret) .skip)) (.seq (.bW 0 [] [.dm (some [0]) 0 (some 29) none (.cl 12 #[.t 56] #[26]) [(56,.load 26 (.v 4))],.dm (some [0]) 0 (some 30) none (.cl 12 #[.t 58] #[26]) [(58,.load 26 (.v 5))],.f 0 31 (.cl 17 #[.t 62] #[31]) [(62,.load 31 (.v 7))],.f 0 32 (.cl 29 #[.t 63] #[31]) [(63,.v 31)],.f 0 33 (.cl 28 #[.t 57,.t 59,.t 60,.t 61,.t 64] #[26,26,3,9,65]) [(57,.v 29),(59,.v 30),(60,.v 2),(61,.v 3),(64,.v 32)],.par [(12,.v 33)]]) (.seq (.bW 0 [] [.f 0 34 (.cl 17 #[.t 66] #[31]) [(66,.load 31 (.v 7))],.f 0 35 (.cl 30 #[.t 67,.t 68] #[31,65]) [(67,.v 34),(68,.v 12)],.par [(13,.v 35)]]) (.seq (.seq (.bW 0 [] [.par [(36,.lf 29 31 9 2),(37,.len 29 (.lf 29 31 9 2)),(38,.ci 0)]]) (.block 0 (.loop [0,1,2,3,4,5,6,8,9,11,12,14,15,16,17,18,19,20,21,22,23,24,25,26,27,28,29,30,31,32,33,34,35,39,40,41,42,43,44,47] (.seq (.rp 39 (.bin .lss 3 (.v 38) (.v 37))) (.seq (.cond 39 .skip (.exit 0)) (.seq (.block 1 (.seq (.bW 1 [] [.par [(40,.load 60 (.iaddr 29 (.v 36) (.v 38)))],.f 0 14 (.alloc 60) [],.dm none 1 none none (.store 60 (.t 17) (.t 76)) [(17,.v 14),(76,.v 40)]]) (.seq (.bW 1 [] [.par [(41,.load 3 (.faddr 58 (.faddr 60 (.v 14) 1) 0))],.f 0 15 (.alloc 3) [],.dm none 1 none none (.store 3 (.t 18) (.t 79)) [(18,.v 15),(79,.v 41)]]) (.seq (.bW 0 [] [.par [(42,.lf 29 31 7 2)],.f 0 43 (.makeFunc (Fn.func 32) #[] #[.t 18]) [(18,.v 15)],.f 0 44 (.cl 31 #[.t 81,.t 82] #[29,62]) [(81,.v 42),(82,.v 43)],.par [(16,.v 44)]]) (.seq (.bW 0 [] [.dm (some [0]) 0 (some 45) (some (.v 16,true)) (.cl 33 #[.t 86,.t 87] #[39,3]) [(86,.v 10),(87,.load 3 (.v 15))],.dm none 0 (some 46) (some (.v 16,true)) (.cl 33 #[.t 89,.t 90] #[39,3]) [(89,.v 13),(90,.load 3 (.v 15))],.par [(47,.and (.v 16) (.bin .neq 4 (.v 45) (.v 46)))]]) (.cond 47 (.seq (.rp 6 (.cst (.bool false))) .ret) .skip)))))) (.rp 38 (.bin .add 3 (.v 38) (.ci 1))))))))) (.seq (.rp 6 (.cst (.bool true))) .ret))))))))))) [.v 6])
theorem ZI:al cfg Tryz.f8=some SM:=by kernel_rfl
def Xn:ca:=by refine (?f:_->_) (by conv=>lhs;cbv:al cfgS Tryz.f32=some ?x);exact fun _=>?x
theorem Xo:al cfg Tryz.f32=some Xn:=by kernel_rfl
theorem OM {c:Ct} (hf:fv c=true):(bJ c).ao.length<=257:=by
 have h:(bJ c).ao.length=c.ao.length:=by simp [bJ]
 rw [h];unfold fv oN at hf;simp only [Bool.and_eq_true,decide_eq_true_eq] at hf;obtain ⟨⟨_,h3⟩,_⟩:=hf;omega
theorem SO {c:Ct} (hf:fv c=true):fv (bJ c)=true:=by
 have e1:(bJ c).ao.all ua=c.ao.all ua:=by show (c.ao.map mc).all ua=_;rw [List.all_map];rfl
 have e2:(bJ c).ao.length=c.ao.length:=by simp [bJ]
 have e3:(bJ c).af=c.af:=rfl;have e4:(bJ c).aD=c.aD:=rfl;unfold fv at hf⊢;simp only [e1,e2,e3,e4];exact hf
theorem Gn {c:Ct} (hf:fv c=true) (hc:gl (bJ c)) {u:Int} {lang:ae}: ∀f∈ba (bJ c) u lang,f.text.length<=60:=by
 intro f hm;unfold ba at hm;split at hm
 ·unfold k7 at hm;cases hs:dI (bJ c) u with
  | none=>rw [hs] at hm;simp [an] at hm
  | some s=>rw [hs] at hm;obtain ⟨_,_,_,_,hs2⟩:=kQ hs;exact Em (SO hf) hc hs2 (aM hm)
 ·cases hm
theorem Jh {c:Ct} (hf:fv c=true) (root u:Int) (lang:ae):(bN Lib.itoa esc (bJ c) root lang u).1.length<=3000:=by
 unfold bN;split
 ·simp
 ·rename_i h0;have h0:aH (bJ c) root lang=0:=by simpa using h0
  split
  ·simp
  ·have hc:=cJ (dz (dA h0)).1;obtain ⟨h1,h2⟩:=x8 hc (u:=u) (lang:=lang);have hs:=Gn hf hc (u:=u) (lang:=lang);have h3:=x7 (N:=60) _ hs;have h4:=tZ ((ba (bJ c) u lang).flatMap cF) [(1,u),(2,u)];have h5:(ba (bJ c) u lang).length*(60+1)<=32*(60+1):=acF _ h1;simp only [abp,cellsOf];simp only [List.length_cons,List.length_nil] at h4;omega
theorem SP (m:Mm) (u:Int) (n1 n2 n3 n4 n5 n6:Option Bool) (z1 z2 z3 z4 z5 z6:Nat) (e1 e2 e3 e4 e5 e6 K1 K2 ME:List AV) (h1:K1.map (forget 6)=K1) (h2:K2.map (forget 6)=K2) (h3:ME.map (forget 6)=ME):aq cfg 32 [gX m,.ptr 5 0] [.var 26 [.ag n1 z1 e1,.ag n2 z2 e2,.ag n3 z3 e3],.var 26 [.ag n4 z4 e4,.ag n5 z5 e5,.ag n6 z6 e6],.var 31 K1,.var 31 K2,.var 60 ME,.var 3 [.int .i64 u]]=some (.bool (m.2.unit==u), [.var 26 [.ag n1 z1 e1,.ag n2 z2 e2,.ag n3 z3 e3],.var 26 [.ag n4 z4 e4,.ag n5 z5 e5,.ag n6 z6 e6],.var 31 K1,.var 31 K2,.var 60 ME,.var 3 [.int .i64 u]]):=by
 refine aa ZJ Xo ?_;unfold gX;have hpl:=aK m.2.nodes;have hpr:=aO m.1;generalize m.2.nodes.map dO=NX at*
 generalize aN m.1=RX at*
 simp (maxSteps:=9^9) (disch:=omega) [-aaO,-aaP,-aaE,-getElem?_pos,-getElem?_neg,om,Xn,hpl,hpr,h1,h2,h3]
theorem Ji (c d:Ct) (hi:c.yC) (hj:d.yC) (unit:Int) (lang:ae) (hlang:lang.length<=maxLen):aq cfg 8 [b8 c,b8 d,.int .i64 unit,.str lang] []=some (.bool true, []):=by
 refine aa fn8 ZI ?_;have a:=HC;have w1:=pC c hi;have w2:=pC d hj;have p2:(b8 c).plain=true:=by simp [b8,eV,AV.plain,ai]
 have p3:(b8 d).plain=true:=by simp [b8,eV,AV.plain,ai]
 unfold maxLen at hlang;by_cases hall:fv c=true∧fv d=true∧lang.length<=10
 case neg=>
  obtain ⟨L1,L2,L3,y0⟩:=nb c;obtain ⟨M1,M2,M3,y1⟩:=nb d;simp only [y0,y1] at*
  cases h1:fv c with
  | false=>rw [h1] at w1;simp (maxSteps:=9^9) (disch:=omega) [-aaO,-aaP,-aaE,-getElem?_pos,-getElem?_neg,om,SM,a,w1,p2,p3]
  | true=>
   rw [h1] at w1;cases h2:fv d with
   | false=>rw [h2] at w2;simp (maxSteps:=9^9) (disch:=omega) [-aaO,-aaP,-aaE,-getElem?_pos,-getElem?_neg,om,SM,a,w1,w2,p2,p3]
   | true=>rw [h2] at w2;have h3: ¬ lang.length<=10:=fun h3=>hall ⟨h1,h2,h3⟩;simp (maxSteps:=9^9) (disch:=omega) [-aaO,-aaP,-aaE,-getElem?_pos,-getElem?_neg,om,SM,a,w1,w2,h3,p2,p3]
 obtain ⟨h1,h2,h3⟩:=hall;rw [h1] at w1;rw [h2] at w2;have hc:=ub hi h1;have hd:=ub hj h2;have c1:=j8 c hc;have c2:=j8 d hd;have p4:(b8 (bJ c)).plain=true:=by simp [b8,eV,AV.plain,ai]
 have p5:(b8 (bJ d)).plain=true:=by simp [b8,eV,AV.plain,ai]
 by_cases hE:aH (bJ c) unit lang=0
 case neg=>
  have w3:=vM (bJ c) (dM hc) unit lang hE;have hE2:(aH (bJ c) unit lang !=0)=true:=by simpa using hE
  generalize aH (bJ c) unit lang=e at*
  unfold Jg at w3;obtain ⟨K1,K2,K3,y0⟩:=nb (bJ c);obtain ⟨L1,L2,L3,y1⟩:=nb c;obtain ⟨M1,M2,M3,y2⟩:=nb d;simp only [y0,y1,y2] at*
  clear c2 p5;simp (maxSteps:=9^9) (disch:=omega) [-aaO,-aaP,-aaE,-getElem?_pos,-getElem?_neg,om,SM,a,w1,w2,h3,c1,w3,p2,p3,p4,hE,hE2,ab]
 have w3:=sN (bJ c) (dM hc) unit lang hE;obtain ⟨hM,hMl⟩:=l7 hc h1 (root:=unit) (lang:=lang) (old:= []) hE (fun m hm=>by cases hm);have hch:=oG (it:=Lib.itoa) (unesc:=unesc) dS na hE (old:= []) (fun m hm=>by cases hm);have hcn:=Ll (it:=Lib.itoa) (esc:=esc) hE
 have hcl:(bR (aG Lib.itoa esc (bJ c) unit lang [])).length<1000000:=by
  have h4:=IK (l:=aG Lib.itoa esc (bJ c) unit lang []) (N:=3000) (fun m hm=>by
   obtain ⟨s,hs,rfl⟩:=aaS.1 hm;exact Jh h1 unit s.unit lang)
  have h5:(aG Lib.itoa esc (bJ c) unit lang []).length<=257:=by unfold aG;rw [abp];have:=vN (bJ c) unit lang;have:=OM h1;omega
  have h6:=acF 3000 h5;omega
 generalize hMeq:aG Lib.itoa esc (bJ c) unit lang []=M at*
 have w4:=oO (gY unit lang M) (dX hMl hM);rw [<-uc] at w4;have pm:=cG M;have pc:=cb (nC (gY unit lang M)).cO;by_cases hF:aH (bJ d) unit lang=0
 case neg=>
  have w5:=By (bJ d) (dM hd) (nC (gY unit lang M)) (j9 (dX hMl hM)) (kT hMl hM) (by rw [fm,dN];exact hch) hF;simp only [vd,ve] at w5;have hF2:(aH (bJ d) unit lang !=0)=true:=by simpa using hF
  generalize aH (bJ d) unit lang=e at*
  unfold Jg at w5;simp only [SL] at w4 w5;unfold yf at w3 w4;generalize (nC (gY unit lang M)).cO.map dT=CM at*
  generalize M.map gX=MV at*
  obtain ⟨K1,K2,K3,y0⟩:=nb (bJ c);obtain ⟨J1,J2,J3,y1⟩:=nb (bJ d);obtain ⟨L1,L2,L3,y2⟩:=nb c;obtain ⟨M1,M2,M3,y3⟩:=nb d;simp only [y0,y1,y2,y3] at*
  clear hM hch;simp (maxSteps:=9^9) (disch:=omega) [-aaO,-aaP,-aaE,-getElem?_pos,-getElem?_neg,om,SM,a,w1,w2,h3,c1,c2,w3,w4,w5,p2,p3,p4,p5,pm,pc,hF,hF2,ab]
 have w5:=pD (bJ d) (dM hd) (nC (gY unit lang M)) (j9 (dX hMl hM)) (kT hMl hM) (by rw [fm,dN];exact hch) hF;rw [fm,dN] at w5;simp only [vd,ve] at w5
 have hnl:(fC Lib.itoa esc (bJ d) unit lang M).length<1000000:=by unfold fC;rw [abp];have:=adM (fun s=>(iT Lib.itoa esc (bJ d) unit lang M s).2) (eh Lib.itoa (bJ d) unit lang);have:=vN (bJ d) unit lang;have:=(dM hd).sl;omega
 have hun: ∀m∈aG Lib.itoa esc (bJ d) unit lang M,m.2.unit∈(eh Lib.itoa (bJ d) unit lang).map mm.unit:=fun m hm=>by
  rw [<-iU (bJ d) unit lang M];exact aaS.2 ⟨m,hm,rfl⟩
 obtain ⟨hN,hNl⟩:=l7 hd h2 (root:=unit) (lang:=lang) (old:=M) hF hM;have w6:=Eo (nC (gY unit lang M)) (j9 (dX hMl hM)) (by rw [fm,dN];exact hcn) (by rw [fm,dN];exact hcl);rw [fm,dN] at w6;have w7:=Ja (bJ c) (bJ d) (dM hc) (dM hd) unit lang none 2 (bR M) (fun _=>rfl) hcl
 have hdl:(eU Lib.itoa esc (bJ c) (bJ d) unit lang (bR M)).length<1000000:=by have:(eU Lib.itoa esc (bJ c) (bJ d) unit lang (bR M)).length<=(bR M).length:=adM _ _;omega
 have w8:=HE (nC (gY unit lang M)) (j9 (dX hMl hM)) none 2 (eU Lib.itoa esc (bJ c) (bJ d) unit lang (bR M)) (fun _=>rfl) hdl;rw [fm,dN] at w8;change aq cfg 28 _ []=some (.ag none 2 (dh (eU Lib.itoa esc (bJ c) (bJ d) unit lang (bR M))), []) at w7
 have hndl:(oH M (eU Lib.itoa esc (bJ c) (bJ d) unit lang (bR M))).length<1000000:=by unfold oH;rw [abp];have:=adM (fun m:Mm=>m.1.any fun r=>decide (r.1∈eU Lib.itoa esc (bJ c) (bJ d) unit lang (bR M))) M;omega
 have hq: ∀m∈aG Lib.itoa esc (bJ d) unit lang M,m.2.unit∈dL M->(m.2.unit∈fC Lib.itoa esc (bJ d) unit lang M↔m.2.unit∈oH M (eU Lib.itoa esc (bJ c) (bJ d) unit lang (bR M))):=fun m hm hu=>by
  have:=R3 (it:=Lib.itoa) (esc:=esc) (a:=bJ c) (b:=bJ d) hE (hun m hm) (by rw [hMeq];exact hu);rw [hMeq] at this;exact this
 have pcl:=eA (bR M);have pdl:=eA (eU Lib.itoa esc (bJ c) (bJ d) unit lang (bR M));generalize oH M (eU Lib.itoa esc (bJ c) (bJ d) unit lang (bR M))=ND at*
 generalize dh (eU Lib.itoa esc (bJ c) (bJ d) unit lang (bR M))=DF at*
 generalize dh (bR M)=CE at*
 generalize fC Lib.itoa esc (bJ d) unit lang M=AN at*
 generalize aG Lib.itoa esc (bJ d) unit lang M=M2 at*
 have pn:=cG M2;have hE2: ∀i (h:i<M2.length),(M2.map gX)[i]?=some (gX M2[i]):=fun i h=>get_map _ _ h;have hEl:(M2.map gX).length=M2.length:=by simp
 have wi:=fun u e1 e2 e3 e4 e5 e6 K1 K2 ME g1 g2 g3 hsh=>ON none 4 M (fun _=>rfl) hMl 32 ⟨rfl,rfl,rfl,rfl⟩ 5 _ u (fun m=>SP m u c.ln c.bn c.sn d.ln d.bn d.sn c.lz c.bz c.sz d.lz d.bz d.sz e1 e2 e3 e4 e5 e6 K1 K2 ME g1 g2 g3) (by simp) hsh;have wa:=fun u=>HF none 1 AN (fun _=>rfl) hnl u;have wn:=fun u=>HF none 1 ND (fun _=>rfl) hndl u;have pa:=dB AN;have pnd:=dB ND;clear hM hch hN hcn hcl hMeq hdl hndl hnl hun;simp only [SL] at w4 w5 w6 w8;unfold yf at w3 w4 w5;generalize (nC (gY unit lang M)).cO.map dT=CM at*
 generalize M.map gX=MV at*
 generalize M2.map gX=NV at*
 generalize cI AN=IA at*
 generalize cI ND=IN at*
 obtain ⟨K1,K2,K3,y0⟩:=nb (bJ c);obtain ⟨J1,J2,J3,y1⟩:=nb (bJ d);obtain ⟨L1,L2,L3,y2⟩:=nb c;obtain ⟨M1,D2,M3,y3⟩:=nb d;simp only [y0,y1,y2,y3] at*
 simp (maxSteps:=9^9) (disch:=omega) [-aaO,-aaP,-aaE,-getElem?_pos,-getElem?_neg,om,SM,a,w1,w2,h3,c1,c2,w3,w4,w5,w6,w7,w8,p2,p3,p4,p5,pm,pc,pn,pa,pnd,pcl,pdl,hEl,ab]
 refine Wp.aP (fun (x:Nat×Option AV×Option AV)=>M2.length-x.1) (fun x=> [none,none,none,none,none,none,none,some (.ptr 2 0),none,none,some (.ag none 1 IA),none,none,some (.ag none 1 IN),none,none,none,none,none,none,none,none,none,none,none,none,none,none,none,none,none,none,none,none,none,none,some (.ag none 4 NV),some (.int .i64 M2.length),some (.int .i64 x.1),none,none,none,none,none,none,x.2.1,x.2.2,none])
  (fun x=> [.var 26 [.ag c.ln c.lz L1,.ag c.bn c.bz L2,.ag c.sn c.sz L3],.var 26 [.ag d.ln d.lz M1,.ag d.bn d.bz D2,.ag d.sn d.sz M3],.var 31 [.int .i64 unit,.str lang,.ag none 4 MV],.var 31 [.int .i64 unit,.str lang,.ag none 4 NV]])
  (fun x=>x.1<=M2.length) ?_ (0,none,none) (by simp) (by simp) (by simp)
 rintro ⟨i,o1,o2⟩ hil;simp only at hil⊢;by_cases q1:i<M2.length
 ·have hg:=hE2 i q1;have hqi:=hq _ (List.getElem_mem q1);clear hE2 hq;generalize M2[i]=m at*
  unfold gX at hg;have pnn:=aK m.2.nodes;have prr:=aO m.1;generalize m.2.nodes.map dO=NN at*
  generalize aN m.1=RR at*
  have wj:=wi m.2.unit L1 L2 L3 M1 D2 M3 [.int .i64 unit,.str lang,.ag none 4 MV] [.int .i64 unit,.str lang,.ag none 4 NV] [.ag none 3 RR,.int .i64 m.2.unit,.str m.2.num,.ag none 3 NN] (by simp [forget,AV.under,ar]) (by simp [forget,AV.under,ar]) (by simp [forget,AV.under,ar]) (by simp [shut,ar,AV.under]);have wa:=wa m.2.unit;have wn:=wn m.2.unit;clear wi;by_cases hu:m.2.unit∈dL M
  ·rw [decide_eq_true hu] at wj;have hqi:=hqi hu;rw [show decide (m.2.unit∈AN)=decide (m.2.unit∈ND) by rw [Bool.eq_iff_iff];simpa using hqi] at wa;generalize decide (m.2.unit∈ND)=bb at*
   clear hqi hu;simp (maxSteps:=9^9) (disch:=omega) [-aaO,-aaP,-aaE,-getElem?_pos,-getElem?_neg,om,q1,hg,hEl,ab,wj,wa,wn,pm,pn,pnn,prr,pa,pnd];exact ⟨i+1,by omega,by omega,by simp⟩
  ·rw [decide_eq_false hu] at wj;clear hqi wa wn hu;simp (maxSteps:=9^9) (disch:=omega) [-aaO,-aaP,-aaE,-getElem?_pos,-getElem?_neg,om,q1,hg,hEl,ab,wj,pm,pn,pnn,prr,pa,pnd];exact ⟨i+1,by omega,by omega,by simp⟩
 ·obtain rfl:i=M2.length:=by omega
  clear hE2 hq wi wa wn;simp (maxSteps:=9^9) (disch:=omega) [-aaO,-aaP,-aaE,-getElem?_pos,-getElem?_neg,om,hEl,ab,pm,pn,pa,pnd]
theorem Jj {xs:List AV} (h:eP Tryz.prog [26,26,3,9] xs):aq cfg 8 xs []=some (.bool true, []):=by obtain ⟨c,r,rfl,hc,h⟩:=qY h;obtain ⟨d,r,rfl,hd,h⟩:=qY h;obtain ⟨unit,r,rfl,_,_,h⟩:=qZ h;obtain ⟨lang,r,e,hl,h9⟩:=oR h;subst e;obtain rfl:r= []:=h9;exact Ji c d hc hd unit lang hl
end Go.Proofs.YtfgbpngakkhdcaaGreatDoor
