/- The law UpdateAnew. -/
import Derived.Test.YtfgbpngakkhdcaaGreatDoorUpM
open List renaming getD_eq_getElem?_getD->aaE,map_replicate->aaO,map_set->aaP
open Nat renaming le_refl->aa0
set_option linter.all false
namespace Go.Proofs.YtfgbpngakkhdcaaGreatDoor
open Go.Am
set_option maxRecDepth 10000
set_option maxHeartbeats 8000000
def SJ:ca:=(.mk [0,1,2,3,4,5,8,9,10,11,12,13,14,16,17,18,19,20,22,26,33,36,39,43,46,48,49,54,65,66,67,68,70,73,75,76,77,82,91,92,95,96,100] (.seq (.bW 2 [] [.f 0 4 (.box 26 (.t 0)) [(0,.v 0)],.f 1 5 (.box 26 (.t 1)) [(1,.v 1)],.par [(6,.cst (.bool false))]]) (.seq (.seq (.bW 0 [] [.f 0 16 (.cl 9 #[] #[]) [],.par [(17,.un .not (.v 16))]]) (.cond 17 (.seq (.rp 6 (.cst (.bool false))) .ret) .skip)) (.seq (.seq (.bW 0 [] [.f 0 18 (.cl 10 #[.t 21] #[26]) [(21,.load 26 (.v 4))],.dm none 0 (some 19) (some (.un .not (.v 18),false)) (.cl 10 #[.t 25] #[26]) [(25,.load 26 (.v 5))],.par [(20,.or (.or (.un .not (.v 18)) (.un .not (.v 19))) (.bin .gtr 3 (.lenS (.v 3)) (.ci 10)))]]) (.cond 20 (.seq (.rp 6 (.cst (.bool true))) .ret) .skip)) (.seq (.bW 1 [] [.f 0 21 (.cl 12 #[.t 35] #[26]) [(35,.load 26 (.v 4))],.f 0 22 (.cl 11 #[.t 36,.t 37,.t 38] #[26,3,9]) [(36,.v 21),(37,.v 2),(38,.v 3)],.f 0 7 (.alloc 31) [],.dm none 1 none none (.store 31 (.t 9) (.t 40)) [(9,.v 7),(40,.extract (.v 22) 0)],.par [(8,.extract (.v 22) 1)]]) (.seq (.seq (.rp 23 (.bin .neq 32 (.v 8) (.ci 0))) (.cond 23 (.seq (.rp 6 (.cst (.bool true))) .ret) .skip)) (.seq (.seq (.own [.mk 24 none 0 0,.mk 25 none 0 0]) (.bW 1 [0] [.dm (some [0,0]) 0 (some 24) none (.cl 17 #[.t 45] #[31]) [(45,.load 31 (.v 7))],.dm (some [0,0]) 0 (some 25) none (.cl 12 #[.t 47] #[26]) [(47,.load 26 (.v 5))],.dm (some [0,0]) 0 (some 26) none (.cl 16 #[.t 46,.t 48] #[31,26]) [(46,.v 24),(48,.v 25)],.dm (some [0,0]) 0 (some 9) none (.alloc 31) [],.dm none 1 none none (.store 31 (.t 11) (.t 50)) [(11,.v 9),(50,.extract (.v 26) 0)],.par [(10,.extract (.v 26) 1),(11,.extract (.v 26) 2)]])) (.seq (.seq (.rp 27 (.bin .neq 32 (.v 11) (.ci 0))) (.cond 27 (.seq (.rp 6 (.and (.bin .eql 3 (.len 39 (.v 10)) (.ci 0)) (.bin .eql 3 (.len 29 (.lf 29 31 9 2)) (.ci 0)))) .ret) .skip)) (.seq (.rp 12 (.cst (.ag (some true) 0 []))) (.seq (.seq (.bW 0 [] [.par [(28,.lf 29 31 9 2),(29,.len 29 (.lf 29 31 9 2)),(30,.ci 0)]]) (.block 0 (.seq (.own [.mk 12 none 3 1]) (.loop [0,1,4,6,8,9,11,13,14,15,16,17,18,19,20,21,22,23,24,25,26,27,31,32,33,34,35,36,39,40,41,42,1012] (.seq (.rp 31 (.bin .lss 3 (.v 30) (.v 29))) (.seq (.cond 31 .skip (.exit 0)) (.seq (.block 1 (.seq (.bW 1 [] [.par [(32,.load 60 (.iaddr 29 (.v 28) (.v 30)))],.f 0 13 (.alloc 60) [],.dm none 1 none none (.store 60 (.t 16) (.t 70)) [(16,.v 13),(70,.v 32)]]) (.seq (.bW 1 [] [.par [(33,.load 3 (.faddr 58 (.faddr 60 (.v 13) 1) 0))],.f 0 14 (.alloc 3) [],.dm none 1 none none (.store 3 (.t 17) (.t 73)) [(17,.v 14),(73,.v 33)]]) (.seq (.bW 0 [] [.par [(34,.lf 29 31 7 2)],.f 0 35 (.makeFunc (Fn.func 26) #[] #[.t 17]) [(17,.v 14)],.f 0 36 (.cl 25 #[.t 75,.t 76] #[29,62]) [(75,.v 34),(76,.v 35)],.par [(15,.v 36)]]) (.seq (.bW 0 [] [.dm (some [0]) 0 (some 37) (some (.bin .lss 3 (.v 15) (.ci 0),false)) (.cl 12 #[.t 81] #[26]) [(81,.load 26 (.v 5))],.dm none 0 (some 38) (some (.bin .lss 3 (.v 15) (.ci 0),false)) (.cl 27 #[.t 82,.t 83,.t 84,.t 90] #[26,3,9,55]) [(82,.v 37),(83,.v 2),(84,.v 3),(90,.load 55 (.faddr 60 (.iaddr 29 (.lf 29 31 7 2) (.v 15)) 0))],.par [(39,.pick (.bin .lss 3 (.v 15) (.ci 0)) (.cst (.bool true)) (.v 38))]]) (.cond 39 (.bW 2 [] [.f 0 40 (.buildSlice 39 1 #[(0,.t 94)]) [(94,.load 3 (.v 14))],.f 1 41 (.call (.mk (.builtin .append) #[.t 93,.t 95] #[39,39])) [(93,.v 12),(95,.v 40)],.par [(12,.v 41)]]) .skip)))))) (.rp 30 (.bin .add 3 (.v 30) (.ci 1)))))))))) (.seq (.bW 0 [] [.f 0 42 (.cl 21 #[.t 98,.t 99] #[39,39]) [(98,.v 10),(99,.v 12)],.par [(6,.v 42)]]) .ret)))))))))) [.v 6])
theorem ZG:al cfg Tryz.f6=some SJ:=by kernel_rfl
def Xl:ca:=by refine (?f:_->_) (by conv=>lhs;cbv:al cfgS Tryz.f26=some ?x);exact fun _=>?x
theorem Xm:al cfg Tryz.f26=some Xl:=by kernel_rfl
theorem SK (m:Mm) (u:Int) (n1 n2 n3 n4 n5 n6:Option Bool) (z1 z2 z3 z4 z5 z6:Nat) (e1 e2 e3 e4 e5 e6 K1 K2 W ME:List AV) (h1:K1.map (forget 7)=K1) (h2:K2.map (forget 7)=K2) (h3:ME.map (forget 7)=ME):aq cfg 26 [gX m,.ptr 6 0] [.var 26 [.ag n1 z1 e1,.ag n2 z2 e2,.ag n3 z3 e3],.var 26 [.ag n4 z4 e4,.ag n5 z5 e5,.ag n6 z6 e6],.var 31 K1,.var 31 K2,.sl ⟨false,some 3,none⟩ 1 W,.var 60 ME,.var 3 [.int .i64 u]]=some (.bool (m.2.unit==u), [.var 26 [.ag n1 z1 e1,.ag n2 z2 e2,.ag n3 z3 e3],.var 26 [.ag n4 z4 e4,.ag n5 z5 e5,.ag n6 z6 e6],.var 31 K1,.var 31 K2,.sl ⟨false,some 3,none⟩ 1 W,.var 60 ME,.var 3 [.int .i64 u]]):=by
 refine aa ZH Xm ?_;unfold gX;have hpl:=aK m.2.nodes;have hpr:=aO m.1;generalize m.2.nodes.map dO=NX at*
 generalize aN m.1=RX at*
 simp (maxSteps:=9^9) (disch:=omega) [-aaO,-aaP,-aaE,-getElem?_pos,-getElem?_neg,om,Xl,hpl,hpr,h1,h2,h3]
theorem LZ (c d:Ct) (hi:c.yC) (hj:d.yC) (unit:Int) (lang:ae) (hlang:lang.length<=maxLen):aq cfg 6 [b8 c,b8 d,.int .i64 unit,.str lang] []=some (.bool true, []):=by
 refine aa fn6 ZG ?_;have a:=HC;have w1:=pC c hi;have w2:=pC d hj;have p2:(b8 c).plain=true:=by simp [b8,eV,AV.plain,ai]
 have p3:(b8 d).plain=true:=by simp [b8,eV,AV.plain,ai]
 unfold maxLen at hlang;by_cases hall:fv c=true∧fv d=true∧lang.length<=10
 case neg=>
  obtain ⟨L1,L2,L3,y0⟩:=nb c;obtain ⟨M1,M2,M3,y1⟩:=nb d;simp only [y0,y1] at*
  cases h1:fv c with
  | false=>rw [h1] at w1;simp (maxSteps:=9^9) (disch:=omega) [-aaO,-aaP,-aaE,-getElem?_pos,-getElem?_neg,om,SJ,a,w1,p2,p3]
  | true=>
   rw [h1] at w1;cases h2:fv d with
   | false=>rw [h2] at w2;simp (maxSteps:=9^9) (disch:=omega) [-aaO,-aaP,-aaE,-getElem?_pos,-getElem?_neg,om,SJ,a,w1,w2,p2,p3]
   | true=>rw [h2] at w2;have h3: ¬ lang.length<=10:=fun h3=>hall ⟨h1,h2,h3⟩;simp (maxSteps:=9^9) (disch:=omega) [-aaO,-aaP,-aaE,-getElem?_pos,-getElem?_neg,om,SJ,a,w1,w2,h3,p2,p3]
 obtain ⟨h1,h2,h3⟩:=hall;rw [h1] at w1;rw [h2] at w2;have hc:=ub hi h1;have hd:=ub hj h2;have c1:=j8 c hc;have c2:=j8 d hd;have p4:(b8 (bJ c)).plain=true:=by simp [b8,eV,AV.plain,ai]
 have p5:(b8 (bJ d)).plain=true:=by simp [b8,eV,AV.plain,ai]
 by_cases hE:aH (bJ c) unit lang=0
 case neg=>
  have w3:=vM (bJ c) (dM hc) unit lang hE;have hE2:(aH (bJ c) unit lang !=0)=true:=by simpa using hE
  generalize aH (bJ c) unit lang=e at*
  unfold Jg at w3;obtain ⟨K1,K2,K3,y0⟩:=nb (bJ c);obtain ⟨L1,L2,L3,y1⟩:=nb c;obtain ⟨M1,M2,M3,y2⟩:=nb d;simp only [y0,y1,y2] at*
  clear c2 p5;simp (maxSteps:=9^9) (disch:=omega) [-aaO,-aaP,-aaE,-getElem?_pos,-getElem?_neg,om,SJ,a,w1,w2,h3,c1,w3,p2,p3,p4,hE,hE2,ab]
 have w3:=sN (bJ c) (dM hc) unit lang hE;obtain ⟨hM,hMl⟩:=l7 hc h1 (root:=unit) (lang:=lang) (old:= []) hE (fun m hm=>by cases hm);have hch:=oG (it:=Lib.itoa) (unesc:=unesc) dS na hE (old:= []) (fun m hm=>by cases hm);generalize aG Lib.itoa esc (bJ c) unit lang []=M at*
 have w4:=oO (gY unit lang M) (dX hMl hM);rw [<-uc] at w4;have pm:=cG M;have pc:=cb (nC (gY unit lang M)).cO;by_cases hF:aH (bJ d) unit lang=0
 case neg=>
  have w5:=By (bJ d) (dM hd) (nC (gY unit lang M)) (j9 (dX hMl hM)) (kT hMl hM) (by rw [fm,dN];exact hch) hF;simp only [vd,ve] at w5;have hF2:(aH (bJ d) unit lang !=0)=true:=by simpa using hF
  generalize aH (bJ d) unit lang=e at*
  unfold Jg at w5;simp only [SL] at w4 w5;unfold yf at w3 w4;generalize (nC (gY unit lang M)).cO.map dT=CM at*
  generalize M.map gX=MV at*
  obtain ⟨K1,K2,K3,y0⟩:=nb (bJ c);obtain ⟨J1,J2,J3,y1⟩:=nb (bJ d);obtain ⟨L1,L2,L3,y2⟩:=nb c;obtain ⟨M1,M2,M3,y3⟩:=nb d;simp only [y0,y1,y2,y3] at*
  clear hM hch;simp (maxSteps:=9^9) (disch:=omega) [-aaO,-aaP,-aaE,-getElem?_pos,-getElem?_neg,om,SJ,a,w1,w2,h3,c1,c2,w3,w4,w5,p2,p3,p4,p5,pm,pc,hF,hF2,ab]
 have w5:=pD (bJ d) (dM hd) (nC (gY unit lang M)) (j9 (dX hMl hM)) (kT hMl hM) (by rw [fm,dN];exact hch) hF;rw [fm,dN] at w5;simp only [vd,ve] at w5;obtain ⟨hN,hNl⟩:=l7 hd h2 (root:=unit) (lang:=lang) (old:=M) hF hM;have han:=Oj (it:=Lib.itoa) (esc:=esc) (bJ d) unit lang M;have hst: ∀x∈M,aq cfg 27 [b8 (bJ d),.int .i64 unit,.str lang,.ag none 3 (aN x.1)] []=some (.bool (ij Lib.itoa esc (bJ d) unit lang x.1), []):=fun x hx=>zW (bJ d) (dM hd) unit lang none 3 x.1 (fun _=>rfl) (hM x hx).rl;generalize fC Lib.itoa esc (bJ d) unit lang M=AN at*
 generalize aG Lib.itoa esc (bJ d) unit lang M=M2 at*
 obtain ⟨P,hP⟩: ∃P:Mm->Bool,P=Wv Lib.itoa esc (bJ d) unit lang M:=⟨_,rfl⟩;have han:AN=(M2.filter P).map fun m=>m.2.unit:=by rw [han,hP];rfl
 have hPm: ∀m,P m=match gO M m.2.unit with | some x=>ij Lib.itoa esc (bJ d) unit lang x.1 | none=>true:=fun m=>by rw [hP];rfl
 obtain ⟨WW,hWW⟩: ∃WW:Nat->List Int,WW=fun i=>((M2.take i).filter P).map fun m=>m.2.unit:=⟨_,rfl⟩;have hW0:WW 0= []:=by rw [hWW];rfl
 have hWn:AN=WW M2.length:=by rw [han,hWW];simp only [List.take_length]
 have hWs: ∀i (h:i<M2.length),WW (i+1)=WW i++(if P M2[i]=true then [M2[i].2.unit] else []):=fun i h=>by
  rw [hWW];simp only;rw [List.take_succ_eq_append_getElem h,List.filter_append,List.map_append];cases hq:P M2[i] <;> simp [hq]
 have hWl: ∀i,i<=M2.length->(WW i).length<=i:=fun i hi=>by
  rw [hWW];have:=List.length_filter_le P (M2.take i);rw [List.length_take] at this;simp only [List.length_map];omega
 have pn:=cG M2;have hE: ∀i (h:i<M2.length),(M2.map gX)[i]?=some (gX M2[i]):=fun i h=>get_map _ _ h;have hEl:(M2.map gX).length=M2.length:=by simp
 have hG: ∀(k:Nat) (x:Mm),M[k]?=some x->(M.map gX)[k]?=some (gX x):=fun k x h=>by simp [h]
 have hGl:(M.map gX).length=M.length:=by simp
 have wi:=fun u e1 e2 e3 e4 e5 e6 K1 K2 W ME g1 g2 g3 hsh=>HD none 4 M (fun _=>rfl) hMl 26 ⟨rfl,rfl,rfl,rfl⟩ 6 _ u (fun m=>SK m u c.ln c.bn c.sn d.ln d.bn d.sn c.lz c.bz c.sz d.lz d.bz d.sz e1 e2 e3 e4 e5 e6 K1 K2 W ME g1 g2 g3) (by simp) hsh;have we:=Bz none none 1 1 AN AN (fun _=>rfl) (fun _=>rfl) (by rw [hWn];have:=hWl M2.length (aa0 _);omega) (by rw [hWn];have:=hWl M2.length (aa0 _);omega);rw [decide_eq_true rfl] at we;have pa:=dB AN;clear han hP hWW hM hch hN;simp only [SL] at w4 w5;unfold yf at w3 w4 w5;generalize (nC (gY unit lang M)).cO.map dT=CM at*
 generalize M.map gX=MV at*
 generalize M2.map gX=NV at*
 obtain ⟨K1,K2,K3,y0⟩:=nb (bJ c);obtain ⟨J1,J2,J3,y1⟩:=nb (bJ d);obtain ⟨L1,L2,L3,y2⟩:=nb c;obtain ⟨M1,D2,M3,y3⟩:=nb d;simp only [y0,y1,y2,y3] at*
 simp (maxSteps:=9^9) (disch:=omega) [-aaO,-aaP,-aaE,-getElem?_pos,-getElem?_neg,om,SJ,a,w1,w2,h3,c1,c2,w3,w4,w5,p2,p3,p4,p5,pm,pc,pn,pa,hEl,ab]
 refine Wp.aP (fun (x:Nat×Option AV×Option AV)=>M2.length-x.1) (fun x=> [none,none,some (.int .i64 unit),some (.str lang),none,some (.ptr 1 0),none,some (.ptr 2 0),none,none,some (.ag none 1 (cI AN)),none,some (.ax 4 (WW x.1).length),none,none,none,none,none,none,none,none,none,none,none,none,none,none,none,some (.ag none 4 NV),some (.int .i64 M2.length),some (.int .i64 x.1),none,none,none,none,none,none,x.2.1,x.2.2,none,none,none,none])
  (fun x=> [.var 26 [.ag c.ln c.lz L1,.ag c.bn c.bz L2,.ag c.sn c.sz L3],.var 26 [.ag d.ln d.lz M1,.ag d.bn d.bz D2,.ag d.sn d.sz M3],.var 31 [.int .i64 unit,.str lang,.ag none 4 MV],.var 31 [.int .i64 unit,.str lang,.ag none 4 NV],.sl ⟨false,some 3,none⟩ 1 (cI (WW x.1))])
  (fun x=>x.1<=M2.length) ?_ (0,none,none) (by simp) (by simp [hW0]) (by simp [hW0,cI])
 clear hW0;rintro ⟨i,o1,o2⟩ hil;simp only at hil⊢;have hwl:(cI (WW i)).length=(WW i).length:=by simp [cI]
 have hwi:=hWl i hil;have pw:=dB (WW i);by_cases q1:i<M2.length
 ·have hg:=hE i q1;have hs:=hWs i q1;rw [hPm] at hs;clear hE hWs hWn hPm we hWl;generalize M2[i]=m at*
  unfold gX at hg;have pnn:=aK m.2.nodes;have prr:=aO m.1;generalize m.2.nodes.map dO=NN at*
  generalize aN m.1=RR at*
  have wj:=wi m.2.unit L1 L2 L3 M1 D2 M3 [.int .i64 unit,.str lang,.ag none 4 MV] [.int .i64 unit,.str lang,.ag none 4 NV] (cI (WW i)) [.ag none 3 RR,.int .i64 m.2.unit,.str m.2.num,.ag none 3 NN] (by simp [forget,AV.under,ar]) (by simp [forget,AV.under,ar]) (by simp [forget,AV.under,ar]) (by simp [shut,ar,AV.under]);clear wi;rcases qT m.2.unit M 0 with ⟨k,x,f1,f2,f3⟩ | ⟨f1,f2⟩
  ·rw [f2] at wj;rw [f1] at hs;simp only [Nat.zero_add] at wj;have hx:=hst x (List.mem_of_getElem? f3);have hgx:=hG k x f3
   have hkl:k<M.length:=by
    rcases Nat.lt_or_ge k M.length with h | h
    ·exact h
    ·rw [List.getElem?_eq_none h] at f3;cases f3
   unfold gX at hgx;have pxn:=aK x.2.nodes;have pxr:=aO x.1;clear hst hG f1 f2 f3;generalize x.2.nodes.map dO=XN at*
   generalize aN x.1=XR at*
   simp only at hs;cases hq:ij Lib.itoa esc (bJ d) unit lang x.1 with
   | true=>
    rw [hq] at hx;simp only [hq,if_true] at hs;have hs2:cI (WW (i+1))=cI (WW i)++ [.int .i64 m.2.unit]:=by rw [hs];simp [cI]
    have hs3:(WW (i+1)).length=(WW i).length+1:=by rw [hs];simp
    clear hq hs;simp (maxSteps:=9^9) (disch:=omega) [-aaO,-aaP,-aaE,-getElem?_pos,-getElem?_neg,om,q1,hg,hEl,ab,wj,hx,hgx,hGl,hkl,c2,p3,p5,pm,pn,pnn,prr,pxn,pxr,hwl,pw];exact ⟨i+1,by omega,by omega,⟨hs3.symm,by simp⟩,hs2.symm⟩
   | false=>rw [hq] at hx;simp only [hq,Bool.false_eq_true,if_false,List.append_nil] at hs;clear hq;simp (maxSteps:=9^9) (disch:=omega) [-aaO,-aaP,-aaE,-getElem?_pos,-getElem?_neg,om,q1,hg,hEl,ab,wj,hx,hgx,hGl,hkl,c2,p3,p5,pm,pn,pnn,prr,pxn,pxr,hwl,pw];exact ⟨i+1,by omega,by omega,⟨by rw [hs],by simp⟩,by rw [hs]⟩
  ·rw [f2] at wj;simp only [f1,if_true] at hs;have hs2:cI (WW (i+1))=cI (WW i)++ [.int .i64 m.2.unit]:=by rw [hs];simp [cI]
   have hs3:(WW (i+1)).length=(WW i).length+1:=by rw [hs];simp
   clear hs hst hG f1 f2;simp (maxSteps:=9^9) (disch:=omega) [-aaO,-aaP,-aaE,-getElem?_pos,-getElem?_neg,om,q1,hg,hEl,ab,wj,c2,p3,p5,pm,pn,pnn,prr,hwl,pw];exact ⟨i+1,by omega,by omega,⟨hs3.symm,by simp⟩,hs2.symm⟩
 ·obtain rfl:i=M2.length:=by omega
  rw [<-hWn] at hwl hwi pw⊢;clear hE hWs hWn hPm hWl wi hst hG;simp (maxSteps:=9^9) (disch:=omega) [-aaO,-aaP,-aaE,-getElem?_pos,-getElem?_neg,om,hEl,ab,we,pa,hwl,pm,pn]
theorem L0 {xs:List AV} (h:eP Tryz.prog [26,26,3,9] xs):aq cfg 6 xs []=some (.bool true, []):=by obtain ⟨c,r,rfl,hc,h⟩:=qY h;obtain ⟨d,r,rfl,hd,h⟩:=qY h;obtain ⟨unit,r,rfl,_,_,h⟩:=qZ h;obtain ⟨lang,r,e,hl,h9⟩:=oR h;subst e;obtain rfl:r= []:=h9;exact LZ c d hc hd unit lang hl
end Go.Proofs.YtfgbpngakkhdcaaGreatDoor
