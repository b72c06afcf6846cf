/- The law UpdateQuiet. -/
import Derived.Test.YtfgbpngakkhdcaaGreatDoorUpM
open List renaming getD_eq_getElem?_getD->aaE,map_replicate->aaO,map_set->aaP
set_option linter.all false
namespace Go.Proofs.YtfgbpngakkhdcaaGreatDoor
open Go.Am
set_option maxRecDepth 10000
set_option maxHeartbeats 8000000
def Xp:ca:=by refine (?f:_->_) (by conv=>lhs;cbv:al cfgS Tryz.f7=some ?x);exact fun _=>?x
theorem ZK:al cfg Tryz.f7=some Xp:=by kernel_rfl
theorem Jk (c:Ct) (hi:c.yC) (unit:Int) (lang:ae) (hlang:lang.length<=maxLen):aq cfg 7 [b8 c,.int .i64 unit,.str lang] []=some (.bool true, []):=by
 refine aa fn7 ZK ?_;have a:=HC;have w1:=pC c hi;have p2:(b8 c).plain=true:=by simp [b8,eV,AV.plain,ai]
 unfold maxLen at hlang;by_cases hall:fv c=true∧lang.length<=10
 case neg=>
  obtain ⟨L1,L2,L3,y0⟩:=nb c;simp only [y0] at*
  cases h1:fv c with
  | false=>rw [h1] at w1;simp (maxSteps:=9^9) (disch:=omega) [-aaO,-aaP,-aaE,-getElem?_pos,-getElem?_neg,om,Xp,a,w1,p2]
  | true=>rw [h1] at w1;have h3: ¬ lang.length<=10:=fun h3=>hall ⟨h1,h3⟩;simp (maxSteps:=9^9) (disch:=omega) [-aaO,-aaP,-aaE,-getElem?_pos,-getElem?_neg,om,Xp,a,w1,h3,p2]
 obtain ⟨h1,h3⟩:=hall;rw [h1] at w1;have hc:=ub hi h1;have c1:=j8 c hc;have p4:(b8 (bJ c)).plain=true:=by simp [b8,eV,AV.plain,ai]
 by_cases hE:aH (bJ c) unit lang=0
 case neg=>
  have w3:=vM (bJ c) (dM hc) unit lang hE;have hE2:(aH (bJ c) unit lang !=0)=true:=by simpa using hE
  generalize aH (bJ c) unit lang=e at*
  unfold Jg at w3;obtain ⟨K1,K2,K3,y0⟩:=nb (bJ c);obtain ⟨L1,L2,L3,y1⟩:=nb c;simp only [y0,y1] at*
  simp (maxSteps:=9^9) (disch:=omega) [-aaO,-aaP,-aaE,-getElem?_pos,-getElem?_neg,om,Xp,a,w1,h3,c1,w3,p2,p4,hE,hE2,ab]
 have w3:=sN (bJ c) (dM hc) unit lang hE;obtain ⟨hM,hMl⟩:=l7 hc h1 (root:=unit) (lang:=lang) (old:= []) hE (fun m hm=>by cases hm);obtain ⟨q1,q2⟩:=R2 (it:=Lib.itoa) (esc:=esc) hE;have hch:=oG (it:=Lib.itoa) (unesc:=unesc) dS na hE (old:= []) (fun m hm=>by cases hm);generalize aG Lib.itoa esc (bJ c) unit lang []=M at*
 have w4:=oO (gY unit lang M) (dX hMl hM);have w5:=pD (bJ c) (dM hc) (nC (gY unit lang M)) (j9 (dX hMl hM)) (kT hMl hM) (by rw [fm,dN];exact hch) hE;rw [fm,dN] at w5;simp only [vd,ve] at w5;rw [q1,q2] at w5;have w6:=L5 (gY unit lang M) (gY unit lang M) (dX hMl hM) (dX hMl hM);simp only [and_self,decide_true] at w6;rw [<-uc] at w4 w6;have pm:=cG M;have pc:=cb (nC (gY unit lang M)).cO;simp only [SL] at w4 w5;unfold yf at w3 w4 w5 w6;generalize (nC (gY unit lang M)).cO.map dT=CM at*
 generalize M.map gX=MV at*
 obtain ⟨K1,K2,K3,y0⟩:=nb (bJ c);obtain ⟨L1,L2,L3,y1⟩:=nb c;simp only [y0,y1] at*
 clear hM hch q1 q2;simp (maxSteps:=9^9) (disch:=omega) [-aaO,-aaP,-aaE,-getElem?_pos,-getElem?_neg,om,Xp,a,w1,h3,c1,w3,w4,w5,w6,p2,p4,pm,pc,ab,cI]
theorem L6 {xs:List AV} (h:eP Tryz.prog [26,3,9] xs):aq cfg 7 xs []=some (.bool true, []):=by obtain ⟨c,r,rfl,hc,h⟩:=qY h;obtain ⟨unit,r,rfl,_,_,h⟩:=qZ h;obtain ⟨lang,r,e,hl,h9⟩:=oR h;subst e;obtain rfl:r= []:=h9;exact Jk c hc unit lang hl
end Go.Proofs.YtfgbpngakkhdcaaGreatDoor
