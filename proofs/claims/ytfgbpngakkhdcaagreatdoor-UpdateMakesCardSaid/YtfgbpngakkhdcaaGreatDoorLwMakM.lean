/- The law UpdateMakes. -/
import Derived.Test.YtfgbpngakkhdcaaGreatDoorUpM
open Bool renaming true->H
open Go.Lib renaming itoa->B
open List renaming getD_eq_getElem?_getD->w,map_replicate->A,map_set->C
open _root_ renaming getElem?_neg->G,getElem?_pos->F
set_option linter.all false
namespace Go.Proofs.YtfgbpngakkhdcaaGreatDoor
open Go.Am
set_option maxRecDepth 10000
set_option maxHeartbeats 8000000
theorem LJ {a b:Ct} (h:a.PO b) (unit:Int) (lang:ae):bY B aB a unit lang []=bY B aB b unit lang []:=by unfold bY q9 Bv oH;rw [h.aid];simp only [List.find?_nil,h.reads]
theorem LK (c:Ct) (hi:c.Af) (unit:Int) (lang:ae) (Ā:lang.length<=maxLen):ar cfg 3 [br c,.int .i64 unit,.str lang] []=some (.bool H, []):=by
 refine aa fn3 ad7 ?_;have a:=Tk;have w1:=JV c hi;have p2:(br c).plain=true:=by simp [br,dm,AV.plain,ak]
 unfold maxLen at Ā;by_cases ā:qM c=H/\lang.length<=10
 case neg=>
  obtain ⟨L1,L2,L3,y0⟩:=Wd c;simp only [y0] at*
  cases h1:qM c with
  | false=>rw [h1] at w1;simp (maxSteps:=9^9) (disch:=omega) [-A,-C,-w,-F,-G,om,ir3,a,w1,p2]
  | true=>rw [h1] at w1;have h3: ¬ lang.length<=10:=fun h3=>ā ⟨h1,h3⟩;simp (maxSteps:=9^9) (disch:=omega) [-A,-C,-w,-F,-G,om,ir3,a,w1,h3,p2]
 obtain ⟨h1,h3⟩:=ā;rw [h1] at w1;have hc:=Ol hi h1;have c1:=Gc c hc;have p4:(br (nq c)).plain=true:=by simp [br,dm,AV.plain,ak]
 by_cases hE:aW (nq c) unit lang=0
 case neg=>
  have w3:=Rw (nq c) (vj hc) unit lang hE;have w4:=Gi c hc unit lang (by rw [<-(jV c).comp];exact hE);rw [<-(jV c).comp] at w4;have w5:=zx ⟨0, [], [],some H,0⟩ ⟨0, [], [],some H,0⟩ ⟨fun h=>absurd rfl h,by simp,fun m hm=>by cases hm⟩ ⟨fun h=>absurd rfl h,by simp,fun m hm=>by cases hm⟩;simp only [and_self,decide_true] at w5;unfold ja wV at w5;simp only [List.map_nil] at w5;generalize aW (nq c) unit lang=e at*
  unfold Iw at w3 w4;obtain ⟨K1,K2,K3,y0⟩:=Wd (nq c);obtain ⟨L1,L2,L3,y1⟩:=Wd c;simp only [y0,y1] at*
  simp (maxSteps:=9^9) (disch:=omega) [-A,-C,-w,-F,-G,om,ir3,a,w1,h3,c1,w3,w4,w5,p2,p4,hE,ab]
 have w3:=J0 (nq c) (vj hc) unit lang hE;obtain ⟨hM,ă⟩:=Gj hc h1 (root:=unit) (lang:=lang) (old:= []) hE (fun m hm=>by cases hm);have Ą:=LJ (jV c) unit lang;have w6:=zx (Ab unit lang (bY B aB (nq c) unit lang [])) (Ab unit lang (bY B aB (nq c) unit lang [])) (vn ă hM) (vn ă hM);simp only [and_self,decide_true] at w6;rw [<-Ix] at w6;have pM:=eZ (bY B aB (nq c) unit lang []);have ą:aW c unit lang=0:=by rw [<-(jV c).comp];exact hE
 have wa:=uq c hc unit lang [] .none ą;have wb:=uq c hc unit lang _ (.mak unit lang _ pM) ą;simp only [List.length_nil,List.length_cons,List.nil_append,List.cons_append,Nat.zero_add,Nat.reduceAdd] at wa wb;rw [<-Ą] at wa wb;have pS:ak ((fp B c unit lang).map cH)=true:=df (fun x=>by simp [cH,AV.plain,aM]) _;generalize (fp B c unit lang).map cH=SA at*
 clear Ą pM;generalize bY B aB (nq c) unit lang []=M at*
 have pm:=eZ M;unfold GP at w3 w6;have Ć:=bW uw M;generalize M.map uw=MV at*
 obtain ⟨K1,K2,K3,y0⟩:=Wd (nq c);simp only [y0] at*
 unfold br dm at*
 generalize au c.ad=L1 at*
 generalize c.av.map dc=L2 at*
 generalize c.ai.map bw=L3 at*
 clear hM;simp (maxSteps:=9^9) (disch:=omega) [-A,-C,-w,-F,-G,om,ir3,a,w1,h3,c1,w3,wa,wb,w6,p2,p4,pm,pS,Ć,ab]
theorem OC {xs:List AV} (h:gl Tryz.prog [26,3,9] xs):ar cfg 3 xs []=some (.bool H, []):=by obtain ⟨c,r,rfl,hc,h⟩:=IX h;obtain ⟨unit,r,rfl,_,_,h⟩:=Mp h;obtain ⟨lang,r,e,hl,h9⟩:=Kg h;subst e;obtain rfl:r= []:=h9;exact LK c hc unit lang hl
