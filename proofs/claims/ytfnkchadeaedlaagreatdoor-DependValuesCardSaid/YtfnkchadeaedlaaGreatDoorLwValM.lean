/-
 The law DependValues.
-/
import Derived.Test.YtfnkchadeaedlaaGreatDoorLsM
set_option linter.all false
namespace Go.Proofs.YtfnkchadeaedlaaGreatDoor
open Go.Am
set_option maxRecDepth 10000
set_option maxHeartbeats 8000000
theorem Eg (c:Ct) (hi:c.CG) (root unit:Int) (lang:af) (hl:lang.length≤maxLen) (x:Cell):ar cfg 3 [aO c,.int .i64 root,.int .i64 unit,.str lang,iC x] []=some (.bool true, []):=by
 refine ab XR Wo ?_;have a:=wm;have w1:=iF c hi;unfold maxLen at hl;cases hf:jz c with
 | false=>
  rw [hf] at w1;unfold aO bU iC at*
  generalize ao c.aa=L1 at*
  generalize c.aq.map bF=L2 at*
  generalize c.ag.map aI=L3 at*
  simp (maxSteps:=9^9) (disch:=omega) [-List.map_replicate,-List.map_set,-List.getD_eq_getElem?_getD,-getElem?_pos,-getElem?_neg,om,Vf,a,w1]
 | true=>
  rw [hf] at w1;have hc:=lX hi hf;have hs:=iG c;have w2:=gd c hc;obtain ⟨n1,z1,w3,f1⟩:=IX (dC c) (dc hc) root unit lang;rw [hs.reads] at w3 f1;obtain ⟨n2,z2,w4,f2⟩:=G0 c hc root unit lang;have hrl:=lg c root unit lang;have w5:=Jg n1 n2 z1 z2 _ _ f1 f2 hrl hrl;rw [decide_eq_true rfl] at w5;have w6:=nW (dC c) (dc hc) root lang x;rw [←so,hs.bC] at w6;have w7:=Ft c hc root lang x;rw [←Pq] at w7;have p1:=cT (aM Lib.itoa aB c root lang unit).1;have p2:(aO (dC c)).plain=true:=by simp [aO,bU,AV.plain,al]
  clear f1 f2 hrl hs;generalize (aM Lib.itoa aB c root lang unit).1=R at*
  generalize (aM Lib.itoa aB c root lang unit).2=e at*
  generalize aF R=RA at*
  generalize bC Lib.itoa aB c lang root x=v at*
  unfold aO bU iC at*
  generalize ao (dC c).aa=K1 at*
  generalize (dC c).aq.map bF=K2 at*
  generalize (dC c).ag.map aI=K3 at*
  generalize ao c.aa=L1 at*
  generalize c.aq.map bF=L2 at*
  generalize c.ag.map aI=L3 at*
  by_cases h10:lang.length≤10
  ·simp (maxSteps:=9^9) (disch:=omega) [-List.map_replicate,-List.map_set,-List.getD_eq_getElem?_getD,-getElem?_pos,-getElem?_neg,om,Vf,a,w1,h10,w2,w3,w4,w5,w6,w7,p1,p2]
  ·simp (maxSteps:=9^9) (disch:=omega) [-List.map_replicate,-List.map_set,-List.getD_eq_getElem?_getD,-getElem?_pos,-getElem?_neg,om,Vf,a,w1,h10]
theorem G1 {xs:List AV} (h:dx Tryz.prog [26,3,3,9,28] xs):ar cfg 3 xs []=some (.bool true, []):=by obtain ⟨c,r,rfl,hc,h⟩:=im h;obtain ⟨root,r,rfl,_,_,h⟩:=eF h;obtain ⟨unit,r,rfl,_,_,h⟩:=eF h;obtain ⟨lang,r,rfl,hl,h⟩:=iJ h;obtain ⟨x,r,e,h9⟩:=GZ h;subst e;obtain rfl:r= []:=h9;exact Eg c hc root unit lang hl x
end Go.Proofs.YtfnkchadeaedlaaGreatDoor
