/-
 The law DependEnough.
-/
import Derived.Test.YtfnkchadeaedlaaGreatDoorLwSecM
import Derived.Test.YtfnkchadeaedlaaGreatDoorAdM
import Derived.Test.YtfnkchadeaedlaaGreatDoorCatM
set_option linter.all false
namespace Go.Proofs.YtfnkchadeaedlaaGreatDoor
open Go.Am
set_option maxRecDepth 10000
set_option maxHeartbeats 8000000
theorem Gp {c:Ct} (hf:gr c=true) (root u:Int) (lang:ae) (h:(ay Lib.itoa esc c root lang u).2=0):ar cfg 19 [.int .i64 u,.ah none 3 (br (ay Lib.itoa esc c root lang u).1)] []=some (lW (sV aD u (ay Lib.itoa esc c root lang u).1), []):=by
 obtain ⟨S,hi,h1,h2,hr,hv⟩:=mX h;have hb:=DE hf root lang;have hl:=kS c root u lang;rw [hr] at hl⊢;have hlk:=DF (aS Lib.itoa esc c lang root) S
 have key: ∀(x:Cell) (N:Nat),(aS Lib.itoa esc c lang root x).length≤N→((aB (S.map fun z=>(z,aS Lib.itoa esc c lang root z)) x).getD []).length≤N:=fun x N hN=>by
  rcases hlk x with e | e
  ·rw [e];simp
  ·rw [e];exact hN
 refine BL u _ (fun he=> ?_) hl (key _ _ (hb.one u)) ?_ ?_ (fun k v hk=>key _ _ (hb.more k v hk))
 ·rw [List.map_eq_nil_iff] at he;rw [he] at h1;cases h1
 ·rcases hlk (2,u) with e | e
  ·rw [e];simp
  ·rw [e];exact hb.two u
 ·rcases hlk (2,u) with e | e
  ·rw [e];intro p hp;simp [splitB] at hp;subst hp;simp
  ·rw [e];intro p hp;have:=hb.TU u p hp;omega
theorem jr (it:Int→ae) (root:Int): ∀(l:List Sh) (st:NS),(bt it root st l).length≤l.length∧ ∀x∈bt it root st l,x.1∈l
 | [],st=>by simp [bt]
 | s::r,st=>by
  unfold bt;have h:=jr it root r (dO it root st s);split
  ·refine ⟨by simp only [List.length_cons];omega,fun x hx=> ?_⟩;rcases List.mem_cons.1 hx with rfl | hx
   ·simp
   ·exact List.mem_cons_of_mem _ (h.2 x hx)
  ·exact ⟨by simp only [List.length_cons];omega,fun x hx=>List.mem_cons_of_mem _ (h.2 x hx)⟩
theorem BU {c:Ct} (hc:gP c) (order:List ae) {x:Sh×ae} (hx:x.1∈c.an):(dB Lib.itoa order c x).nodes.length<1000000:=by have h1:=fr order x.1.facts;have h2:=(hc.an _ hx).HU;unfold dB wB;simp only [List.length_cons,List.length_append,List.length_map];split <;> simp <;> omega
theorem EP (s:ae):(10:UInt8)∉esc s:=Ir (by decide)
theorem DH (c:Ct) (hi:c.B1) (root:Int) (lang:ae) (hlang:lang.length≤maxLen):ar cfg 4 [bM c,.int .i64 root,.str lang] []=some (.bool true, []):=by
 refine ad Uy TZ ?_;have a:=xT;have w1:=iv c hi;have p2:(bM c).plain=true:=by simp [bM,di,AV.plain,ai]
 unfold maxLen at hlang;by_cases hall:gr c=true∧lang.length≤10
 case neg=>
  unfold bM di at*
  generalize au c.aa=L1 at*
  generalize c.av.map cM=L2 at*
  generalize c.an.map bk=L3 at*
  cases h1:gr c with
  | false=>rw [h1] at w1;simp (maxSteps:=9^9) (disch:=omega) [-List.map_replicate,-List.map_set,-List.getD_eq_getElem?_getD,-getElem?_pos,-getElem?_neg,om,Sc,a,w1,p2]
  | true=>rw [h1] at w1;have h3: ¬ lang.length≤10:=fun h3=>hall ⟨h1,h3⟩;simp (maxSteps:=9^9) (disch:=omega) [-List.map_replicate,-List.map_set,-List.getD_eq_getElem?_getD,-getElem?_pos,-getElem?_neg,om,Sc,a,w1,h3,p2]
 obtain ⟨h1,h3⟩:=hall;rw [h1] at w1;have hc:=lO hi h1;have hs:=iw c;have w2:=fU c hc;have w3:=gh (du c) (cU hc) root lang;rw [hs.comp,hs.Tx] at w3;have p3:(bM (du c)).plain=true:=by simp [bM,di,AV.plain,ai]
 by_cases hE:cZ c root lang=0
 case neg=>
  rw [if_neg hE] at w3;have hre:(ay Lib.itoa esc c root lang root).2=cZ c root lang:=by unfold ay;rw [if_pos hE]
  obtain ⟨n,z,w4⟩:=nR (du c) (cU hc) root root lang (by rw [hs.reads,hre];exact hE);rw [hs.reads,hre] at w4;have hE2:(cZ c root lang !=0)=true:=by simpa using hE
  unfold bM di Ja at*
  generalize au (du c).aa=K1 at*
  generalize (du c).av.map cM=K2 at*
  generalize (du c).an.map bk=K3 at*
  generalize au c.aa=L1 at*
  generalize c.av.map cM=L2 at*
  generalize c.an.map bk=L3 at*
  generalize cZ c root lang=e at*
  simp (maxSteps:=9^9) (disch:=omega) [-List.map_replicate,-List.map_set,-List.getD_eq_getElem?_getD,-getElem?_pos,-getElem?_neg,om,Sc,a,w1,h3,w2,w3,w4,p2,p3,hE,hE2,af]
 rw [if_pos hE,hE] at w3;have hk:=cE (dt (cL hE)).1
 have hNl:(bt Lib.itoa root ⟨[], []⟩ c.an).length<1000000:=by have:=(jr Lib.itoa root c.an ⟨[], []⟩).1;have:=hk.EZ;omega
 obtain ⟨NR,hNR⟩: ∃NR,NR=bt Lib.itoa root ⟨[], []⟩ c.an:=⟨_,rfl⟩;have hAP:dP Lib.itoa c root lang=NR.map (dB Lib.itoa (ak c.aa lang) c):=by rw [hNR];rfl
 rw [←hNR] at hNl;have hone: ∀k (h:k<NR.length),(ay Lib.itoa esc c root lang NR[k].1.unit).2=0∧sV aD NR[k].1.unit (ay Lib.itoa esc c root lang NR[k].1.unit).1=(0,some (dB Lib.itoa (ak c.aa lang) c NR[k])):=fun k h=>Kc lN EP hE (by rw [←hNR];exact List.getElem_mem h)
 have hrd: ∀k (h:k<NR.length),ar cfg 12 [bM (du c),.int .i64 root,.str lang,.int .i64 NR[k].1.unit] []=some (.aO [.ah none 3 (br (ay Lib.itoa esc c root lang NR[k].1.unit).1),.int .i64 0], []):=fun k h=>by
  have:=kR (du c) (cU hc) root NR[k].1.unit lang (by rw [hs.reads];exact (hone k h).1);rw [hs.reads] at this;exact this
 have hsx: ∀k (h:k<NR.length),ar cfg 19 [.int .i64 NR[k].1.unit,.ah none 3 (br (ay Lib.itoa esc c root lang NR[k].1.unit).1)] []=some (.aO [cN (dB Lib.itoa (ak c.aa lang) c NR[k]),.int .i64 0], []):=fun k h=>by
  have:=Gp h1 root NR[k].1.unit lang (hone k h).1;rw [(hone k h).2] at this;exact this
 have hsl: ∀k (h:k<NR.length),(dB Lib.itoa (ak c.aa lang) c NR[k]).nodes.length<1000000:=fun k h=>BU hk _ ((jr Lib.itoa root c.an ⟨[], []⟩).2 _ (by rw [←hNR];exact List.getElem_mem h));have hsm: ∀k (h:k<NR.length),ar cfg 20 [cN (dB Lib.itoa (ak c.aa lang) c NR[k]),cN (dB Lib.itoa (ak c.aa lang) c NR[k])] []=some (.bool true, []):=fun k h=>BV (some _) (fun s hs=>by cases hs;exact hsl k h);have hun: ∀k (h:k<NR.length),(dB Lib.itoa (ak c.aa lang) c NR[k]).unit=NR[k].1.unit:=fun k h=>rfl;have hEl:((NR.map (dB Lib.itoa (ak c.aa lang) c)).map cN).length=NR.length:=by simp
 have hEg: ∀k (h:k<NR.length),((NR.map (dB Lib.itoa (ak c.aa lang) c)).map cN)[k]?=some (.agg [.int .i64 NR[k].1.unit,.str (dB Lib.itoa (ak c.aa lang) c NR[k]).num,.ah none 3 ((dB Lib.itoa (ak c.aa lang) c NR[k]).nodes.map gO)]):=fun k h=>by
  simp [h];rfl
 rw [hAP] at w3;unfold E1 at w3;have p5:ai ((NR.map (dB Lib.itoa (ak c.aa lang) c)).map cN)=true:=eK (fun x=>by simp [cN,AV.plain,iK]) _;generalize (NR.map (dB Lib.itoa (ak c.aa lang) c)).map cN=E at*
 unfold bM di at*
 generalize au (du c).aa=K1 at*
 generalize (du c).av.map cM=K2 at*
 generalize (du c).an.map bk=K3 at*
 generalize au c.aa=L1 at*
 generalize c.av.map cM=L2 at*
 generalize c.an.map bk=L3 at*
 clear hone;simp (maxSteps:=9^9) (disch:=omega) [-List.map_replicate,-List.map_set,-List.getD_eq_getElem?_getD,-getElem?_pos,-getElem?_neg,om,Sc,a,w1,h3,w2,w3,p2,p3,p5,hEl,af];refine Wp.bw (fun (x:Nat×Option AV)=>NR.length-x.1) (fun x=> [none,some (.int .i64 root),some (.str lang),some (.ptr 0 0),none,none,none,none,none,none,none,none,none,none,none,none,none,none,none,none,none,none,none,some (.ah none 3 E),some (.int .i64 NR.length),some (.int .i64 x.1),none,none,none,none,none,x.2,none]) (fun x=> [.var 26 [.ah c.ln c.lz L1,.ah c.bn c.bz L2,.ah c.sn c.sz L3],.var 41 [.int .i64 root,.str lang,.ah none 3 E]]) (fun x=>x.1≤NR.length) ?_ (0,none) (by simp) (by simp) (by simp);rintro ⟨i,o⟩ hil;simp only at hil⊢;by_cases q1:i<NR.length
 ·have g1:=hEg i q1;have g2:=hrd i q1;have g3:=hsx i q1;have g4:=hsm i q1;have p6:=iK (dB Lib.itoa (ak c.aa lang) c NR[i]).nodes;have p7:=dc (ay Lib.itoa esc c root lang NR[i].1.unit).1;rw [show cN (dB Lib.itoa (ak c.aa lang) c NR[i])= .agg [.int .i64 NR[i].1.unit,.str (dB Lib.itoa (ak c.aa lang) c NR[i]).num,.ah none 3 ((dB Lib.itoa (ak c.aa lang) c NR[i]).nodes.map gO)] from rfl] at g3 g4;clear hEg hrd hsx hsm hsl hun w3 a;generalize (dB Lib.itoa (ak c.aa lang) c NR[i]).nodes.map gO=NS at*
  generalize (dB Lib.itoa (ak c.aa lang) c NR[i]).num=nm at*
  generalize br (ay Lib.itoa esc c root lang NR[i].1.unit).1=RD at*
  generalize NR[i].1.unit=u at*
  simp (maxSteps:=9^9) (disch:=omega) [-List.map_replicate,-List.map_set,-List.getD_eq_getElem?_getD,-getElem?_pos,-getElem?_neg,om,q1,g1,g2,g3,g4,w2,p2,p3,p6,p7,hEl,af];exact ⟨i+1,by omega,by omega,by simp⟩
 ·simp (maxSteps:=9^9) (disch:=omega) [-List.map_replicate,-List.map_set,-List.getD_eq_getElem?_getD,-getElem?_pos,-getElem?_neg,om,q1,hEl]
theorem Pr {xs:List AV} (h:eh Tryz.prog [26,3,9] xs):ar cfg 4 xs []=some (.bool true, []):=by obtain ⟨c,r,rfl,hc,h⟩:=ic h;obtain ⟨root,r,rfl,_,_,h⟩:=eW h;obtain ⟨lang,r,e,hl,h9⟩:=iz h;subst e;obtain rfl:r= []:=h9;exact DH c hc root lang hl
end Go.Proofs.YtfnkchadeaedlaaGreatDoor
