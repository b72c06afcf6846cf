/-
 depend.find, depend.word. depend.text: the text of a unit. depend.value, depend.Value: the value of a cell. The map of cells (a set): keys of two numbers. A range over the map of cells: where each birth is found, and what sorting the reads gives. depend.Reads: the reads of the section of a unit. Strings at one byte: Index, Cut at a blank, HasSuffix and TrimSuffix at a line feed, Split at a byte. depend.fact: the fact of a line. depend.compare, the search among reads, known.get. depend.sheet: what the text of a unit says. known.expand: a text with the citations of reads.
-/
import Derived.Test.YtfnkchadeaedlaaGreatDoorAdM
import Derived.Test.YtfnkchadeaedlaaGreatDoorEscM
import Derived.Test.YtfnkchadeaedlaaGreatDoorIrs
import Derived.Test.YtfnkchadeaedlaaGreatDoorStrM
import Derived.Test.YtfnkchadeaedlaaGreatDoorCatM
import Derived.Lib.Index
set_option linter.all false
namespace Go.Proofs.YtfnkchadeaedlaaGreatDoor
open Go.Am
set_option maxRecDepth 10000
set_option maxHeartbeats 4000000
theorem E3 (s:Sh) (u:Int) (B:List ad) (hB:shut B.length B=true) (hu:ad.at B 1= .var 3 [.int .i64 u]):aq cfg 176 [bU s,.ptr 1 0] B=some (.bool (s.unit==u),B):=by
 refine ab QR MJ ?_;have hm:=shut_map (Nat.le_refl _) hB
 have h1:1<B.length:=by
  rcases Nat.lt_or_ge 1 B.length with h | h
  ·exact h
  ·have:ad.at B 1= .dead:=by simp [ad.at,List.getD_eq_getElem?_getD,List.getElem?_eq_none h]
   rw [this] at hu;cases hu
 have a1: ∀l,ad.at (B++l) 1= .var 3 [.int .i64 u]:=fun l=>by rw [eJ _ _ h1,hu]
 unfold bU;simp (maxSteps:=9^9) (disch:=omega) [-List.map_replicate,-List.map_set,-List.getD_eq_getElem?_getD,-getElem?_pos,-getElem?_neg,om,Ko,a1,hm]
 try exact List.take_left' (by simp)
theorem Ha (c:Ct) (hc:c.ok) (u:Int):aq cfg 134 [bN c,.int .i64 u] []=some (.int .i64 (cC (cb c.ay u)), []):=by
 refine ab QS MK ?_;have h:=yO c.sn c.sz c.ay hc.sz hc.sl 176 ⟨rfl,rfl,rfl,rfl⟩ 1 [.var 26 (df c),.var 3 [.int .i64 u]] u (fun s=>E3 s u _ (by simp [shut,av,AV.under,df]) rfl) (by simp) (by simp [shut,av,AV.under,df]);unfold bN df at*
 generalize aw c.ae=L1 at*
 generalize c.aA.map dm=L2 at*
 generalize c.ay.map bU=L3 at*
 simp (maxSteps:=9^9) (disch:=omega) [-List.map_replicate,-List.map_set,-List.getD_eq_getElem?_getD,-getElem?_pos,-getElem?_neg,om,Kp,h]
theorem bV:Lib.fields [102,111,110,100,115,32,115,101,114,105,101,115,32,102,105,108,101,32,105,116,101,109]= [[102,111,110,100,115], [115,101,114,105,101,115], [102,105,108,101], [105,116,101,109]]:=by decide+kernel
theorem DV (lev:Int) (h1:1≤lev) (h4:lev≤4):aq cfg 66 [.int .i64 lev] []=some (.str (fk lev), []):=by
 refine ab Tq QT ?_;have h:lev=1∨lev=2∨lev=3∨lev=4:=by omega
 rcases h with rfl | rfl | rfl | rfl
 ·simp (maxSteps:=9^9) (disch:=omega) [-List.map_replicate,-List.map_set,-List.getD_eq_getElem?_getD,-getElem?_pos,-getElem?_neg,om,Hb,dZ,bV,fk]
 ·simp (maxSteps:=9^9) (disch:=omega) [-List.map_replicate,-List.map_set,-List.getD_eq_getElem?_getD,-getElem?_pos,-getElem?_neg,om,Hb,dZ,bV,fk]
 ·simp (maxSteps:=9^9) (disch:=omega) [-List.map_replicate,-List.map_set,-List.getD_eq_getElem?_getD,-getElem?_pos,-getElem?_neg,om,Hb,dZ,bV,fk]
 ·simp (maxSteps:=9^9) (disch:=omega) [-List.map_replicate,-List.map_set,-List.getD_eq_getElem?_getD,-getElem?_pos,-getElem?_neg,om,Hb,dZ,bV,fk]
theorem CO {bs l:List ad} (hs:shut bs.length bs=true) (hl: ∀m,shut m l=true) {a:AV} (ha:a= .bG∨a= .ptr bs.length 0) (s:ag):K5 (aV bs a s++l) bs.length (bs.length+1) a s:=by
 unfold aV;refine ⟨?_,?_,by omega,ha,by simp,by simp,?_⟩
 ·rw [List.append_assoc,vV];rfl
 ·rw [List.append_assoc,dN];rfl
 ·rw [dO,dO,gO (by simp) hs,hl];rcases ha with rfl | rfl <;> simp [shut,av,AV.under]
theorem CP {bs l:List ad} {a:AV} {s t:ag}:gB (aV bs a s++l) bs.length (bs.length+1) t=aV bs (.ptr bs.length 0) t++l:=by unfold gB aV;rw [List.append_assoc,tj,cy,List.append_assoc];rfl
theorem Jb (c:Ct) (hc:c.ok) (u:Int) (aa:ag) (hr:bo c aa=true):aq cfg 82 [bN c,.int .i64 u,.str aa] []=some (.str (match dD c u with
  | some s=>AY Lib.itoa aQ (fk s.level) s.title s.mark (aD (ar c.ae aa) s.facts)
  | none=> []), []):=by
 have h1:=Ha c hc u;obtain ⟨nl,z,h2,h2z⟩:=v7 c hc u aa;have hch:bQ c u aa=aD (ar c.ae aa) (n9 c u):=by unfold bQ;rw [if_pos hr]
 rw [hch] at h2 h2z;have hk:gf c=0:=by unfold bo at hr;simp at hr;exact hr.1
 have hok:=fY hk;refine ab Ts QU ?_;cases hx:cb c.ay u with
 | none=>
  have hsU:dD c u=none:=by unfold dD;rw [hx]
  rw [hx] at h1;simp only [hsU];unfold bN df at*
  generalize aw c.ae=L1 at*
  generalize c.aA.map dm=L2 at*
  generalize c.ay.map bU=L3 at*
  simp (maxSteps:=9^9) (disch:=omega) [-List.map_replicate,-List.map_set,-List.getD_eq_getElem?_getD,-getElem?_pos,-getElem?_neg,om,ML,h1,cC]
 | some i=>
  rw [hx] at h1;have hi:=gN hx;have hgo:c.ay[i]?=some c.ay[i]:=List.getElem?_eq_getElem hi;have hsU:dD c u=some c.ay[i]:=by unfold dD;rw [hx];exact hgo
  have hfU:n9 c u=c.ay[i].facts:=by unfold n9;rw [hsU]
  rw [hfU] at h2 h2z;have hsz:=hc.sz (ne_of_lt hi);have hg:(c.ay.map bU)[i]?=some (.agg [.int .i64 c.ay[i].unit,.int .i64 c.ay[i].par,.int .i64 c.ay[i].level,.str c.ay[i].mark,.str c.ay[i].title,.ak c.ay[i].fn c.ay[i].fz (c.ay[i].facts.map fV)]):=get_map _ _ hi;have hEl:(c.ay.map bU).length=c.ay.length:=by simp
  have hso:=hok.ay _ (List.getElem_mem hi);have hil:i<1000000:=by have:=hc.sl;omega
  simp only [hsU];have hw:=DV c.ay[i].level hso.l1 hso.l2;have ht:=sT c.ay[i].title (by have:=hso.Eb;omega);have hm:=sT c.ay[i].mark (by have:=hso.mark;omega);have htl:=iV c.ay[i].title;have hml:=iV c.ay[i].mark;have htl2:=hso.Eb;have hml2:=hso.mark
  have htg:(fk c.ay[i].level).length≤6:=by
   unfold fk
   repeat' split
   all_goals simp
  unfold bN df at*
  generalize c.ay[i]=x at*
  generalize aw c.ae=L1 at*
  generalize c.aA.map dm=L2 at*
  generalize c.ay.map bU=L3 at*
  rw [hsz] at*
  obtain ⟨Y1,hY1⟩: ∃Y,Y=fk x.level++32::(aQ x.title++ [10]):=⟨_,rfl⟩;obtain ⟨Y2,hY2⟩: ∃Y,Y=Y1++([109,97,114,107,32]++(aQ x.mark++ [10])):=⟨_,rfl⟩;have hY1l:Y1.length≤264:=by rw [hY1];simp;omega
  have hbs:shut 2 [.var 26 [.ak c.ln c.lz L1,.ak c.bn c.bz L2,.ak c.sn 6 L3],.var 73 [.int .i64 x.unit,.int .i64 x.par,.int .i64 x.level,.str x.mark,.str x.title,.ak x.fn x.fz (x.facts.map fV)]]=true:=by simp [shut,av,AV.under]
  have hw1:=gh (fL (bs:= [.var 26 [.ak c.ln c.lz L1,.ak c.bn c.bz L2,.ak c.sn 6 L3],.var 73 [.int .i64 x.unit,.int .i64 x.par,.int .i64 x.level,.str x.mark,.str x.title,.ak x.fn x.fz (x.facts.map fV)]]) hbs (a:= .bG) (.inl rfl) []) (fk x.level++32::(aQ x.title++ [10])) (by simp) (by simp;omega);have hw2:=gh (fL (bs:= [.var 26 [.ak c.ln c.lz L1,.ak c.bn c.bz L2,.ak c.sn 6 L3],.var 73 [.int .i64 x.unit,.int .i64 x.par,.int .i64 x.level,.str x.mark,.str x.title,.ak x.fn x.fz (x.facts.map fV)]]) hbs (a:= .ptr 2 0) (.inr rfl) Y1) ([109,97,114,107,32]++(aQ x.mark++ [10])) (by omega) (by simp;omega);rw [gV,List.nil_append] at hw1;replace hw1:aq cfg 126 [.ptr 2 0,.str (fk x.level++32::(aQ x.title++ [10]))] (aV [.var 26 [.ak c.ln c.lz L1,.ak c.bn c.bz L2,.ak c.sn 6 L3],.var 73 [.int .i64 x.unit,.int .i64 x.par,.int .i64 x.level,.str x.mark,.str x.title,.ak x.fn x.fz (x.facts.map fV)]] .bG [])=some (.aI [.int .i64 ((fk x.level++32::(aQ x.title++ [10])).length:Nat),.fG false],aV [.var 26 [.ak c.ln c.lz L1,.ak c.bn c.bz L2,.ak c.sn 6 L3],.var 73 [.int .i64 x.unit,.int .i64 x.par,.int .i64 x.level,.str x.mark,.str x.title,.ak x.fn x.fz (x.facts.map fV)]] (.ptr 2 0) Y1):=by rw [hY1];exact hw1
  rw [gV,←hY2] at hw2;have hY2l:Y2.length≤1000:=by rw [hY2];simp;omega
  simp only [aV,List.cons_append,List.nil_append,List.length_nil,List.map_nil,List.length_cons,Nat.zero_add,Nat.reduceAdd] at hw1 hw2;simp (maxSteps:=9^9) (disch:=omega) [-List.map_replicate,-List.map_set,-List.getD_eq_getElem?_getD,-getElem?_pos,-getElem?_neg,om,ML,h1,h2,cC,hg,hEl,hi,af,hw,ht,hm,hw1,hw2];have hCHl:(aD (ar c.ae aa) x.facts).length≤32:=Nat.le_trans (jd _ _) hso.MF;have hE: ∀k (h:k<(aD (ar c.ae aa) x.facts).length),((aD (ar c.ae aa) x.facts).map fV)[k]?=some (.agg [.int .i64 (aD (ar c.ae aa) x.facts)[k].el,.str (aD (ar c.ae aa) x.facts)[k].aa,.str (aD (ar c.ae aa) x.facts)[k].text]):=fun k h=>get_map _ _ h;have hF: ∀k (h:k<(aD (ar c.ae aa) x.facts).length),E1 c.ae (aD (ar c.ae aa) x.facts)[k]:=fun k h=>hso.facts _ (gi (List.getElem_mem h));have hEl2:((aD (ar c.ae aa) x.facts).map fV).length=(aD (ar c.ae aa) x.facts).length:=by simp
  have hT:AY Lib.itoa aQ (fk x.level) x.title x.mark (aD (ar c.ae aa) x.facts)=Y2++(aD (ar c.ae aa) x.facts).flatMap fun f=>Lib.itoa f.el++ [32]++aQ f.text++ [10]:=by rw [hY2,hY1];simp [AY,kv]
  have hY2n:Y2≠ []:=by rw [hY2];simp
  generalize aD (ar c.ae aa) x.facts=CH at*
  generalize hTT:AY Lib.itoa aQ (fk x.level) x.title x.mark CH=TT at*
  generalize CH.map fV=CA at*
  clear hw1 hw2 hY1 hY2 hg h1 h2 hw ht hm hTT
  refine Wp.aX (fun (a:Nat×ag)=>CH.length-a.1) (fun a=> [none,none,none,none,none,none,none,some (.ptr 2 0),none,none,none,none,none,none,none,some (.ak nl z CA),some (.int .i64 CH.length),some (.int .i64 a.1),none,none,none,none,none]) (fun a=> [.var 26 [.ak c.ln c.lz L1,.ak c.bn c.bz L2,.ak c.sn 6 L3],.var 73 [.int .i64 x.unit,.int .i64 x.par,.int .i64 x.level,.str x.mark,.str x.title,.ak x.fn x.fz (x.facts.map fV)],.var 159 [.ptr 2 0,.az 3 a.2.length],.sl ⟨false,some 5,none⟩ 1 (a.2.map ah)])
   (fun a=>(TT=a.2++(CH.drop a.1).flatMap fun f=>Lib.itoa f.el++ [32]++aQ f.text++ [10])∧a.1≤CH.length∧a.2.length≤1000+20000*a.1∧a.2≠ []) ?_ (0,Y2) ⟨by simpa using hT,by simp,by simp;omega,hY2n⟩ (by simp) (by simp)
  rintro ⟨k,out⟩ ⟨hk1,hkl,hol,hon⟩;simp only at hk1 hkl hol hon⊢;rw [hk1];by_cases h3:k<CH.length
  ·have hgk:=hE k h3;have hfk:=hF k h3;obtain rfl:=h2z (ne_of_lt h3);rw [List.drop_eq_getElem_cons h3,List.flatMap_cons] at hk1⊢;clear hE hF;generalize CH[k]=f at*
   have hel:=sT f.text (by have:=hfk.len;omega);have hetl:=iV f.text;have hfl:=hfk.len;have hitl:=Lib.itoa_length_le f.el (by have:=hfk.PH;omega) (by have:=hfk.PI;omega);have hid1: -9223372036854775808≤f.el:=by have:=hfk.PH;omega
   have hid2:f.el≤9223372036854775807:=by have:=hfk.PI;omega
   obtain ⟨Y3,hY3⟩: ∃Y,Y=out++(Lib.itoa f.el++32::(aQ f.text++ [10])):=⟨_,rfl⟩;have hw3:=gh (CO (bs:= [.var 26 [.ak c.ln c.lz L1,.ak c.bn c.bz L2,.ak c.sn 6 L3],.var 73 [.int .i64 x.unit,.int .i64 x.par,.int .i64 x.level,.str x.mark,.str x.title,.ak x.fn x.fz (x.facts.map fV)]]) (l:= [.var 79 [.int .i64 f.el,.str f.aa,.str f.text]]) hbs (fun m=>rfl) (a:= .ptr 2 0) (.inr rfl) out) (Lib.itoa f.el++32::(aQ f.text++ [10])) (by omega) (by simp;omega);rw [CP,←hY3] at hw3;have hY3l:Y3.length≤1000+20000*(k+1):=by rw [hY3];simp;omega
   have hY3n:Y3≠ []:=by rw [hY3];simp
   have hk2:out++((Lib.itoa f.el++ [32]++aQ f.text++ [10])++(CH.drop (k+1)).flatMap fun f=>Lib.itoa f.el++ [32]++aQ f.text++ [10])=Y3++(CH.drop (k+1)).flatMap fun f=>Lib.itoa f.el++ [32]++aQ f.text++ [10]:=by rw [hY3];simp
   rw [hk2] at hk1⊢;rw [←hk1];simp only [aV,List.cons_append,List.nil_append,List.length_nil,List.length_cons,Nat.zero_add,Nat.reduceAdd] at hw3;generalize hit:Lib.itoa f.el=it at*
   clear hY3 hk2;simp (maxSteps:=9^9) (disch:=omega) [-List.map_replicate,-List.map_set,-List.getD_eq_getElem?_getD,-getElem?_pos,-getElem?_neg,om,h3,hgk,af,rj,hid1,hid2,hit,hel,hw3];exact ⟨k+1,Y3,⟨by rw [hk1];simp,by omega,by omega,hY3n⟩,by omega,by omega,rfl,rfl⟩
  ·rw [List.drop_eq_nil_of_le (by omega),List.flatMap_nil,List.append_nil] at hk1⊢;have hst:=nU (fL (bs:= [.var 26 [.ak c.ln c.lz L1,.ak c.bn c.bz L2,.ak c.sn 6 L3],.var 73 [.int .i64 x.unit,.int .i64 x.par,.int .i64 x.level,.str x.mark,.str x.title,.ak x.fn x.fz (x.facts.map fV)]]) hbs (a:= .ptr 2 0) (.inr rfl) out) (by omega) hon;simp only [aV,List.cons_append,List.nil_append,List.length_nil,List.length_cons,Nat.zero_add,Nat.reduceAdd] at hst;simp (maxSteps:=9^9) (disch:=omega) [-List.map_replicate,-List.map_set,-List.getD_eq_getElem?_getD,-getElem?_pos,-getElem?_neg,om,h3,hst]
theorem q9 (c:Ct) (hc:c.ok) (root:Int) (aa:ag) (x:Int×Int) (hr:bo c aa=true):aq cfg 41 [bN c,.int .i64 root,.str aa,.agg [.int .i64 x.1,.int .i64 x.2]] []=some (.str (vL Lib.itoa aQ c aa root x), []):=by
 have hk:gf c=0:=by unfold bo at hr;simp at hr;exact hr.1
 have h1:=vX c hc root x.2;have h2:=Jb c hc x.2 aa hr;have h3:=FZ c hc x.2 aa;have h4:=FY c hc x.2;rw [if_pos hk] at h1 h4;have h3e:(if x.2<1∨64<x.2∨bo c aa=false then [] else iq (ar c.ae aa) c.aA x.2 (gK Lib.itoa x.2))=(if x.2<1∨64<x.2 then [] else iq (ar c.ae aa) c.aA x.2 (gK Lib.itoa x.2)):=by rw [hr];simp
 rw [h3e] at h3;refine ab Tt QV ?_;unfold vL
 generalize hV2:(match dD c x.2 with
  | some s=>AY Lib.itoa aQ (fk s.level) s.title s.mark (aD (ar c.ae aa) s.facts)
  | none=>([]:ag))=V2 at*
 generalize (if x.2<1∨64<x.2 then ([]:ag) else iq (ar c.ae aa) c.aA x.2 (gK Lib.itoa x.2))=V3 at*
 generalize fo Lib.itoa c root x.2=V1 at*
 generalize gg c.ay x.2=V4 at*
 clear h3e;unfold bN df at*
 generalize aw c.ae=L1 at*
 generalize c.aA.map dm=L2 at*
 generalize c.ay.map bU=L3 at*
 obtain ⟨k,u⟩:=x;simp only at*
 by_cases e1:k=1
 ·simp (maxSteps:=9^9) (disch:=omega) [-List.map_replicate,-List.map_set,-List.getD_eq_getElem?_getD,-getElem?_pos,-getElem?_neg,om,E4,e1,h1]
 by_cases e2:k=2
 ·simp (maxSteps:=9^9) (disch:=omega) [-List.map_replicate,-List.map_set,-List.getD_eq_getElem?_getD,-getElem?_pos,-getElem?_neg,om,E4,e2,h2]
  first | (cases dD c u <;> rfl) | (rw [←hV2];cases dD c u <;> rfl) | rfl
 by_cases e3:k=3
 ·simp (maxSteps:=9^9) (disch:=omega) [-List.map_replicate,-List.map_set,-List.getD_eq_getElem?_getD,-getElem?_pos,-getElem?_neg,om,E4,e3,h3]
 by_cases e4:k=4
 ·simp (maxSteps:=9^9) (disch:=omega) [-List.map_replicate,-List.map_set,-List.getD_eq_getElem?_getD,-getElem?_pos,-getElem?_neg,om,E4,e4,h4]
 simp (maxSteps:=9^9) (disch:=omega) [-List.map_replicate,-List.map_set,-List.getD_eq_getElem?_getD,-getElem?_pos,-getElem?_neg,om,E4,e1,e2,e3,e4]
theorem nj (c:Ct) (hc:c.ok) (root:Int) (aa:ag) (x:Int×Int):aq cfg 16 [bN c,.int .i64 root,.str aa,.agg [.int .i64 x.1,.int .i64 x.2]] []=some (.str (if bo c aa=true then vL Lib.itoa aQ c aa root x else []), []):=by
 refine ab Tu QW ?_;have h1:=y4 c hc aa;cases hr:bo c aa with
 | true=>
  have h2:=q9 c hc root aa x hr;rw [hr] at h1;unfold bN df at*
  generalize aw c.ae=L1 at*
  generalize c.aA.map dm=L2 at*
  generalize c.ay.map bU=L3 at*
  simp (maxSteps:=9^9) (disch:=omega) [-List.map_replicate,-List.map_set,-List.getD_eq_getElem?_getD,-getElem?_pos,-getElem?_neg,om,MM,h1,h2]
 | false=>
  rw [hr] at h1;unfold bN df at*
  generalize aw c.ae=L1 at*
  generalize c.aA.map dm=L2 at*
  generalize c.ay.map bU=L3 at*
  simp (maxSteps:=9^9) (disch:=omega) [-List.map_replicate,-List.map_set,-List.getD_eq_getElem?_getD,-getElem?_pos,-getElem?_neg,om,MM,h1]
def kF (z:Cell):AV:= .agg [.int .i64 z.1,.int .i64 z.2]
def nz (e:Cell×Nat):AV×AV×Nat:=(kF e.1,.bool true,e.2)
def mD (z:Cell):List (Cell×Nat)→Nat→Option (Nat×Cell×Nat)
 | [],_=>none
 | e::r,i=>if e.1=z then some (i,e) else mD z r (i+1)
theorem DW (z:Cell): ∀(m:List (Cell×Nat)) (i:Nat),je (bB cfg 20 28) (kF z) (m.map nz) i=some ((mD z m i).map fun p=>(p.1,nz p.2))
 | [],i=>rfl
 | e::r,i=>by
  have ih:=DW z r (i+1);have he:bB cfg 20 28 (kF z) (nz e).1=some (z.1==e.1.1&&z.2==e.1.2):=by simp (config:={maxSteps:=1000000}) (disch:=omega) [-List.map_replicate,-List.map_set,-List.getD_eq_getElem?_getD,-getElem?_pos,-getElem?_neg,wrap_i64,mM,jf,jg,gP,nz,kF]
  simp only [List.map_cons,je,he,mD];by_cases hs:e.1=z
  ·subst hs;simp
  ·have hs2:(z.1==e.1.1&&z.2==e.1.2)=false:=by
    cases h:(z.1==e.1.1&&z.2==e.1.2) with
    | false=>rfl
    | true=>simp at h;exact absurd (Prod.ext h.1.symm h.2.symm) hs
   simp only [hs2,if_neg hs];exact ih
theorem oQ (z:Cell): ∀(m:List (Cell×Nat)) (i j:Nat) (e:Cell×Nat),mD z m i=some (j,e)→i≤j∧m[j-i]?=some e∧e.1=z
 | [],i,j,e,h=>by cases h
 | x::r,i,j,e,h=>by
  simp only [mD] at h;split at h
  ·rename_i hs;cases h;exact ⟨Nat.le_refl _,by simp,hs⟩
  ·obtain ⟨h1,h2,h3⟩:=oQ z r (i+1) j e h;refine ⟨by omega,?_,h3⟩;rw [show j-i=(j-(i+1))+1 by omega];simpa using h2
def fF (m:List (Cell×Nat)) (clock:Nat) (z:Cell):List (Cell×Nat):=match mD z m 0 with
 | some _=>m
 | none=>m++ [(z,clock)]
def eR (m:List (Cell×Nat)) (clock:Nat) (z:Cell):Nat:=match mD z m 0 with
 | some _=>clock
 | none=>clock+1
theorem MN {bs:List ad} {k clock:Nat} {m:List (Cell×Nat)} (h:ad.at bs k= .mp (m.map nz) clock) (z:Cell):aO cfg (cfg.ti 82) (.cu k) (kF z) (.bool true) bs=some (.aI [],.gL k (.mp ((fF m clock z).map nz) (eR m clock z))):=by
 have hf:=DW z m 0;unfold fF eR;cases hq:mD z m 0 with
 | none=>rw [hq] at hf;unfold kF at*;simp [aO,cz,gX,iy,gj,fM,gM,h,hf,-bB,nz,kF]
 | some p=>
  obtain ⟨j,e⟩:=p;obtain ⟨_,hj,he⟩:=oQ z m 0 j e hq;rw [hq] at hf;subst he
  have hset:(m.map nz).set j (kF e.1,.bool true,e.2)=m.map nz:=by
   apply List.ext_getElem?;intro i;by_cases hi:j=i
   ·subst hi;simp only [Nat.sub_zero] at hj
    have hl:j<m.length:=by
     rcases Nat.lt_or_ge j m.length with h' | h'
     ·exact h'
     ·rw [List.getElem?_eq_none h'] at hj;cases hj
    rw [List.getElem?_set_self (by simpa using hl),List.getElem?_map,hj];rfl
   ·rw [List.getElem?_set_ne hi]
  unfold kF at*
  simp [aO,cz,gX,iy,gj,fM,gM,h,hf,-bB,nz,kF,sameKey,iu,j5,hset]
theorem uZ (z:Cell): ∀(m:List (Cell×Nat)) (i:Nat),mD z m i=none→ ∀e∈m,e.1≠z
 | [],_,_,_,h=>by cases h
 | x::r,i,h,e,he=>by
  simp only [mD] at h;split at h
  ·cases h
  ·rename_i hs;rcases List.mem_cons.mp he with rfl | he
   ·exact hs
   ·exact uZ z r (i+1) h e he
structure A0 (m:List (Cell×Nat)) (clock:Nat):Prop where
 keys:(m.map Prod.fst).Nodup
 born:(m.map Prod.snd).Nodup
 lt: ∀e∈m,e.2<clock
theorem jA {m:List (Cell×Nat)} {clock:Nat} (h:A0 m clock) (z:Cell):A0 (fF m clock z) (eR m clock z)∧ ∀y,y∈(fF m clock z).map Prod.fst↔y∈m.map Prod.fst∨y=z:=by
 unfold fF eR;cases hq:mD z m 0 with
 | some p=>
  obtain ⟨j,e⟩:=p;obtain ⟨_,hj,he⟩:=oQ z m 0 j e hq;refine ⟨h,fun y=>⟨.inl,fun hy=> ?_⟩⟩;rcases hy with hy | rfl
  ·exact hy
  ·exact List.mem_map.mpr ⟨e,List.mem_of_getElem? hj,he⟩
 | none=>
  have hn:=uZ z m 0 hq;refine ⟨⟨?_,?_,?_⟩,fun y=>by simp⟩
  ·simp only [List.map_append,List.map_cons,List.map_nil];refine List.nodup_append.mpr ⟨h.keys,by simp,fun a ha b hb=> ?_⟩;obtain ⟨e,he,rfl⟩:=List.mem_map.mp ha;simp at hb;subst hb;exact hn e he
  ·simp only [List.map_append,List.map_cons,List.map_nil];refine List.nodup_append.mpr ⟨h.born,by simp,fun a ha b hb=> ?_⟩;obtain ⟨e,he,rfl⟩:=List.mem_map.mp ha;simp at hb;subst hb;have:=h.lt e he;omega
  ·intro e he;rcases List.mem_append.mp he with he | he
   ·exact Nat.lt_succ_of_lt (h.lt e he)
   ·simp at he;subst he;simp
def aC (l:List (Cell×ag)):List AV:=l.map ky
theorem bM: ∀l:List (Cell×ag),aj (aC l)=true
 | []=>rfl
 | x::r=>by simp [aC,ky,aj,AV.plain];exact bM r
theorem nk {α β:Type} {f:α→β}: ∀{M:List α} {a b:α},(M.map f).Nodup→a∈M→b∈M→f a=f b→a=b
 | x::r,a,b,hn,ha,hb,h=>by
  rw [List.map_cons,List.nodup_cons] at hn;rcases List.mem_cons.1 ha with rfl | ha'
  ·rcases List.mem_cons.1 hb with rfl | hb'
   ·rfl
   ·exact absurd (h▸List.mem_map.mpr ⟨b,hb',rfl⟩) hn.1
  ·rcases List.mem_cons.1 hb with rfl | hb'
   ·exact absurd (h▸List.mem_map.mpr ⟨a,ha',rfl⟩) hn.1
   ·exact nk hn.2 ha' hb' h
theorem Kq: ∀(M:List (Cell×Nat)) (i:Nat) (e:Cell×Nat),e∈M→(M.map Prod.snd).Nodup→ ∃j,rD (e.2:Int) (M.map nz) i=some (j,nz e)
 | x::r,i,e,he,hn=>by
  have hn2:=hn;rw [List.map_cons,List.nodup_cons] at hn2;simp only [List.map_cons,rD];by_cases hx:x.2=e.2
  ·have hxe:=nk hn (List.mem_cons_self ..) he hx;subst hxe;exact ⟨i,by simp [nz]⟩
  ·have he:e∈r:=by
    rcases List.mem_cons.1 he with h | h
    ·exact absurd (by rw [h]) hx
    ·exact h
   obtain ⟨j,hj⟩:=Kq r (i+1) e he hn2.2;refine ⟨j,?_⟩;rw [if_neg (by simp only [nz];omega)];exact hj
theorem oR {α β:Type} [DecidableEq α] {f:α→β}: ∀{l M:List α},(l.map f).Nodup→(∀e∈l,e∈M)→l.length≤M.length
 | [],M,_,_=>by simp
 | x::r,M,hn,h=>by
  rw [List.map_cons,List.nodup_cons] at hn;have hx:=h x (List.mem_cons_self ..)
  have h2:=oR (l:=r) (M:=M.erase x) hn.2 fun e he=>(List.mem_erase_of_ne (by
   rintro rfl;exact hn.1 (List.mem_map.mpr ⟨e,he,rfl⟩))).2 (h e (List.mem_cons_of_mem _ he))
  rw [List.length_erase_of_mem hx] at h2;have:0<M.length:=List.length_pos_of_mem hx;simp only [List.length_cons];omega
theorem CQ {M:List (Cell×Nat)} {clock:Nat} (h:A0 M clock) {S:List Cell} (hS:iT S) (hM: ∀z,z∈M.map Prod.fst↔z∈S) (val:Cell→ag) {l:List (Cell×Nat)} (hl: ∀e∈l,e∈M) (hn:(l.map Prod.snd).Nodup) (hall: ∀e∈M,(l.map Prod.snd).contains e.2=true):
  ((l.map fun e=>(e.1,val e.1)).map Prod.fst).Nodup∧qi (l.map fun e=>(e.1,val e.1))=S.map fun z=>(z,val z):=by
 have hmem: ∀e∈M,e∈l:=fun e he=>by
  have h1:=hall e he;rw [List.contains_iff_mem] at h1;obtain ⟨e',h2,h3⟩:=List.mem_map.1 h1;have:=nk h.born (hl _ h2) he h3
  rwa [←this]
 have hk:(l.map Prod.fst).Nodup:=by unfold List.Nodup at hn⊢;rw [List.pairwise_map] at hn⊢;refine List.Pairwise.imp_of_mem (fun {a b} ha hb hab hf=> ?_) hn;exact hab (by rw [nk h.keys (hl _ ha) (hl _ hb) hf])
 have he:(l.map fun e=>(e.1,val e.1)).map Prod.fst=l.map Prod.fst:=by simp
 rw [he];refine ⟨hk,?_⟩;have hp:(qi (l.map fun e=>(e.1,val e.1))).Perm (l.map fun e=>(e.1,val e.1)):=by unfold qi;exact List.mergeSort_perm _ _
 refine yr hS (fun r hr=> ?_) (fun z=> ?_) ?_ ?_
 ·obtain ⟨e,_,rfl⟩:=List.mem_map.1 (hp.mem_iff.1 hr);rfl
 ·rw [←hM,(hp.map Prod.fst).mem_iff,he];constructor
  ·intro hz;obtain ⟨e,h1,rfl⟩:=List.mem_map.1 hz;exact List.mem_map.mpr ⟨e,hl _ h1,rfl⟩
  ·intro hz;obtain ⟨e,h1,rfl⟩:=List.mem_map.1 hz;exact List.mem_map.mpr ⟨e,hmem _ h1,rfl⟩
 ·rw [(hp.map Prod.fst).nodup_iff,he];exact hk
 ·rw [List.pairwise_map];unfold qi
  have hs:=List.pairwise_mergeSort (le:=fun x y:Cell×ag=> !decide (iW y.1 x.1<0)) (fun a b c h1 h2=>by
   simp only [Bool.not_eq_true',decide_eq_false_iff_not,gT] at h1 h2⊢;rw [gU] at*;omega) (fun a b=>by
   simp only [Bool.or_eq_true,Bool.not_eq_true',decide_eq_false_iff_not,gT];rw [gU,gU];omega) (l.map fun e=>(e.1,val e.1))
  refine hs.imp fun {a b} hab=> ?_;simp only [Bool.not_eq_true',decide_eq_false_iff_not,gT] at hab;exact hab
set_option maxHeartbeats 8000000
def re (t:ag) (j:Nat):List Cell:=(List.range j).filterMap fun i=>if (an (t.drop i)).2=0 then none else some (4,(an (t.drop i)).1)
theorem si (t:ag) (j:Nat) (z:Cell):z∈re t (j+1)↔z∈re t j∨((an (t.drop j)).2≠0∧z=(4,(an (t.drop j)).1)):=by
 unfold re;rw [List.range_succ,List.filterMap_append,List.mem_append];by_cases h:(an (t.drop j)).2=0
 ·simp [h]
 ·simp [h]
theorem kz (m:List (Cell×Nat)) (c:Nat) (z:Cell):(fF m c z).length≤m.length+1:=by unfold fF;split <;> simp
theorem A4 (n:Nat):dS n∘nz=nz:=by funext x;simp [dS,nz,forget,kF]
theorem sj (n:Nat) (m:List (Cell×Nat)):dC n (m.map nz)=true:=by apply rX;intro x;simp [nz,AV.under]
theorem xj (n:Int) (h1:1≤n) (h2:n≤64):Lib.itoa n=kr n.toNat:=by
 obtain ⟨k,rfl⟩:=Int.eq_ofNat_of_zero_le (show 0≤n by omega);unfold Lib.itoa kr;rw [if_neg (by omega)];simp only [Int.toNat_natCast,Int.natAbs_natCast];by_cases h:k<10
 ·rw [if_pos h,Lib.decDigits,dif_pos h]
 ·rw [if_neg h,Lib.decDigits,dif_neg h,Lib.decDigits,dif_pos (by omega)];rfl
def qj (u:Int) (CH:List Fc) (k:Nat) (M:List (Cell×Nat)):Prop:= ∀y,y∈M.map Prod.fst↔y∈(CH.take k).flatMap kx∨y=(1,u)∨y=(2,u)
def iX (M1:List (Cell×Nat)) (t:ag) (j:Nat) (M:List (Cell×Nat)):Prop:= ∀y,y∈M.map Prod.fst↔y∈M1.map Prod.fst∨y∈re t j
theorem iX.start (M1:List (Cell×Nat)) (t:ag):iX M1 t 0 M1:=fun y=>by simp [re]
theorem iX.skip {M1 M:List (Cell×Nat)} {t:ag} {j:Nat} (h:iX M1 t j M) (h0:(an (t.drop j)).2=0):iX M1 t (j+1) M:=fun y=>by
 rw [h y,si];constructor
 ·rintro (q | q)
  ·exact .inl q
  ·exact .inr (.inl q)
 ·rintro (q | q | q)
  ·exact .inl q
  ·exact .inr q
  ·exact absurd h0 q.1
theorem iX.put {M1 M M':List (Cell×Nat)} {t:ag} {j:Nat} (h:iX M1 t j M) (h0:(an (t.drop j)).2≠0) (hm: ∀y,y∈M'.map Prod.fst↔y∈M.map Prod.fst∨y=(4,(an (t.drop j)).1)):iX M1 t (j+1) M':=fun y=>by
 rw [hm y,h y,si];constructor
 ·rintro ((q | q) | q)
  ·exact .inl q
  ·exact .inr (.inl q)
  ·exact .inr (.inr ⟨h0,q⟩)
 ·rintro (q | q | q)
  ·exact .inl (.inl q)
  ·exact .inl (.inr q)
  ·exact .inr q.2
theorem qj.next {u:Int} {CH:List Fc} {k:Nat} (hk:k<CH.length) {M M1 M2:List (Cell×Nat)} (h:qj u CH k M) (h1: ∀y,y∈M1.map Prod.fst↔y∈M.map Prod.fst∨y=(3,CH[k].el)) (h2:iX M1 CH[k].text CH[k].text.length M2):qj u CH (k+1) M2:=fun y=>by
 have hc:re CH[k].text CH[k].text.length=q8 CH[k].text:=rfl;rw [h2 y,h1 y,h y,hc,sW CH hk,List.flatMap_append,List.mem_append];have:y∈ [CH[k]].flatMap kx↔y=(3,CH[k].el)∨y∈q8 CH[k].text:=by simp [kx]
 rw [this];constructor
 ·rintro (((q | q | q) | q) | q)
  ·exact .inl (.inl q)
  ·exact .inr (.inl q)
  ·exact .inr (.inr q)
  ·exact .inl (.inr (.inl q))
  ·exact .inl (.inr (.inr q))
 ·rintro ((q | q | q) | q | q)
  ·exact .inl (.inl (.inl q))
  ·exact .inl (.inr q)
  ·exact .inr q
  ·exact .inl (.inl (.inr (.inl q)))
  ·exact .inl (.inl (.inr (.inr q)))
theorem E5 (c:Ct) (hc:c.ok) (root u:Int) (aa:ag) (h0:iv c root aa=0) (h1:fo Lib.itoa c root u≠ []):
  aq cfg 12 [bN c,.int .i64 root,.str aa,.int .i64 u] []=some (.aI [.ak none 3 (((cellsOf u (bQ c u aa)).map fun z=>(z,vL Lib.itoa aQ c aa root z)).map ky),.int .i64 0], []):=by
 have hr:=lx h0;have hk:gf c=0:=by unfold bo at hr;simp at hr;exact hr.1
 have hok:=fY hk;have w1:=kJ c hc root aa;have w2:=vX c hc root u;rw [if_pos hk] at w2;obtain ⟨nl,z,w3,hz⟩:=v7 c hc u aa;have wv: ∀x:Cell,_:=fun x=>q9 c hc root aa x hr;rw [h0,if_pos rfl] at w1
 have hF: ∀f∈bQ c u aa,E1 c.ae f:=by
  intro f hf;unfold bQ at hf;rw [if_pos hr] at hf;have hf:=gi hf;unfold n9 at hf;cases hs:dD c u with
  | none=>rw [hs] at hf;cases hf
  | some s=>rw [hs] at hf;obtain ⟨_,_,_,_,hm⟩:=sf hs;exact (hok.ay s hm).facts f hf
 have hFl:(bQ c u aa).length≤32:=by
  unfold bQ;rw [if_pos hr];refine Nat.le_trans (jd _ _) ?_;unfold n9;cases hs:dD c u with
  | none=>simp
  | some s=>obtain ⟨_,_,_,_,hm⟩:=sf hs;exact (hok.ay s hm).MF
 have hS:=AT u (bQ c u aa);have hM: ∀z,z∈cellsOf u (bQ c u aa)↔_:=fun z=>AU (z:=z);generalize cellsOf u (bQ c u aa)=S at*
 generalize hval:vL Lib.itoa aQ c aa root=val at*
 refine ab Tv QX ?_;have hE: ∀k (h:k<(bQ c u aa).length),((bQ c u aa).map fV)[k]?=some (.agg [.int .i64 (bQ c u aa)[k].el,.str (bQ c u aa)[k].aa,.str (bQ c u aa)[k].text]):=fun k h=>get_map _ _ h;have hEl:((bQ c u aa).map fV).length=(bQ c u aa).length:=by simp
 generalize bQ c u aa=CH at*
 generalize CH.map fV=CA at*
 generalize fo Lib.itoa c root u=nm at*
 have hnm:decide (nm≠ [])=true:=by simpa using h1
 rw [hnm] at w2;unfold FV at w1;generalize (fp Lib.itoa c root aa).map cD=AS at*
 clear hk hok h0 h1 hr hnm hval;have u0: ∀x y (M:List (Cell×Nat)) ck l z1,aO cfg (cfg.ti 82) (.cu 2) (.agg [.int .i64 z1,.int .i64 u]) (.bool true) (x::y:: .mp (M.map nz) ck::l)=some (.aI [],.gL 2 (.mp ((fF M ck (z1,u)).map nz) (eR M ck (z1,u)))):=fun x y M ck l z1=>MN (by rfl) (z1,u);have u1: ∀x y (M:List (Cell×Nat)) ck l z1 z2,aO cfg (cfg.ti 82) (.cu 2) (.agg [.int .i64 z1,.int .i64 z2]) (.bool true) (x::y:: .mp (M.map nz) ck::l)=some (.aI [],.gL 2 (.mp ((fF M ck (z1,z2)).map nz) (eR M ck (z1,z2)))):=fun x y M ck l z1 z2=>MN (by rfl) (z1,z2);have u2: ∀x y ck l z1 z2,aO cfg (cfg.ti 82) (.cu 2) (.agg [.int .i64 z1,.int .i64 z2]) (.bool true) (x::y:: .mp [] ck::l)=some (.aI [],.gL 2 (.mp ((fF [] ck (z1,z2)).map nz) (eR [] ck (z1,z2)))):=fun x y ck l z1 z2=>MN (m:= []) (by rfl) (z1,z2);simp only [QY] at u1 u2;clear u0;unfold bN df at*
 generalize aw c.ae=L1 at*
 generalize c.aA.map dm=L2 at*
 generalize c.ay.map bU=L3 at*
 have m0:A0 [] 0:=⟨by simp,by simp,by simp⟩;have i1:=jA (jA m0 (1,u)).1 (2,u);have i2:=jA (jA m0 (2,u)).1 (1,u)
 have i3: ∀y,y∈(fF (fF [] 0 (1,u)) (eR [] 0 (1,u)) (2,u)).map Prod.fst↔y=(1,u)∨y=(2,u):=fun y=>by
  rw [i1.2,(jA m0 (1,u)).2];simp
 have i4: ∀y,y∈(fF (fF [] 0 (2,u)) (eR [] 0 (2,u)) (1,u)).map Prod.fst↔y=(1,u)∨y=(2,u):=fun y=>by
  rw [i2.2,(jA m0 (2,u)).2];simp [or_comm]
 have i5:(fF (fF [] 0 (1,u)) (eR [] 0 (1,u)) (2,u)).length≤2:=by have:=kz (fF [] 0 (1,u)) (eR [] 0 (1,u)) (2,u);have:=kz [] 0 (1,u);simp at this;omega
 have i6:(fF (fF [] 0 (2,u)) (eR [] 0 (2,u)) (1,u)).length≤2:=by have:=kz (fF [] 0 (2,u)) (eR [] 0 (2,u)) (1,u);have:=kz [] 0 (2,u);simp at this;omega
 replace i1:=i1.1;replace i2:=i2.1;clear m0;simp (maxSteps:=9^9) (disch:=omega) [-List.map_replicate,-List.map_set,-List.getD_eq_getElem?_getD,-getElem?_pos,-getElem?_neg,om,QZ,w1,w2,w3,hEl,af,jY,u1,u2,A4,sj];refine ⟨?_,?_⟩
 case' refine_1=>
  generalize fF (fF [] 0 (1,u)) (eR [] 0 (1,u)) (2,u)=M0 at*
  generalize eR (fF [] 0 (1,u)) (eR [] 0 (1,u)) (2,u)=ck0 at*
  clear i2 i4 i6
  rename A0 M0 ck0=>j1
  rename (∀y,y∈M0.map Prod.fst↔y=(1,u)∨y=(2,u))=>j2
  rename M0.length≤2=>j3
 case' refine_2=>
  generalize fF (fF [] 0 (2,u)) (eR [] 0 (2,u)) (1,u)=M0 at*
  generalize eR (fF [] 0 (2,u)) (eR [] 0 (2,u)) (1,u)=ck0 at*
  clear i1 i3 i5
  rename A0 M0 ck0=>j1
  rename (∀y,y∈M0.map Prod.fst↔y=(1,u)∨y=(2,u))=>j2
  rename M0.length≤2=>j3
 all_goals
  clear w1 w2 w3
  refine Wp.aX (fun (a:Nat×List (Cell×Nat)×Nat)=>CH.length-a.1) (fun a=> [none,some (.int .i64 root),some (.str aa),none,some (.ptr 0 0),none,none,none,none,none,some (.cu 2),none,none,none,none,none,none,none,none,none,none,none,none,none,some (.ak nl z CA),some (.int .i64 CH.length),some (.int .i64 a.1),none,none,none,none,none,none,none,none,none,none,none,none,none,none,none,none,none,none]) (fun a=> [.var 26 [.ak c.ln c.lz L1,.ak c.bn c.bz L2,.ak c.sn c.sz L3],.var 41 [.int .i64 root,.str aa,.ak none 3 AS],.mp (a.2.1.map nz) a.2.2])
   (fun a=>A0 a.2.1 a.2.2∧qj u CH a.1 a.2.1∧a.2.1.length≤2+5000*a.1∧a.1≤CH.length) ?_ (0,M0,ck0) ⟨j1,fun y=>by rw [j2 y];simp,by simpa using j3,by simp⟩ (by simp) rfl
  rintro ⟨k,M,ck⟩ ⟨q1,q2,q3,q4⟩;simp only at q1 q2 q3 q4⊢;by_cases h3:k<CH.length
  ·have hgk:=hE k h3;have hfk:=hF _ (List.getElem_mem h3);obtain rfl:=hz (ne_of_lt h3);have hnx:=fun M1 M2=>qj.next (M1:=M1) (M2:=M2) h3 q2;clear hE;generalize CH[k]=f at*
   obtain ⟨p1,p2⟩:=jA q1 (3,f.el);have p3:=kz M ck (3,f.el);simp (maxSteps:=9^9) (disch:=omega) [-List.map_replicate,-List.map_set,-List.getD_eq_getElem?_getD,-getElem?_pos,-getElem?_neg,om,h3,hgk,af,u1,A4,sj];generalize fF M ck (3,f.el)=M1 at*
   generalize eR M ck (3,f.el)=ck1 at*
   refine Wp.aX (fun (a:Nat×List (Cell×Nat)×Nat)=>f.text.length-a.1) (fun a=> [none,some (.int .i64 root),some (.str aa),none,some (.ptr 0 0),none,none,none,none,none,some (.cu 2),some (.ptr 3 0),none,none,none,none,none,none,none,none,none,none,none,none,some (.ak nl 3 CA),some (.int .i64 CH.length),some (.int .i64 k),none,none,none,some (.int .i64 f.text.length),some (.int .i64 a.1),none,none,none,none,none,none,none,none,none,none,none,none,none]) (fun a=> [.var 26 [.ak c.ln c.lz L1,.ak c.bn c.bz L2,.ak c.sn c.sz L3],.var 41 [.int .i64 root,.str aa,.ak none 3 AS],.mp (a.2.1.map nz) a.2.2,.var 79 [.int .i64 f.el,.str f.aa,.str f.text]])
    (fun a=>A0 a.2.1 a.2.2∧iX M1 f.text a.1 a.2.1∧a.2.1.length≤M1.length+a.1∧a.1≤f.text.length) ?_ (0,M1,ck1) ⟨p1,iX.start _ _,by simp,by simp⟩ (by simp) rfl
   rintro ⟨j,M2,ck2⟩ ⟨r1,r2,r3,r4⟩;simp only at r1 r2 r3 r4⊢;have hfl:=hfk.len;by_cases h4:j<f.text.length
   ·have hne:f.text.drop j≠ []:=by simp;omega
    have hct:=yV (f.text.drop j) hne;rw [sc hne] at hct;unfold oT at hct;have htl:(f.text.take f.text.length).drop j=f.text.drop j:=by rw [List.take_length]
    by_cases h5:(an (f.text.drop j)).2=0
    ·have r5:=r2.skip h5;rw [h5] at hct;generalize (an (f.text.drop j)).1=pu at*
     clear q2 hnx p2 r2;simp (maxSteps:=9^9) (disch:=omega) [-List.map_replicate,-List.map_set,-List.getD_eq_getElem?_getD,-getElem?_pos,-getElem?_neg,om,h4,hct,htl,A4,sj];exact ⟨j+1,M2,ck2,⟨r1,r5,by omega,by omega⟩,by omega,by simp,rfl,rfl⟩
    ·obtain ⟨t1,t2,t3,t4,t5⟩:=(dh (f.text.drop j)).resolve_left (fun h=>h5 (by rw [h]));have h6:0<(an (f.text.drop j)).2:=by omega
     obtain ⟨o1,o2⟩:=jA r1 (4,(an (f.text.drop j)).1);have r5:=r2.put h5 o2;have o3:=kz M2 ck2 (4,(an (f.text.drop j)).1);generalize (an (f.text.drop j)).1=pu at*
     generalize (an (f.text.drop j)).2=pn at*
     clear q2 hnx p2 r2 o2;simp (maxSteps:=9^9) (disch:=omega) [-List.map_replicate,-List.map_set,-List.getD_eq_getElem?_getD,-getElem?_pos,-getElem?_neg,om,h4,hct,htl,h6,af,u1,A4,sj];exact ⟨j+1,fF M2 ck2 (4,pu),eR M2 ck2 (4,pu),⟨o1,r5,by omega,by omega⟩,by omega,by simp,rfl,rfl⟩
   ·obtain rfl:j=f.text.length:=by omega
    have r5:=hnx M1 M2 p2 r2;clear q2 hnx p2 r2;simp (maxSteps:=9^9) (disch:=omega) [-List.map_replicate,-List.map_set,-List.getD_eq_getElem?_getD,-getElem?_pos,-getElem?_neg,om,A4,sj];exact ⟨k+1,M2,ck2,⟨r1,r5,by omega,by omega⟩,by omega,by simp,rfl,rfl⟩
  ·obtain rfl:k=CH.length:=by omega
   have hKS: ∀z,z∈M.map Prod.fst↔z∈S:=fun z=>by
    rw [hM z];have:=q2 z
    rwa [List.take_length] at this
   obtain ⟨e1,he1⟩: ∃e,e∈M:=by have:((1,u):Cell)∈M.map Prod.fst:=(hKS _).2 ((hM _).2 (.inr (.inl rfl)));obtain ⟨e,he,_⟩:=List.mem_map.1 this;exact ⟨e,he⟩
   have hsr:=fun l=>CQ q1 hS hKS val (l:=l);have hb:=fun e he=>Kq M 0 e he q1.born;clear hE hF q2 hM hKS hS q1;simp (maxSteps:=9^9) (disch:=omega) [-List.map_replicate,-List.map_set,-List.getD_eq_getElem?_getD,-getElem?_pos,-getElem?_neg,om,A4,sj,kN]
   refine Wp.aX (fun (l:List (Cell×Nat))=>M.length-l.length) (fun l=> [none,some (.int .i64 root),some (.str aa),none,some (.ptr 0 0),none,none,none,none,none,none,none,none,none,none,some (.az 4 l.length),none,none,none,none,none,none,none,none,none,none,none,none,none,none,none,none,none,none,none,none,some (.jZ 3),none,none,none,none,none,none,none,none]) (fun l=> [.var 26 [.ak c.ln c.lz L1,.ak c.bn c.bz L2,.ak c.sn c.sz L3],.var 41 [.int .i64 root,.str aa,.ak none 3 AS],.mp (M.map nz) ck,.iter (.map 2 (l.map Prod.snd) ck),.sl ⟨false,some 57,none⟩ 3 (l.map fun e=>ky (e.1,val e.1))])
    (fun l=>(∀e∈l,e∈M)∧(l.map Prod.snd).Nodup) ?_ [] ⟨by simp,by simp⟩ (by simp) (by simp)
   rintro l ⟨l1,l2⟩;have hll:l.length≤M.length:=oR l2 l1;simp only [LH];refine Wp.zw (i:=3) (m:=2) (clock:=ck) (seen:=l.map Prod.snd) (es:=M.map nz) rfl rfl rfl ?_ ?_
   ·intro hall;have hall2: ∀e∈M,(l.map Prod.snd).contains e.2=true:=fun e he=>hall (nz e) (List.mem_map.mpr ⟨e,he,rfl⟩);obtain ⟨s1,s2⟩:=hsr l l1 l2 hall2
    have hl0:l≠ []:=by rintro rfl;have:=hall2 e1 he1;simp at this
    clear hall hall2 hsr hb;have hrd:=xk (l.map fun e=>(e.1,val e.1));rw [List.map_map] at hrd;have hmm:(ky∘fun e:Cell×Nat=>(e.1,val e.1))=fun e=>ky (e.1,val e.1):=rfl;rw [hmm] at hrd;have hrl:(l.map fun e=>(e.1,val e.1)).length=l.length:=by simp
    have hrn:(l.map fun e=>(e.1,val e.1))≠ []:=by simpa using hl0
    have hEE:(l.map fun e=>ky (e.1,val e.1)).length=l.length:=by simp
    have hSl:(S.map fun z=>(z,val z)).length=l.length:=by rw [←s2];simp [qi]
    generalize hR:(l.map fun e=>(e.1,val e.1))=R at*
    generalize hS2:(S.map fun z=>(z,val z))=S2 at*
    generalize (l.map fun e=>ky (e.1,val e.1))=EE at*
    have hg:sU [.az 4 l.length,.fn 43 [] []] [.var 26 [.ak c.ln c.lz L1,.ak c.bn c.bz L2,.ak c.sn c.sz L3],.var 41 [.int .i64 root,.str aa,.ak none 3 AS],.mp (M.map nz) ck,.iter (.map 2 (l.map Prod.snd) ck),.sl ⟨false,some 57,none⟩ 3 EE]=some (.aI [], [.var 26 [.ak c.ln c.lz L1,.ak c.bn c.bz L2,.ak c.sn c.sz L3],.var 41 [.int .i64 root,.str aa,.ak none 3 AS],.mp (M.map nz) ck,.iter (.map 2 (l.map Prod.snd) ck),.sl ⟨false,some 57,none⟩ 3 (S2.map ky)]):=by
     have hm1:l.length<1000000:=by omega
     simp [sU,ad.at,hrd,hrl,hrn,hm1,s1,s2]
    clear hrd hmm s1 s2 hR;have hSm:(S2.map ky).length=l.length:=by rw [List.length_map];exact hSl
    generalize hS3:S2.map ky=S3 at*
    simp (maxSteps:=9^9) (disch:=omega) [-List.map_replicate,-List.map_set,-List.getD_eq_getElem?_getD,-getElem?_pos,-getElem?_neg,om,A4,sj,hg,hEE,hSm];rw [←hS3,←hS2,List.map_map]
   ·intro e he hn;obtain ⟨e0,he0,rfl⟩:=List.mem_map.1 he;obtain ⟨j,hj⟩:=hb e0 he0;have hv:=wv e0.1;clear hsr hb he wv;obtain ⟨⟨z1,z2⟩,n⟩:=e0;replace hj:rD (n:Int) (M.map nz) 0=some (j,(.agg [.int .i64 z1,.int .i64 z2],.bool true,n)):=hj;simp only at hv;have hEE:(l.map fun e=>ky (e.1,val e.1)).length=l.length:=by simp
    simp (maxSteps:=9^9) (disch:=omega) [-List.map_replicate,-List.map_set,-List.getD_eq_getElem?_getD,-getElem?_pos,-getElem?_neg,om,A4,sj,nz,kF,lR,hj,hv,hEE,af]
    have hsub: ∀e∈l++ [((z1,z2),n)],e∈M:=fun e hm=>by
     rcases List.mem_append.1 hm with hm | hm
     ·exact l1 _ hm
     ·rw [List.mem_singleton] at hm;rw [hm];exact he0
    have hnd:((l++ [((z1,z2),n)]).map Prod.snd).Nodup:=by rw [List.map_append];refine List.nodup_append.mpr ⟨l2,by simp,fun a ha b hb=> ?_⟩;simp only [List.map_cons,List.map_nil,List.mem_singleton] at hb;rintro rfl;have hn2:(l.map Prod.snd).contains n=false:=hn;rw [hb] at ha;rw [←List.contains_iff_mem,hn2] at ha;cases ha
    have hle:=oR hnd hsub;rw [List.length_append,List.length_singleton] at hle;refine ⟨l++ [((z1,z2),n)],⟨fun a b q hm=>hsub _ hm,hnd⟩,?_,by simp,by simp,by simp [ky]⟩;rw [List.length_append,List.length_singleton];omega
set_option maxHeartbeats 4000000
theorem index_one (c:UInt8): ∀s:ag,Lib.index s [c]=Lib.indexByte s c
 | []=>rfl
 | b::l=>by
  simp only [Lib.index,Lib.indexByte,index_one c l,List.isPrefixOf,Bool.and_true];by_cases h:b=c
  ·subst h;simp
  ·simp [h,Ne.symm h]
theorem E6 (s:ag) (c:UInt8) (h2:s.length<100000000):aq cfg 125 [.str s,.str [c]] []=some (.int .i64 (Lib.indexByte s c), []):=by
 have hi:s.length<4294967281:=by omega
 refine ab Q0 MO ?_;simp (maxSteps:=9^9) (disch:=omega) [-List.map_replicate,-List.map_set,-List.getD_eq_getElem?_getD,-getElem?_pos,-getElem?_neg,om,Kr,A5,hi,index_one]
theorem E7 (s:ag) (c:UInt8):aq cfg 65 [.str s,.str [c]] []=some (.int .i64 (s.count c), []):=by refine ab Pz JR ?_;simp (maxSteps:=9^9) (disch:=omega) [-List.map_replicate,-List.map_set,-List.getD_eq_getElem?_getD,-getElem?_pos,-getElem?_neg,om,Lf,xA,Lib.countByte]
def E8 (s:ag):AV:=match de s with
 | some (a,b)=> .aI [.str a,.str b,.bool true]
 | none=> .aI [.str s,.str [],.bool false]
theorem nN: ∀s:ag,Lib.indexByte s 32=(match de s with
   | some (a,_)=>(a.length:Int)
   | none=> -1)
 | []=>rfl
 | c::r=>by
  have ih:=nN r;simp only [Lib.indexByte,de];by_cases h:c=32
  ·subst h;simp
  ·have h':(c==32)=false:=by simpa using h
   rw [if_neg h,h',ih];cases de r with
   | none=>rfl
   | some p=>
    have hne:(((p.1.length:Int))== -1)=false:=by rw [beq_eq_false_iff_ne];omega
    simp [hne]
theorem CR (s:ag) (hs:s.length<1000000):aq cfg 119 [.str s,.str [32]] []=some (E8 s, []):=by
 have h:aq cfg 162 [.str s,.str [32]] []=some (E8 s, []):=by
  have hi:s.length<4294967281:=by omega
  refine ab Q1 MP ?_;have hx:=index_one 32 s;rw [nN] at hx;unfold E8;cases hc:de s with
  | none=>rw [hc] at hx;simp (maxSteps:=9^9) (disch:=omega) [-List.map_replicate,-List.map_set,-List.getD_eq_getElem?_getD,-getElem?_pos,-getElem?_neg,om,Hc,A5,hi,hx]
  | some p=>
   obtain ⟨a,b⟩:=p;rw [hc] at hx;simp only at hx;obtain ⟨h1,_⟩:=dU hc;have ht:s.take a.length=a:=by rw [h1];exact List.take_left' rfl
   have hl:s.length=a.length+1+b.length:=by rw [h1];simp;omega
   have hd:(s.take s.length).drop (a.length+1)=b:=by rw [List.take_length,h1,List.drop_append,List.drop_of_length_le (by omega)];simp
   rw [hl] at hd hi;clear h1 hc;simp (maxSteps:=9^9) (disch:=omega) [-List.map_replicate,-List.map_set,-List.getD_eq_getElem?_getD,-getElem?_pos,-getElem?_neg,om,Hc,A5,hi,hx,ht,hd,hl]
 refine ab Q2 MQ ?_;unfold E8 at h⊢;cases hc:de s with
 | none=>rw [hc] at h;simp (maxSteps:=9^9) (disch:=omega) [-List.map_replicate,-List.map_set,-List.getD_eq_getElem?_getD,-getElem?_pos,-getElem?_neg,om,He,h]
 | some p=>rw [hc] at h;simp (maxSteps:=9^9) (disch:=omega) [-List.map_replicate,-List.map_set,-List.getD_eq_getElem?_getD,-getElem?_pos,-getElem?_neg,om,He,h]
theorem qk (s:ag) (hs:s.length<1000000):aq cfg 159 [.str s,.str [10]] []=some (.bool (decide (s.getLast?=some 10)), []):=by
 refine ab Q3 MR ?_;rcases List.eq_nil_or_concat s with rfl | ⟨u,x,rfl⟩
 ·simp (maxSteps:=9^9) (disch:=omega) [-List.map_replicate,-List.map_set,-List.getD_eq_getElem?_getD,-getElem?_pos,-getElem?_neg,om,Hf]
 ·have hl:(u++ [x]).length=u.length+1:=by simp
  have hd:((u++ [x]).take (u.length+1)).drop u.length= [x]:=by rw [List.take_of_length_le (by simp),List.drop_left' rfl]
  have hd2:(u++ [x]).drop u.length= [x]:=List.drop_left' rfl;have hg:decide ((u++ [x]).getLast?=some 10)=(x==10):=by simp;rfl
  have e1:((u.length:Int)+1-1).toNat=u.length:=by omega
  rw [List.concat_eq_append] at*
  rw [hg];generalize u++ [x]=s at*
  simp (maxSteps:=9^9) (disch:=omega) [-List.map_replicate,-List.map_set,-List.getD_eq_getElem?_getD,-getElem?_pos,-getElem?_neg,om,Hf,hl,hd,hd2,e1]
theorem Hg (s:ag) (hs:s.length<1000000):aq cfg 116 [.str s,.str [10]] []=some (.bool (decide (s.getLast?=some 10)), []):=by refine ab Q4 MS ?_;simp (maxSteps:=9^9) (disch:=omega) [-List.map_replicate,-List.map_set,-List.getD_eq_getElem?_getD,-getElem?_pos,-getElem?_neg,om,Ks,qk s hs]
theorem E9 (u:ag) (hs:u.length<900000):aq cfg 118 [.str (u++ [10]),.str [10]] []=some (.str u, []):=by
 have h:aq cfg 161 [.str (u++ [10]),.str [10]] []=some (.str u, []):=by
  refine ab Q5 MT ?_;have h1:=qk (u++ [10]) (by simp;omega);rw [show decide ((u++ [(10:UInt8)]).getLast?=some 10)=true by simp] at h1;have hl:(u++ [(10:UInt8)]).length=u.length+1:=by simp
  have ht:(u++ [(10:UInt8)]).take u.length=u:=List.take_left' rfl;generalize u++ [(10:UInt8)]=s at*
  simp (maxSteps:=9^9) (disch:=omega) [-List.map_replicate,-List.map_set,-List.getD_eq_getElem?_getD,-getElem?_pos,-getElem?_neg,om,Kt,h1,hl,ht]
 refine ab Q6 MU ?_;simp (maxSteps:=9^9) (disch:=omega) [-List.map_replicate,-List.map_set,-List.getD_eq_getElem?_getD,-getElem?_pos,-getElem?_neg,om,Ku,h]
theorem xl {c:UInt8}: ∀{p:List UInt8} (r:List UInt8),c∉p→Lib.indexByte (p++c::r) c=(p.length:Int)
 | [],r,_=>by simp [Lib.indexByte]
 | x::p,r,h=>by
  simp only [List.mem_cons,not_or] at h;have ih:=xl r h.2;have hx:(x==c)=false:=by simpa using Ne.symm h.1
  have hne:(((p.length:Int))== -1)=false:=by rw [beq_eq_false_iff_ne];omega
  simp only [List.cons_append,Lib.indexByte,hx,Bool.false_eq_true,if_false,ih,hne,List.length_cons];omega
theorem u3 {c:UInt8}: ∀{r:List UInt8},2≤(splitB c r).length→ ∃p q,r=p++c::q∧c∉p
 | [],h=>by simp [splitB] at h
 | x::r,h=>by
  by_cases hx:x=c
  ·exact ⟨[],r,by simp [hx],by simp⟩
  ·have h2:2≤(splitB c r).length:=by
    simp only [splitB,if_neg hx] at h;split at h
    ·rename_i e;rw [e];simpa using h
    ·simp at h
   obtain ⟨p,q,h3,h4⟩:=u3 h2;exact ⟨x::p,q,by rw [h3];rfl,by simp [Ne.symm hx,h4]⟩
theorem CS {c:UInt8} {r:List UInt8} (h:(splitB c r).length=1):splitB c r= [r]:=by apply xb;intro hm;obtain ⟨p,q,rfl⟩:=List.append_of_mem hm;rw [gS] at h;simp at h
theorem A6 (P:List (List UInt8)) (k:Nat) (x:List UInt8):(P.map AV.str++List.replicate (k+1) (AV.str [])).set P.length (.str x)=(P++ [x]).map AV.str++List.replicate k (AV.str []):=by rw [List.replicate_succ,List.set_append_right _ _ (by simp)];simp
theorem Fa (s:List UInt8) (c:UInt8) (hs:s.length<100000000):aq cfg 117 [.str s,.str [c]] []=some (.ak none 1 ((splitB c s).map AV.str), []):=by
 have h1:aq cfg 160 [.str s,.str [c],.int .i64 0,.int .i64 (-1)] []=some (.ak none 1 ((splitB c s).map AV.str), []):=by
  refine ab Q7 MV ?_;have hc:=E7 s c;have hN:=gS c s;have hle:s.count c≤s.length:=List.count_le_length;generalize s.count c=N at*
  have hmin:((N:Int)+1≤(s.length:Int)+1):=by omega
  simp (maxSteps:=9^9) (disch:=omega) [-List.map_replicate,-List.map_set,-List.getD_eq_getElem?_getD,-getElem?_pos,-getElem?_neg,om,Kv,hc]
  refine Wp.aX (fun (a:List (List UInt8)×List UInt8)=>N-a.1.length) (fun a=> [some (.str a.2),some (.str [c]),some (.int .i64 0),some (.int .i64 N),none,some (.az 0 (N+1)),some (.int .i64 a.1.length),none,none,none,none,none,none,none,none,none,none,none,none])
   (fun a=> [.sl ⟨false,some 9,none⟩ 1 (a.1.map AV.str++List.replicate (N+1-a.1.length) (AV.str []))])
   (fun a=>a.1.length≤N∧splitB c s=a.1++splitB c a.2∧a.2.length≤s.length) ?_ ([],s) ⟨by simp,rfl,Nat.le_refl _⟩ (by simp) (by simp)
  rintro ⟨P,r⟩ ⟨hP,hsp,hrl⟩;simp only at hP hsp hrl⊢
  have hr:(splitB c r).length=N+1-P.length:=by have:=congrArg List.length hsp;rw [List.length_append] at this;omega
  by_cases hlt:P.length<N
  ·obtain ⟨p,q,rfl,hp⟩:=u3 (by rw [hr];omega);have hi:=E6 (p++c::q) c (by omega);rw [xl q hp] at hi;rw [uR q hp] at hsp;have hk:N+1-P.length=(N-P.length)+1:=by omega
   have hlen:(P.map AV.str++List.replicate (N+1-P.length) (AV.str [])).length=N+1:=by simp;omega
   have hget:(P.map AV.str++List.replicate (N+1-P.length) (AV.str []))[P.length]?=some (.str []):=by rw [List.getElem?_append_right (by simp),List.getElem?_replicate,if_pos (by simp;omega)]
   have hset:=A6 P (N-P.length) p;rw [←hk] at hset;have ht:(p++c::q).take p.length=p:=List.take_left' rfl
   have hd:((p++c::q).take (p++c::q).length).drop (p.length+1)=q:=by rw [List.take_length,List.drop_append,List.drop_of_length_le (by omega)];simp
   have hl:(p++c::q).length=p.length+1+q.length:=by simp;omega
   have hp2:p.length+1≤s.length:=by omega
   generalize P.map AV.str++List.replicate (N+1-P.length) (AV.str [])=L at*
   generalize hR:p++c::q=R at*
   rw [hl] at hd;simp (maxSteps:=9^9) (disch:=omega) [-List.map_replicate,-List.map_set,-List.getD_eq_getElem?_getD,-getElem?_pos,-getElem?_neg,om,hi,hlen,hget,hset,ht,hd,hl];refine ⟨P++ [p],q,⟨by simp;omega,by rw [hsp];simp,by omega⟩,by simp;omega,⟨rfl,by simp⟩,?_⟩;have e:N+1-(P++ [p]).length=N-P.length:=by simp
   rw [e];simp
  ·obtain rfl:P.length=N:=by omega
   have h1:=CS (c:=c) (r:=r) (by rw [hr];omega);rw [h1] at hsp;have hset:=A6 P 0 r;have e:P.length+1-P.length=0+1:=by omega
   rw [e,hsp];have hlen:(P.map AV.str++List.replicate (0+1) (AV.str [])).length=P.length+1:=by simp
   have hget:(P.map AV.str++List.replicate (0+1) (AV.str []))[P.length]?=some (.str []):=by rw [List.getElem?_append_right (by simp),List.getElem?_replicate,if_pos (by simp)]
   generalize P.map AV.str++List.replicate (0+1) (AV.str [])=L at*
   rw [List.replicate_zero,List.append_nil] at hset;simp (maxSteps:=9^9) (disch:=omega) [-List.map_replicate,-List.map_set,-List.getD_eq_getElem?_getD,-getElem?_pos,-getElem?_neg,om,hlen,hget,hset]
   try exact List.take_of_length_le (by simp)
 refine ab Q8 MW ?_;simp (config:={maxSteps:=1000000}) (disch:=omega) [-List.map_replicate,-List.map_set,-List.getD_eq_getElem?_getD,-getElem?_pos,-getElem?_neg,wrap_i64,mM,jf,jg,gP,Kw,h1]
theorem np (s:ag) (hs:s.length<190000): ∃(t:ag) (q:Bool),aq cfg 121 [.str s] []=some (.aI [.str t,.bool q], [])∧al s=(if q=true then some t else none):=by
 have h:=MX s hs;rw [xm] at h;cases hu:al s with
 | none=>rw [hu] at h;exact ⟨[],false,h,rfl⟩
 | some t=>rw [hu] at h;exact ⟨t,true,h,rfl⟩
def nO:Option (Nat×ag)→AV
 | some (n,t)=> .aI [.agg [.int .i64 n,.str [],.str t],.bool true]
 | none=> .aI [.agg [.int .i64 0,.str [],.str []],.bool false]
theorem Jc (line:ag) (hl:line.length<190000):aq cfg 122 [.str line] []=some (nO (fb al line), []):=by
 refine ab Q9 MY ?_;have h1:=CR line (by omega);unfold E8 at h1;unfold fb;cases hc:de line with
 | none=>rw [hc] at h1;obtain ⟨v,b,h2,_,_⟩:=tf line (by omega);obtain ⟨t,q,h3,_⟩:=np [] (by simp);simp (maxSteps:=9^9) (disch:=omega) [-List.map_replicate,-List.map_set,-List.getD_eq_getElem?_getD,-getElem?_pos,-getElem?_neg,om,sk,h1,h2,h3,af,nO]
 | some p=>
  obtain ⟨num,rest⟩:=p;rw [hc] at h1;obtain ⟨e1,_⟩:=dU hc;have hn:num.length<190000:=by rw [e1] at hl;simp at hl;omega
  have hr:rest.length<190000:=by rw [e1] at hl;simp at hl;omega
  obtain ⟨v,b,h2,e2,hv⟩:=tf num (by omega);obtain ⟨t,q,h3,e3⟩:=np rest hr;simp only [e2,e3];clear hc e1 hl e3;cases b with
  | true=>simp (maxSteps:=9^9) (disch:=omega) [-List.map_replicate,-List.map_set,-List.getD_eq_getElem?_getD,-getElem?_pos,-getElem?_neg,om,sk,h1,h2,h3,af,nO]
  | false=>
   cases q with
   | false=>simp (maxSteps:=9^9) (disch:=omega) [-List.map_replicate,-List.map_set,-List.getD_eq_getElem?_getD,-getElem?_pos,-getElem?_neg,om,sk,h1,h2,h3,af,nO]
   | true=>
    have hne:num≠ []:=by rintro rfl;simp [jc] at e2
    match num,hne with
    | c::num',_=>
     by_cases g1:t= []
     ·subst g1;simp (maxSteps:=9^9) (disch:=omega) [-List.map_replicate,-List.map_set,-List.getD_eq_getElem?_getD,-getElem?_pos,-getElem?_neg,om,sk,h1,h2,h3,af,nO]
     by_cases g2:c=48
     ·subst g2;simp (maxSteps:=9^9) (disch:=omega) [-List.map_replicate,-List.map_set,-List.getD_eq_getElem?_getD,-getElem?_pos,-getElem?_neg,om,sk,h1,h2,h3,af,nO,List.getD_cons_zero,g1,ah]
     have g2': ¬ ((c.toNat:Int)=48):=fun h=>g2 (UInt8.toNat_inj.mp (by show _=48;omega));have w1:(t== [])=false:=by simpa using g1
     have hw:IntKind.i64.wrap (v:Int)=v:=wrap_i64 (by omega) (by omega);by_cases g3:64<v
     ·simp (maxSteps:=9^9) (disch:=omega) [-List.map_replicate,-List.map_set,-List.getD_eq_getElem?_getD,-getElem?_pos,-getElem?_neg,om,sk,h1,h2,h3,af,nO,List.getD_cons_zero,g1,g2,g2',g3,ah,w1,hw]
     ·simp (maxSteps:=9^9) (disch:=omega) [-List.map_replicate,-List.map_set,-List.getD_eq_getElem?_getD,-getElem?_pos,-getElem?_neg,om,sk,h1,h2,h3,af,nO,List.getD_cons_zero,g1,g2,g2',g3,ah,w1,hw]
theorem DX (a b:Cell):aq cfg 44 [kF a,kF b] []=some (.int .i64 (iW a b), []):=by
 refine ab Tw Ra ?_;have c1:=sG a.1 b.1;have c2:=sG a.2 b.2;have c3:=BA none (ig a.1 b.1) (ig a.2 b.2);have e:iW a b=if ig a.1 b.1=0 then ig a.2 b.2 else ig a.1 b.1:=rfl;rw [e];unfold kF;generalize (if ig a.1 b.1=0 then ig a.2 b.2 else ig a.1 b.1)=r at*
 generalize ig a.1 b.1=r1 at*
 generalize ig a.2 b.2=r2 at*
 simp (maxSteps:=9^9) (disch:=omega) [-List.map_replicate,-List.map_set,-List.getD_eq_getElem?_getD,-getElem?_pos,-getElem?_neg,om,Rb,c1,c2,c3]
theorem Jd (r:Cell×ag) (x:Cell):aq cfg 115 [ky r,kF x] []=some (.int .i64 (iW r.1 x), []):=by
 refine ab Rc MZ ?_;have c1:=DX r.1 x;unfold ky;unfold kF at*
 simp (maxSteps:=9^9) (disch:=omega) [-List.map_replicate,-List.map_set,-List.getD_eq_getElem?_getD,-getElem?_pos,-getElem?_neg,om,Kx,c1]
theorem yt {l:List (Cell×ag)} (h:iT (l.map Prod.fst)): ∀(i j:Nat) (a b:Cell×ag),i<j→l[i]?=some a→l[j]?=some b→eI a.1 b.1=true:=by
 induction l with
 | nil=>intro i j a b _ h1;cases h1
 | cons x r ih=>
  intro i j a b hij h1 h2;cases i with
  | zero=>
   cases h1;cases j with
   | zero=>omega
   | succ j=>exact h.1 b.1 (List.mem_map.2 ⟨b,List.mem_of_getElem? (by simpa using h2),rfl⟩)
  | succ i=>
   cases j with
   | zero=>omega
   | succ j=>exact ih h.2 i j a b (by omega) (by simpa using h1) (by simpa using h2)
structure Cut (l:List (Cell×ag)) (c:Cell) (i j:Nat):Prop where
 lo: ∀k r,k<i→l[k]?=some r→eI r.1 c=true
 hi: ∀k r,j≤k→l[k]?=some r→ ¬ eI r.1 c=true
theorem Cut.left {l:List (Cell×ag)} {c:Cell} {i j h:Nat} (hc:Cut l c i j) (hi:iT (l.map Prod.fst)) {r:Cell×ag} (hr:l[h]?=some r) (hb:eI r.1 c=true):Cut l c (h+1) j:=⟨fun k q hk hq=>by
  by_cases e:k=h
  ·subst e;rw [hr] at hq;cases hq;exact hb
  ·exact ew (yt hi k h q r (by omega) hq hr) hb,hc.hi⟩
theorem Cut.right {l:List (Cell×ag)} {c:Cell} {i j h:Nat} (hc:Cut l c i j) (hi:iT (l.map Prod.fst)) {r:Cell×ag} (hr:l[h]?=some r) (hb: ¬ eI r.1 c=true):Cut l c i h:=⟨hc.lo,fun k q hk hq=>by
  by_cases e:k=h
  ·subst e;rw [hr] at hq;cases hq;exact hb
  ·exact fun hq2=>hb (ew (yt hi h k r q (by omega) hr hq) hq2)⟩
theorem xn (nl:Option Bool) (z:Nat) (l:List (Cell×ag)) (hz:l≠ []→z=3) (hl:l.length<1000000) (hi:iT (l.map Prod.fst)) (c:Cell):
  ∃i:Nat,aq cfg 114 [.ak nl z (aC l),kF c,.fn 115 [] []] []=some (.aI [.int .i64 i,.bool (au l c).isSome], [])∧ ∀t,au l c=some t→i<l.length∧ ∃r,l[i]?=some r∧r.2=t:=by
 obtain ⟨i0,hi0,hl0⟩: ∃i0,i0≤l.length∧Cut l c i0 i0:=by
  have: ∀n,n≤l.length→ ∃i0,i0≤l.length∧(∀k r,k<i0→l[k]?=some r→eI r.1 c=true)∧(i0<l.length→n≤i0∨ ∃r,l[i0]?=some r∧ ¬ eI r.1 c=true):=by
   intro n
   induction n with
   | zero=>exact fun _=>⟨0,by omega,fun k r hk=>by omega,fun _=> .inl (by omega)⟩
   | succ n ih=>
    intro hn;obtain ⟨i0,h1,h2,h3⟩:=ih (by omega);by_cases hlt:i0<l.length
    ·rcases h3 hlt with h4 | h4
     ·have hr:l[i0]?=some l[i0]:=List.getElem?_eq_getElem hlt;by_cases hb:eI l[i0].1 c=true
      ·refine ⟨i0+1,by omega,fun k r hk hq=> ?_,fun _=> .inl (by omega)⟩;by_cases e:k=i0
       ·subst e;rw [hr] at hq;cases hq;exact hb
       ·exact h2 k r (by omega) hq
      ·exact ⟨i0,h1,h2,fun _=> .inr ⟨_,hr,hb⟩⟩
     ·exact ⟨i0,h1,h2,fun _=> .inr h4⟩
    ·exact ⟨i0,h1,h2,fun h=>absurd h hlt⟩
  obtain ⟨i0,h1,h2,h3⟩:=this l.length (Nat.le_refl _);refine ⟨i0,h1,h2,fun k r hk hq=> ?_⟩
  have hkl:k<l.length:=by
   rcases Nat.lt_or_ge k l.length with h | h
   ·exact h
   ·rw [List.getElem?_eq_none h] at hq;cases hq
  rcases h3 (by omega) with h4 | ⟨r0,h4,h5⟩
  ·omega
  ·by_cases e:k=i0
   ·subst e;rw [h4] at hq;cases hq;exact h5
   ·exact fun hb=>h5 (ew (yt hi i0 k r0 r (by omega) h4 hq) hb)
 have hat:=DT l i0 hi hl0.lo hl0.hi;refine ⟨i0,?_,fun t ht=> ?_⟩
 case refine_2=>
  rw [ht] at hat;cases hr:l[i0]? with
  | none=>rw [hr] at hat;cases hat
  | some r=>
   rw [hr] at hat;simp only at hat;split at hat
   ·cases hat;refine ⟨?_,r,rfl,rfl⟩;rcases Nat.lt_or_ge i0 l.length with h | h
    ·exact h
    ·rw [List.getElem?_eq_none h] at hr;cases hr
   ·cases hat
 refine ab Re M4 ?_;have hE: ∀k (h:k<l.length),(aC l)[k]?=some (.agg [.int .i64 l[k].1.1,.int .i64 l[k].1.2,.str l[k].2]):=fun k h=>get_map _ _ h;have hEl:(aC l).length=l.length:=by simp [aC]
 generalize aC l=E at*
 have hg1:=fun r=>Jd r c;unfold ky at hg1;unfold kF at*
 simp (maxSteps:=9^9) (disch:=omega) [-List.map_replicate,-List.map_set,-List.getD_eq_getElem?_getD,-getElem?_pos,-getElem?_neg,om,Ky,hEl];refine Wp.aX (fun (a:Nat×Nat)=>a.2-a.1) (fun a=> [some (.ak nl z E),none,some (.fn 115 [] []),some (.ptr 0 0),none,none,some (.int .i64 l.length),some (.int .i64 a.1),some (.int .i64 a.2),none,none,none,none,none]) (fun _=> [.var 28 [.int .i64 c.1,.int .i64 c.2]]) (fun a=>a.1≤i0∧i0≤a.2∧a.2≤l.length) ?_ (0,l.length) ⟨by simp,hi0,by simp⟩ (by simp) rfl;rintro ⟨i,j⟩ ⟨h1,h2,h3⟩;simp only at h1 h2 h3⊢;by_cases hij:i<j
 ·obtain ⟨h,hdef⟩: ∃h,h=(i+j) / 2:=⟨_,rfl⟩;have hh:h<l.length:=by omega
  have hgh:=hE h hh;obtain rfl:=hz (ne_of_lt hh);have hr:l[h]?=some l[h]:=List.getElem?_eq_getElem hh;have hgc:=hg1 l[h];have hlt:=gT l[h].1 c;have hd1:h<i0→eI l[h].1 c=true:=fun q=>hl0.lo _ _ q hr;have hd2:i0≤h→ ¬ eI l[h].1 c=true:=fun q=>hl0.hi _ _ q hr;generalize l[h]=r at*
  have w1:IntKind.u64.wrap ((i:Int)+(j:Int))=(i:Int)+(j:Int):=by show ((i:Int)+(j:Int))%18446744073709551616=_;omega
  have w2:IntKind.i64.wrap ((i:Int)+(j:Int))=(i:Int)+(j:Int):=wrap_i64 (by omega) (by omega)
  have w3:((i:Int)+(j:Int)).fdiv (2^min 1 IntKind.u64.bits)=(h:Int):=by show ((i:Int)+(j:Int)).fdiv 2=(h:Int);rw [Int.fdiv_eq_ediv_of_nonneg _ (by omega)];omega
  have w4:IntKind.i64.wrap (h:Int)=(h:Int):=wrap_i64 (by omega) (by omega);have b1:i≤h:=by omega
  have b2:h<j:=by omega
  clear hE hg1 hr hdef;obtain ⟨⟨r1,r2⟩,t⟩:=r;simp only at*
  generalize iW (r1,r2) c=cc at*
  by_cases hcc:cc<0
  ·have hb:=hlt.1 hcc;simp (maxSteps:=9^9) (disch:=omega) [-List.map_replicate,-List.map_set,-List.getD_eq_getElem?_getD,-getElem?_pos,-getElem?_neg,om,hij,hgh,hEl,w1,w2,w3,w4,hgc,hcc];refine ⟨h+1,j,⟨?_,by omega,by omega⟩,by omega,by simp⟩;rcases Nat.lt_or_ge h i0 with q | q
   ·omega
   ·exact absurd hb (hd2 q)
  ·simp (maxSteps:=9^9) (disch:=omega) [-List.map_replicate,-List.map_set,-List.getD_eq_getElem?_getD,-getElem?_pos,-getElem?_neg,om,hij,hgh,hEl,w1,w2,w3,w4,hgc,hcc];refine ⟨i,h,⟨by omega,?_,by omega⟩,by omega,by simp⟩;rcases Nat.lt_or_ge h i0 with q | q
   ·exact absurd (hlt.2 (hd1 q)) hcc
   ·exact q
 ·obtain rfl:j=i0:=by omega
  obtain rfl:i=j:=by omega
  by_cases hlt:i<l.length
  ·have hgh:=hE i hlt;obtain rfl:=hz (ne_of_lt hlt);have hr:l[i]?=some l[i]:=List.getElem?_eq_getElem hlt;have hgc:=hg1 l[i];have hz0:=Fb l[i].1 c;rw [hr] at hat;generalize l[i]=r at*
   clear hE hg1 hr;obtain ⟨⟨r1,r2⟩,t⟩:=r;simp only at*
   rw [hat];generalize iW (r1,r2) c=cc at*
   by_cases hcc:cc=0
   ·rw [if_pos (hz0.1 hcc)];simp (maxSteps:=9^9) (disch:=omega) [-List.map_replicate,-List.map_set,-List.getD_eq_getElem?_getD,-getElem?_pos,-getElem?_neg,om,hlt,hgh,hEl,hgc,hcc]
   ·rw [if_neg (fun q=>hcc (hz0.2 q))];have hcc2:(cc==0)=false:=by simpa using hcc
    simp (maxSteps:=9^9) (disch:=omega) [-List.map_replicate,-List.map_set,-List.getD_eq_getElem?_getD,-getElem?_pos,-getElem?_neg,om,hlt,hgh,hEl,hgc,hcc,hcc2]
  ·rw [List.getElem?_eq_none (by omega)] at hat;rw [hat];simp (maxSteps:=9^9) (disch:=omega) [-List.map_replicate,-List.map_set,-List.getD_eq_getElem?_getD,-getElem?_pos,-getElem?_neg,om,hlt,hEl]
theorem CT {B:List ad} {k:Nat} {nl:Option Bool} {z:Nat} {l:List (Cell×ag)} {lk:Bool} (hB:ad.at B k= .var 102 [.ak nl z (aC l),.bool lk]) (hk:k<B.length) (hs:shut B.length B=true) (hz:l≠ []→z=3) (hl:l.length<1000000) (hi:iT (l.map Prod.fst)) (kd u:Int):
  aq cfg 63 [.ptr k 0,.int .i64 kd,.int .i64 u] B=some (.str ((au l (kd,u)).getD []),B.set k (.var 102 [.ak nl z (aC l),.bool (lk || (au l (kd,u)).isNone)])):=by
 refine ab Rf Kz ?_;obtain ⟨i,h1,h2⟩:=xn nl z l hz hl hi (kd,u);unfold kF at h1;simp only at h1;have hE: ∀k (h:k<l.length),(aC l)[k]?=some (.agg [.int .i64 l[k].1.1,.int .i64 l[k].1.2,.str l[k].2]):=fun k h=>get_map _ _ h;have hEl:(aC l).length=l.length:=by simp [aC]
 have hpl:=bM l;have hm:=shut_map (Nat.le_refl B.length) hs;have hks:=ea k hs (x:= .var 102 [.ak nl z (aC l),.bool true]) (by simp [shut,av,AV.under]);have hm2:=shut_map (Nat.le_refl B.length) hks;cases hq:au l (kd,u) with
 | none=>
  rw [hq] at h1;generalize aC l=E at*
  have e1:(lk || (none:Option ag).isNone)=true:=by simp
  rw [e1];simp (maxSteps:=9^9) (disch:=omega) [-List.map_replicate,-List.map_set,-List.getD_eq_getElem?_getD,-getElem?_pos,-getElem?_neg,om,Je,hB,hk,h1,hm,hm2,hpl,af]
 | some t=>
  rw [hq] at h1;obtain ⟨h3,r,h4,h5⟩:=h2 t hq;have hgi:=hE i h3;obtain rfl:=hz (ne_of_lt h3);have hri:l[i]=r:=by rw [List.getElem?_eq_getElem h3] at h4;cases h4;rfl
  rw [hri] at hgi
  have e:B.set k (.var 102 [.ak nl 3 (aC l),.bool (lk || (some t).isNone)])=B:=by
   have e1:(lk || (some t).isNone)=lk:=by simp
   rw [e1,←hB];apply List.ext_getElem?;intro i;by_cases hi:i=k
   ·subst hi;simp [ad.at,hk,List.getD_eq_getElem?_getD]
   ·rw [List.getElem?_set_ne (Ne.symm hi)]
  rw [e];generalize aC l=E at*
  clear h2 hE h4 hri e;subst h5;simp (maxSteps:=9^9) (disch:=omega) [-List.map_replicate,-List.map_set,-List.getD_eq_getElem?_getD,-getElem?_pos,-getElem?_neg,om,Je,hB,hk,h1,hm,hgi,hpl,af]
set_option maxHeartbeats 8000000
def yu (f:Nat×ag):AV:= .agg [.int .i64 f.1,.str [],.str f.2]
theorem Fe (w:ag):nR w [[102,111,110,100,115], [115,101,114,105,101,115], [102,105,108,101], [105,116,101,109]] 0+1=(iQ w:Int):=by
 unfold iQ;have t1:cG 1= [102,111,110,100,115]:=rfl;have t2:cG 2= [115,101,114,105,101,115]:=rfl;have t3:cG 3= [102,105,108,101]:=rfl;have t4:cG 4= [105,116,101,109]:=rfl;rw [t1,t2,t3,t4];simp only [nR,beq_iff_eq]
 repeat' split
 all_goals rfl
theorem A7 (w:ag):iQ w≤4:=by
 unfold iQ
 repeat' split
 all_goals omega
def fK:List (Nat×ag)→List ag→List (Nat×ag)×Bool
 | acc, []=>(acc,true)
 | acc,l::r=>match fb al l with
  | some (n,t)=>(match acc.getLast? with
   | some q=>if n≤q.1 then (acc,false) else fK (acc++ [(n,t)]) r
   | none=>fK (acc++ [(n,t)]) r)
  | none=>(acc,false)
theorem Ff {l:ag} {n:Nat} {t:ag} (h:fb al l=some (n,t)):1≤n:=by
 unfold fb at h;split at h
 ·rename_i num rest hc;split at h
  ·rename_i n' t' hp hu;split at h
   ·cases h
   ·rename_i hn;cases h;exact (DR hp (fun h0=>hn (.inr (.inl h0))) (by omega)).2
  ·cases h
 ·cases h
theorem xo: ∀(r:List ag) (acc:List (Nat×ag)),∃m,(fK acc r).1=acc++m
 | [],acc=>⟨[],by simp [fK]⟩
 | l::r,acc=>by
  unfold fK;cases fb al l with
  | none=>exact ⟨[],by simp⟩
  | some p=>
   obtain ⟨n,t⟩:=p;obtain ⟨m,hm⟩:=xo r (acc++ [(n,t)]);simp only;cases acc.getLast? with
   | none=>exact ⟨(n,t)::m,by simp only;rw [hm];simp⟩
   | some q=>
    simp only;split
    ·exact ⟨[],by simp⟩
    ·exact ⟨(n,t)::m,by rw [hm];simp⟩
theorem A8: ∀(r:List ag) (acc:List (Nat×ag)),iS al (match acc.getLast? with | some q=>q.1 | none=>0) r=if (fK acc r).2=true then some ((fK acc r).1.drop acc.length) else none
 | [],acc=>by simp [iS,fK]
 | l::r,acc=>by
  unfold iS fK;cases hf:fb al l with
  | none=>simp
  | some p=>
   obtain ⟨n,t⟩:=p;have hp:=Ff hf;have ih:=A8 r (acc++ [(n,t)]);rw [List.getLast?_concat] at ih;simp only at ih⊢;obtain ⟨m,hm⟩:=xo r (acc++ [(n,t)])
   have hstep:(iS al n r).map ((n,t):: ·)=if (fK (acc++ [(n,t)]) r).2=true then some ((fK (acc++ [(n,t)]) r).1.drop acc.length) else none:=by rw [ih,hm];cases (fK (acc++ [(n,t)]) r).2 <;> simp
   cases hq:acc.getLast? with
   | none=>simp only;rw [if_neg (by omega)];exact hstep
   | some q=>
    simp only;by_cases hn:n≤q.1
    ·rw [if_pos hn,if_pos hn];simp
    ·rw [if_neg hn,if_neg hn];exact hstep
theorem Fg (v:ag) (hv:v.length<900000) (hl: ∀p∈splitB 10 v.dropLast,p.length<190000):
  ∃(lev:Nat) (mark title:ag) (facts:List (Nat×ag)) (b:Bool),aq cfg 64 [.str v] []=some (.aI [.agg [.int .i64 0,.int .i64 0,.int .i64 lev,.str mark,.str title,.ak none 3 (facts.map yu)],.bool b], [])∧jP al v=(if b=true then some ⟨lev,title,mark,facts⟩ else none)∧(b=true→1≤lev∧lev≤4):=by
 have h1:=Hg v (by omega);unfold jP uT;by_cases hlf:v.getLast?=some 10
 case neg=>
  rw [if_neg hlf];rw [show decide (v.getLast?=some 10)=false by simpa using hlf] at h1;refine ⟨0, [], [], [],false,ab A9 so ?_,rfl,by simp⟩;simp (maxSteps:=9^9) (disch:=omega) [-List.map_replicate,-List.map_set,-List.getD_eq_getElem?_getD,-getElem?_pos,-getElem?_neg,om,sE,h1,af]
 rw [if_pos hlf];rw [show decide (v.getLast?=some 10)=true by simpa using hlf] at h1
 obtain ⟨u,rfl⟩: ∃u,v=u++ [10]:=by
  rcases List.eq_nil_or_concat v with rfl | ⟨u,x,rfl⟩
  ·simp at hlf
  ·rw [List.concat_eq_append] at hlf⊢;simp at hlf;exact ⟨u,by rw [hlf]⟩
 rw [List.dropLast_concat] at hl⊢;have hul:u.length<900000:=by simp at hv;omega
 have h2:=E9 u hul;have h3:=Fa u 10 (by omega)
 have hPl:(splitB 10 u).length<1000000:=by have h:=gS 10 u;have h2:u.count 10≤u.length:=List.count_le_length;omega
 generalize splitB 10 u=P at*
 generalize u++ [10]=v at*
 clear hlf hv hul
 match P,hl,hPl with
 | [],_,_=>refine ⟨0, [], [], [],false,ab A9 so ?_,rfl,by simp⟩;simp (maxSteps:=9^9) (disch:=omega) [-List.map_replicate,-List.map_set,-List.getD_eq_getElem?_getD,-getElem?_pos,-getElem?_neg,om,sE,h1,h2,h3,af]
 | [a],_,_=>refine ⟨0, [], [], [],false,ab A9 so ?_,rfl,by simp⟩;simp (maxSteps:=9^9) (disch:=omega) [-List.map_replicate,-List.map_set,-List.getD_eq_getElem?_getD,-getElem?_pos,-getElem?_neg,om,sE,h1,h2,h3,af]
 | a::b::r,hl,hPl=>
  have ha:=hl a (by simp);have hb:=hl b (by simp);have c1:=CR a (by omega);have c2:=CR b (by omega);unfold E8 at c1 c2
  have htag: ∀w nl,aq cfg 107 [.ak nl 1 [.str [102,111,110,100,115],.str [115,101,114,105,101,115],.str [102,105,108,101],.str [105,116,101,109]],.str w] []=some (.int .i64 ((iQ w:Int)-1), []):=fun w nl=>by
   have h:=jW nl 1 [[102,111,110,100,115], [115,101,114,105,101,115], [102,105,108,101], [105,116,101,109]] (fun _=>rfl) (by simp) w;have e:=Fe w;rw [show nR w [[102,111,110,100,115], [115,101,114,105,101,115], [102,105,108,101], [105,116,101,109]] 0=(iQ w:Int)-1 by omega] at h;exact h
  have ht4:=A7;cases hca:de a with
  | none=>
   obtain ⟨t0,q0,u0,_⟩:=np [] (by simp);have hd:qg al a=none:=by unfold qg;rw [hca]
   refine ⟨iQ a, [], [], [],false,ab A9 so ?_,by simp [fT,hd],by simp⟩;rw [hca] at c1;simp only at c1;have hT:=htag a;have hT4:=ht4 a;clear htag ht4 c2 hd;generalize iQ a=T at*
   simp (maxSteps:=9^9) (disch:=omega) [-List.map_replicate,-List.map_set,-List.getD_eq_getElem?_getD,-getElem?_pos,-getElem?_neg,om,sE,h1,h2,h3,c1,hT,u0,dZ,bV,af]
  | some p=>
   obtain ⟨w,ra⟩:=p;rw [hca] at c1;simp only at c1;obtain ⟨e1,_⟩:=dU hca;have hra:ra.length<190000:=by rw [e1] at ha;simp at ha;omega
   obtain ⟨t,q,u1,u2⟩:=np ra hra
   have hd:qg al a=if q=true∧iQ w≠0∧t≠ [] then some (iQ w,t) else none:=by
    unfold qg;rw [hca];simp only [u2];cases q with
    | false=>simp
    | true=>
     simp only [if_true];by_cases g1:iQ w=0
     ·simp [g1]
     ·by_cases g2:t= []
      ·simp [g2]
      ·simp [g1,g2]
   have hT:=htag w;have hT4:=ht4 w;clear htag ht4 hca e1 u2;generalize iQ w=T at*
   by_cases g:q=true∧T≠0∧t≠ []
   case neg=>
    rw [if_neg g] at hd;refine ⟨T, [], [], [],false,ab A9 so ?_,by simp [fT,hd],by simp⟩;clear c2 hd;cases q with
    | false=>simp (maxSteps:=9^9) (disch:=omega) [-List.map_replicate,-List.map_set,-List.getD_eq_getElem?_getD,-getElem?_pos,-getElem?_neg,om,sE,h1,h2,h3,c1,hT,u1,dZ,bV,af]
    | true=>
     by_cases g1:T=0
     ·subst g1;simp (maxSteps:=9^9) (disch:=omega) [-List.map_replicate,-List.map_set,-List.getD_eq_getElem?_getD,-getElem?_pos,-getElem?_neg,om,sE,h1,h2,h3,c1,hT,u1,dZ,bV,af]
     ·have g2:t= []:=by
       by_cases g2:t= []
       ·exact g2
       ·exact absurd ⟨rfl,g1,g2⟩ g
      subst g2;simp (maxSteps:=9^9) (disch:=omega) [-List.map_replicate,-List.map_set,-List.getD_eq_getElem?_getD,-getElem?_pos,-getElem?_neg,om,sE,h1,h2,h3,c1,hT,u1,g1,dZ,bV,af]
   rw [if_pos g] at hd;obtain ⟨rfl,g1,g2⟩:=g;cases hcb:de b with
   | none=>
    obtain ⟨t0,q0,u0,_⟩:=np [] (by simp);have hm:sd al b=none:=by unfold sd;rw [hcb]
    rw [hcb] at c2;simp only at c2;refine ⟨T,t0,t, [],false,ab A9 so ?_,by simp [fT,hd,hm],by simp⟩;clear hd hm hcb;simp (maxSteps:=9^9) (disch:=omega) [-List.map_replicate,-List.map_set,-List.getD_eq_getElem?_getD,-getElem?_pos,-getElem?_neg,om,sE,h1,h2,h3,c1,c2,hT,u1,u0,g1,g2,dZ,bV,af]
   | some p=>
    obtain ⟨w2,rb⟩:=p;rw [hcb] at c2;simp only at c2;obtain ⟨e1,_⟩:=dU hcb;have hrb:rb.length<190000:=by rw [e1] at hb;simp at hb;omega
    obtain ⟨m,q2,v1,v2⟩:=np rb hrb
    have hm:sd al b=if q2=true∧w2=kv then some m else none:=by
     unfold sd;rw [hcb];simp only [v2];by_cases g3:w2=kv
     ·cases q2 <;> simp [g3]
     ·simp [g3]
    clear hcb e1 v2;by_cases g:q2=true∧w2=kv
    case neg=>
     rw [if_neg g] at hm;refine ⟨T,m,t, [],false,ab A9 so ?_,by simp [fT,hd,hm],by simp⟩;clear hd hm;cases q2 with
     | false=>simp (maxSteps:=9^9) (disch:=omega) [-List.map_replicate,-List.map_set,-List.getD_eq_getElem?_getD,-getElem?_pos,-getElem?_neg,om,sE,h1,h2,h3,c1,c2,hT,u1,v1,g1,g2,dZ,bV,af]
     | true=>
      have g4: ¬ w2= [109,97,114,107]:=fun h=>g ⟨rfl,h⟩;have g5:(w2 != [109,97,114,107])=true:=by simpa using g4
      simp (maxSteps:=9^9) (disch:=omega) [-List.map_replicate,-List.map_set,-List.getD_eq_getElem?_getD,-getElem?_pos,-getElem?_neg,om,sE,h1,h2,h3,c1,c2,hT,u1,v1,g1,g2,g4,g5,dZ,bV,af]
    rw [if_pos g] at hm;obtain ⟨rfl,rfl⟩:=g;have hfr: ∀p∈r,p.length<190000:=fun p hp=>hl p (by simp [hp]);have hls:(aw (a::b::r)).length=r.length+2:=by simp
    have hdr:(aw (a::b::r)).drop 2=aw r:=rfl;have hT1:1≤T:=by omega
    suffices H: ∃(facts:List (Nat×ag)) (ok:Bool),aq cfg 64 [.str v] []=some (.aI [.agg [.int .i64 0,.int .i64 0,.int .i64 T,.str m,.str t,.ak none 3 (facts.map yu)],.bool ok], [])∧iS al 0 r=if ok=true then some facts else none by
     obtain ⟨facts,ok,k1,k2⟩:=H;refine ⟨T,m,t,facts,ok,k1,?_,fun _=>⟨hT1,hT4⟩⟩;simp only [fT,hd,hm,k2];cases ok <;> rfl
    clear hd hm;have hbr:r.length<1000000:=by simp at hPl;omega
    rw [show kv= [109,97,114,107] from rfl] at c2;clear ha hb hl hra hrb;have hgi:=A8 r [];refine ⟨(fK [] r).1,(fK [] r).2,ab A9 so ?_,by simpa using hgi⟩;clear hgi;have hE: ∀k (h:k<r.length),(aw r)[k]?=some (.str r[k]):=fun k h=>by simp [aw,h]
    have hrl:=jV r;generalize hG:fK [] r=G at*
    simp (maxSteps:=9^9) (disch:=omega) [-List.map_replicate,-List.map_set,-List.getD_eq_getElem?_getD,-getElem?_pos,-getElem?_neg,om,sE,h1,h2,h3,c1,c2,hT,u1,v1,g1,g2,hls,hdr,dZ,bV,af];clear h1 h2 h3 c1 c2 hT u1 v1 hls hdr
    refine Wp.aX (fun (a:Nat×List (Nat×ag))=>r.length-a.1) (fun a=> [none,some (.ptr 0 0),none,some (.ptr 2 0),none,none,none,none,none,none,none,none,none,none,none,none,none,none,none,none,none,none,none,none,none,none,none,none,none,some (.ak none 1 (aw r)),some (.int .i64 r.length),some (.int .i64 a.1),none,none,none,none,none,none]) (fun a=> [.var 73 [.int .i64 0,.int .i64 0,.int .i64 0,.str [],.str [],.az 1 0],.sl ⟨false,some 79,none⟩ 3 [],.var 73 [.int .i64 0,.int .i64 0,.int .i64 T,.str m,.str t,.az 3 a.2.length],.sl ⟨false,some 79,none⟩ 3 (a.2.map yu),.sl ⟨false,some 9,none⟩ 1 [.str [102,111,110,100,115],.str [115,101,114,105,101,115],.str [102,105,108,101],.str [105,116,101,109]]])
     (fun a=>G=fK a.2 (r.drop a.1)∧a.1≤r.length∧a.2.length≤a.1) ?_ (0, []) ⟨by simpa using hG.symm,by simp,by simp⟩ (by simp [aw];exact List.take_of_length_le (by simp)) (by simp)
    rintro ⟨i,acc⟩ ⟨hi,hil,hal⟩;simp only at hi hil hal⊢;rw [hi];clear hi hG;by_cases q1:i<r.length
    ·have hg:=hE i q1;have hfa:=Jc r[i] (hfr _ (List.getElem_mem q1));rw [List.drop_eq_getElem_cons q1];simp only [fK];have hml:(acc.map yu).length=acc.length:=by simp
     generalize r[i]=line at*
     clear hE hfr;cases hf:fb al line with
     | none=>rw [hf] at hfa;unfold nO at hfa;simp only at hfa⊢;simp (maxSteps:=9^9) (disch:=omega) [-List.map_replicate,-List.map_set,-List.getD_eq_getElem?_getD,-getElem?_pos,-getElem?_neg,om,q1,hg,hfa,af,hml,hrl]
     | some p=>
      obtain ⟨n,x⟩:=p;rw [hf] at hfa;unfold nO at hfa;simp only at hfa⊢;rcases List.eq_nil_or_concat acc with rfl | ⟨acc',q,rfl⟩
      ·simp only [List.getLast?_nil];simp (maxSteps:=9^9) (disch:=omega) [-List.map_replicate,-List.map_set,-List.getD_eq_getElem?_getD,-getElem?_pos,-getElem?_neg,om,q1,hg,hfa,af,hrl];exact ⟨i+1, [(n,x)],⟨rfl,by omega,by simp⟩,by omega,by simp,by simp,by simp [yu]⟩
      ·rw [List.concat_eq_append] at*
       rw [List.getLast?_concat];simp only;have hgl:((acc'++ [q]).map yu)[acc'.length]?=some (.agg [.int .i64 q.1,.str [],.str q.2]):=by simp [yu]
       have hl2:(acc'++ [q]).length=acc'.length+1:=by simp
       have e1:((acc'.length:Int)+1-1).toNat=acc'.length:=by omega
       have e2:(0:Int)<(acc'.length:Int)+1:=by omega
       rw [hl2] at hml hal;generalize hac:acc'++ [q]=acc at*
       by_cases q2:n≤q.1
       ·rw [if_pos q2];simp (maxSteps:=9^9) (disch:=omega) [-List.map_replicate,-List.map_set,-List.getD_eq_getElem?_getD,-getElem?_pos,-getElem?_neg,om,q1,hg,hfa,af,hml,hrl,hl2,hgl,e1,e2,q2]
       ·rw [if_neg q2];simp (maxSteps:=9^9) (disch:=omega) [-List.map_replicate,-List.map_set,-List.getD_eq_getElem?_getD,-getElem?_pos,-getElem?_neg,om,q1,hg,hfa,af,hml,hrl,hl2,hgl,e1,e2,q2];exact ⟨i+1,acc++ [(n,x)],⟨rfl,by omega,by simp;omega⟩,by omega,by simp,by simp;omega,by simp [yu]⟩
    ·rw [List.drop_eq_nil_of_le (by omega)];simp (maxSteps:=9^9) (disch:=omega) [-List.map_replicate,-List.map_set,-List.getD_eq_getElem?_getD,-getElem?_pos,-getElem?_neg,om,q1,fK,af,hrl]
def Ba (B:List ad) (k:Nat) (nl:Option Bool) (z:Nat) (l:List (Cell×ag)) (lk:Bool):List ad:=B.set k (.var 102 [.ak nl z (aC l),.bool lk])
theorem jB (B:List ad) (k:Nat) (nl:Option Bool) (z:Nat) (l:List (Cell×ag)) (lk:Bool):(Ba B k nl z l lk).length=B.length:=by simp [Ba]
theorem u4 {B:List ad} {k:Nat} {nl:Option Bool} {z:Nat} {l:List (Cell×ag)} {lk:Bool} (hs:shut B.length B=true):shut B.length (Ba B k nl z l lk)=true:=ea k hs (by simp [shut,av,AV.under])
structure Fl where
 b:Bool
def OO (x y:Bool):Prop:=x=y
theorem Hh {B:List ad} {k:Nat} {nl:Option Bool} {z:Nat} {l:List (Cell×ag)} (hk:k<B.length) (hs:shut B.length B=true) (hz:l≠ []→z=3) (hl:l.length<1000000) (hi:iT (l.map Prod.fst)) (hv: ∀u,((au l (4,u)).getD []).length≤1000) (s:ag) (hsl:s.length≤10000) (lk0:Bool):
  aq cfg 67 [.ptr k 0,.str s] (Ba B k nl z l lk0)=some (.str (aB (fun u=>au l (4,u)) s).1,Ba B k nl z l (lk0 || (aB (fun u=>au l (4,u)) s).2)):=by
 have hget: ∀(lk:Bool) (a:AV) (out:ag) (u:Int),(a= .bG∨a= .ptr B.length 0)→aq cfg 63 [.ptr k 0,.int .i64 4,.int .i64 u] (aV (Ba B k nl z l lk) a out)=some (.str ((au l (4,u)).getD []),aV (Ba B k nl z l (lk || (au l (4,u)).isNone)) a out):=fun lk a out u ha=>by
  have hbl:=fL (bs:=Ba B k nl z l lk) (by rw [jB];exact u4 hs) (a:=a) (by rw [jB];exact ha) out
  have h:=CT (B:=aV (Ba B k nl z l lk) a out) (k:=k) (nl:=nl) (z:=z) (l:=l) (lk:=lk) (by
   unfold aV;rw [eJ _ _ (by rw [jB];exact hk)];unfold Ba;rw [Go.Am.aZ _ _ _ hk,if_pos rfl]) (by unfold aV;simp [jB];omega) hbl.sh hz hl hi 4 u
  rw [h];congr 2;unfold aV;rw [List.set_append_left _ _ (by rw [jB];exact hk),jB,jB];unfold Ba;rw [List.set_set]
 refine ab Tx Rg ?_;have hBn: ∀lk,(Ba B k nl z l lk).length=B.length:=fun lk=>jB ..
 have hsh: ∀lk,shut (Ba B k nl z l lk).length (Ba B k nl z l lk)=true:=fun lk=>by rw [hBn];exact u4 hs
 have hm:=fun lk=>shut_map (Nat.le_refl _) (hsh lk);have hlk0: ∀e,shut B.length (Ba B k nl z l e)=true:=fun e=>u4 hs;generalize hlook:(fun u=>au l (4,u))=look at*
 have hlk: ∀u,au l (4,u)=look u:=fun u=>by rw [←hlook]
 simp only [hlk] at hget hv;clear hlk hlook;generalize hK:Ba B k nl z l=K at*
 generalize hn0:B.length=n0 at*
 obtain ⟨f0,f1,f2,f3,s0,s1,s2,s3,b0,b1,b2,b3,tk⟩:=Lk (hBn lk0);simp (maxSteps:=9^9) (disch:=omega) [-List.map_replicate,-List.map_set,-List.getD_eq_getElem?_getD,-getElem?_pos,-getElem?_neg,om,Rh,hBn,f0,f1,f2,f3,s0,s1,s2,s3,b0,b1,b2,b3,tk];clear f0 f1 f2 f3 s0 s1 s2 s3 b0 b1 b2 b3 tk;refine Wp.aX (fun (a:Nat×ag×AV×Fl)=>s.length-a.1) (fun a=> [some (.ptr k 0),some (.str s),none,some (.ptr n0 0),some (.int .i64 a.1),none,none,none,none,none,none,none]) (fun a=>aV (K a.2.2.2.b) a.2.2.1 a.2.1) (fun a=>(aB look s).1=a.2.1++(aB look (s.drop a.1)).1∧OO (lk0 || (aB look s).2) (a.2.2.2.b || (aB look (s.drop a.1)).2)∧a.1≤s.length∧a.2.1.length≤1000*a.1∧(a.2.2.1= .bG∨a.2.2.1= .ptr n0 0)) ?_ (0, [],.bG,⟨lk0⟩) ⟨by simp,rfl,by simp,by simp,.inl rfl⟩ (by simp) (by simp [aV,hBn]);rintro ⟨i,out,a,⟨lk⟩⟩ ⟨hi,hi2,hil,hol,ha⟩;simp only at hi hi2 hil hol ha⊢;have hi3:(lk0 || (aB look s).2)=(lk || (aB look (s.drop i)).2):=hi2;rw [hi,hi3];clear hi hi2 hi3;have hbl:=fL (hsh lk) (by rw [hBn];exact ha) out;rw [hBn] at hbl;have hBl: ∀lk a out,(aV (K lk) a out).length=n0+2:=fun lk a out=>by simp [aV,hBn]
 by_cases h1:i<s.length
 ·have hg:s[i]?=some (s.getD i 0):=by simp [List.getD_eq_getElem?_getD,h1]
  have hwb:=oV hbl (s.getD i 0) (by omega)
  have hst:gB (aV (K lk) a out) n0 (n0+1)=fun t=>aV (K lk) (.ptr n0 0) t:=by funext t;have:=gV (bs:=K lk) (a:=a) (s:=out) (t:=t);rw [hBn] at this;exact this
  rw [hst] at hwb;have hd:=yT s h1;have htl:(s.take s.length).drop i=s.drop i:=by rw [List.take_length]
  have hne:s.drop i≠ []:=by rw [hd];simp
  have hu:=yV (s.drop i) hne;rw [sc hne] at hu;unfold oT at hu;by_cases hp:(an (s.drop i)).2=0
  ·have he:aB look (s.drop i)=(s.getD i 0::(aB look (s.drop (i+1))).1,(aB look (s.drop (i+1))).2):=by rw [hd];exact lr look _ _ (by rw [←hd];exact hp)
   rw [he];rw [hp] at hu;generalize (an (s.drop i)).1=p1 at*
   generalize s.getD i 0=c at*
   have hk2:=hBl lk a out;have hk3:=hBl lk (.ptr n0 0) (out++ [c]);clear hd hp hget hbl hBl hst he;generalize hB2:aV (K lk) a out=B2 at*
   simp (maxSteps:=9^9) (disch:=omega) [-List.map_replicate,-List.map_set,-List.getD_eq_getElem?_getD,-getElem?_pos,-getElem?_neg,om,h1,hg,ah,hu,htl,hwb,hk2,hk3];exact ⟨i+1,out++ [c],.ptr n0 0,⟨lk⟩,⟨by simp,rfl,by omega,by simp;omega,.inr rfl⟩,by omega,by simp,rfl⟩
  ·obtain ⟨q1,q2,q3,q4,q5⟩:=(dh (s.drop i)).resolve_left (fun h=>hp (by rw [h]));have he:=jR look (s.drop i) hp;have hw:=hget lk a out (an (s.drop i)).1 ha;have hnx:=hv (an (s.drop i)).1;have hbl2:=fL (hsh (lk || (look (an (s.drop i)).1).isNone)) (by rw [hBn];exact ha) out;rw [hBn] at hbl2;have hws:=gh hbl2 ((look (an (s.drop i)).1).getD []) (by omega) (by omega)
   have hst2:gB (aV (K (lk || (look (an (s.drop i)).1).isNone)) a out) n0 (n0+1)=fun t=>aV (K (lk || (look (an (s.drop i)).1).isNone)) (.ptr n0 0) t:=by funext t;have:=gV (bs:=K (lk || (look (an (s.drop i)).1).isNone)) (a:=a) (s:=out) (t:=t);rw [hBn] at this;exact this
   rw [hst2] at hws;obtain ⟨n,hn⟩: ∃n:Nat,(an (s.drop i)).2=n:=⟨(an (s.drop i)).2.toNat,by omega⟩;rw [hn] at hu he q3 q4;rw [Int.toNat_natCast,List.drop_drop] at he;have q4':i+n≤s.length:=by simp at q4;omega
   have q3':0<n:=by omega
   have he2:aB look (s.drop i)=((look (an (s.drop i)).1).getD []++(aB look (s.drop (i+n))).1,((look (an (s.drop i)).1).isNone || (aB look (s.drop (i+n))).2)):=by rw [he];cases look (an (s.drop i)).1 <;> simp
   rw [he2];generalize (look (an (s.drop i)).1).getD []=x at*
   generalize (look (an (s.drop i)).1).isNone=no at*
   generalize (an (s.drop i)).1=p1 at*
   have hk2:=hBl lk a out;have hk3:=hBl (lk || no) (.ptr n0 0) (out++x);have hk4:=hBl (lk || no) a out;clear hd hp hget hbl hbl2 hBl hst hst2 he he2 hwb q1 q2 q3 q4 q5 hn;generalize hB2:aV (K lk) a out=B2 at*
   generalize hB3:aV (K (lk || no)) a out=B3 at*
   simp (maxSteps:=9^9) (disch:=omega) [-List.map_replicate,-List.map_set,-List.getD_eq_getElem?_getD,-getElem?_pos,-getElem?_neg,om,h1,hu,htl,hw,hws,hk2,hk3,hk4,q3'];exact ⟨i+n,out++x,.ptr n0 0,⟨lk || no⟩,⟨by simp,by simp [OO,Bool.or_assoc],by omega,by simp;omega,.inr rfl⟩,by omega,by simp,rfl⟩
 ·rw [List.drop_eq_nil_of_le (by omega),jz,List.append_nil,Bool.or_false];have hfin:(aV (K lk) a out).take n0=K lk:=by unfold aV;rw [←hBn lk];exact List.take_left' rfl
  by_cases h0:out= []
  ·subst h0;have hst:=rl hbl;have hfs:((aV (K lk) a []).set (n0+1) (.sl ⟨false,none,none⟩ 1 [])).take n0=K lk:=by unfold aV;rw [←hBn lk,cy];exact List.take_left' rfl
   have hk2:=hBl lk a [];have hmm:=hm lk;rw [hBn] at hmm;generalize aV (K lk) a []=B2 at*
   clear hget hsh hm hlk0 hBl;simp (maxSteps:=9^9) (disch:=omega) [-List.map_replicate,-List.map_set,-List.getD_eq_getElem?_getD,-getElem?_pos,-getElem?_neg,om,h1,hst,hfs,hmm,hk2,hBn]
  ·have hst:=nU hbl (by omega) h0;have hfs:((aV (K lk) a out).set (n0+1) (.sl ⟨false,none,none⟩ 1 (out.map ah))).take n0=K lk:=by unfold aV;rw [←hBn lk,cy];exact List.take_left' rfl
   have hk2:=hBl lk a out;have hmm:=hm lk;rw [hBn] at hmm;generalize aV (K lk) a out=B2 at*
   clear hget hsh hm hlk0 hBl;simp (maxSteps:=9^9) (disch:=omega) [-List.map_replicate,-List.map_set,-List.getD_eq_getElem?_getD,-getElem?_pos,-getElem?_neg,om,h1,hst,hfs,hmm,hk2,hBn]
end Go.Proofs.YtfnkchadeaedlaaGreatDoor
