/-
 depend.find, depend.word. depend.text: the text of a unit. depend.value, depend.Value: the value of a cell. The map of cells (a set): keys of two numbers. A range over the map of cells: where each birth is found, and what sorting the reads gives. depend.Reads: the reads of the section of a unit. Strings at one byte: Index, Cut at a blank, HasSuffix and TrimSuffix at a line feed, Split at a byte. depend.fact: the fact of a line. depend.compare, the search among reads, known.get. depend.sheet: what the text of a unit says. known.expand: a text with the citations of reads.
-/
import Derived.Test.YtfnkchadeaedlaaGreatDoorAdM
import Derived.Test.YtfnkchadeaedlaaGreatDoorEscM
import Derived.Test.YtfnkchadeaedlaaGreatDoorIrs
import Derived.Test.YtfnkchadeaedlaaGreatDoorStrM
import Derived.Test.YtfnkchadeaedlaaGreatDoorCatM
import Derived.Lib.Index
set_option linter.all false
namespace Go.Proofs.YtfnkchadeaedlaaGreatDoor
open Go.Am
set_option maxRecDepth 10000
set_option maxHeartbeats 4000000
theorem F2 (s:Sh) (u:Int) (B:List ab) (hB:shut B.length B=true) (hu:ab.at B 1= .var 3 [.int .i64 u]):ar cfg 176 [bk s,.ptr 1 0] B=some (.bool (s.unit==u),B):=by
 refine ad Rq Nx ?_;have hm:=shut_map (Nat.le_refl _) hB
 have h1:1<B.length:=by
  rcases Nat.lt_or_ge 1 B.length with h | h
  ·exact h
  ·have:ab.at B 1= .dead:=by simp [ab.at,List.getD_eq_getElem?_getD,List.getElem?_eq_none h]
   rw [this] at hu;cases hu
 have a1: ∀l,ab.at (B++l) 1= .var 3 [.int .i64 u]:=fun l=>by rw [eV _ _ h1,hu]
 unfold bk;simp (maxSteps:=9^9) (disch:=omega) [-List.map_replicate,-List.map_set,-List.getD_eq_getElem?_getD,-getElem?_pos,-getElem?_neg,om,Lk,a1,hm]
 try exact List.take_left' (by simp)
theorem H6 (c:Ct) (hc:c.ok) (u:Int):ar cfg 134 [bM c,.int .i64 u] []=some (.int .i64 (cH (aP c.an u)), []):=by
 refine ad Rr Ny ?_;have h:=zo c.sn c.sz c.an hc.sz hc.sl 176 ⟨rfl,rfl,rfl,rfl⟩ 1 [.var 26 (di c),.var 3 [.int .i64 u]] u (fun s=>F2 s u _ (by simp [shut,aw,AV.under,di]) rfl) (by simp) (by simp [shut,aw,AV.under,di]);unfold bM di at*
 generalize au c.aa=L1 at*
 generalize c.av.map cM=L2 at*
 generalize c.an.map bk=L3 at*
 simp (maxSteps:=9^9) (disch:=omega) [-List.map_replicate,-List.map_set,-List.getD_eq_getElem?_getD,-getElem?_pos,-getElem?_neg,om,Ll,h]
theorem bX:Lib.fields [102,111,110,100,115,32,115,101,114,105,101,115,32,102,105,108,101,32,105,116,101,109]= [[102,111,110,100,115], [115,101,114,105,101,115], [102,105,108,101], [105,116,101,109]]:=by decide+kernel
theorem ED (lev:Int) (h1:1≤lev) (h4:lev≤4):ar cfg 66 [.int .i64 lev] []=some (.str (gf lev), []):=by
 refine ad Ty Rs ?_;have h:lev=1∨lev=2∨lev=3∨lev=4:=by omega
 rcases h with rfl | rfl | rfl | rfl
 ·simp (maxSteps:=9^9) (disch:=omega) [-List.map_replicate,-List.map_set,-List.getD_eq_getElem?_getD,-getElem?_pos,-getElem?_neg,om,H7,ep,bX,gf]
 ·simp (maxSteps:=9^9) (disch:=omega) [-List.map_replicate,-List.map_set,-List.getD_eq_getElem?_getD,-getElem?_pos,-getElem?_neg,om,H7,ep,bX,gf]
 ·simp (maxSteps:=9^9) (disch:=omega) [-List.map_replicate,-List.map_set,-List.getD_eq_getElem?_getD,-getElem?_pos,-getElem?_neg,om,H7,ep,bX,gf]
 ·simp (maxSteps:=9^9) (disch:=omega) [-List.map_replicate,-List.map_set,-List.getD_eq_getElem?_getD,-getElem?_pos,-getElem?_neg,om,H7,ep,bX,gf]
theorem Dp {bs l:List ab} (hs:shut bs.length bs=true) (hl: ∀m,shut m l=true) {a:AV} (ha:a= .bJ∨a= .ptr bs.length 0) (s:ae):LV (aZ bs a s++l) bs.length (bs.length+1) a s:=by
 unfold aZ;refine ⟨?_,?_,by omega,ha,by simp,by simp,?_⟩
 ·rw [List.append_assoc,wA];rfl
 ·rw [List.append_assoc,dX];rfl
 ·rw [dY,dY,ie (by simp) hs,hl];rcases ha with rfl | rfl <;> simp [shut,aw,AV.under]
theorem Dq {bs l:List ab} {a:AV} {s t:ae}:gN (aZ bs a s++l) bs.length (bs.length+1) t=aZ bs (.ptr bs.length 0) t++l:=by unfold gN aZ;rw [List.append_assoc,tW,cB,List.append_assoc];rfl
theorem Kf (c:Ct) (hc:c.ok) (u:Int) (lang:ae) (hr:aU c lang=true):ar cfg 82 [bM c,.int .i64 u,.str lang] []=some (.str (match cI c u with
  | some s=>Bz Lib.itoa esc (gf s.level) s.title s.mark (aq (ak c.aa lang) s.facts)
  | none=> []), []):=by
 have h1:=H6 c hc u;obtain ⟨nl,z,h2,h2z⟩:=wE c hc u lang;have hch:aX c u lang=aq (ak c.aa lang) (gQ c u):=by unfold aX;rw [if_pos hr]
 rw [hch] at h2 h2z;have hk:fX c=0:=by unfold aU at hr;simp at hr;exact hr.1
 have hok:=cE hk;refine ad Tz Rt ?_;cases hx:aP c.an u with
 | none=>
  have hsU:cI c u=none:=by unfold cI;rw [hx]
  rw [hx] at h1;simp only [hsU];unfold bM di at*
  generalize au c.aa=L1 at*
  generalize c.av.map cM=L2 at*
  generalize c.an.map bk=L3 at*
  simp (maxSteps:=9^9) (disch:=omega) [-List.map_replicate,-List.map_set,-List.getD_eq_getElem?_getD,-getElem?_pos,-getElem?_neg,om,Nz,h1,cH]
 | some i=>
  rw [hx] at h1;have hi:=ef hx;have hgo:c.an[i]?=some c.an[i]:=List.getElem?_eq_getElem hi;have hsU:cI c u=some c.an[i]:=by unfold cI;rw [hx];exact hgo
  have hfU:gQ c u=c.an[i].facts:=by unfold gQ;rw [hsU]
  rw [hfU] at h2 h2z;have hsz:=hc.sz (ne_of_lt hi);have hg:(c.an.map bk)[i]?=some (.agg [.int .i64 c.an[i].unit,.int .i64 c.an[i].par,.int .i64 c.an[i].level,.str c.an[i].mark,.str c.an[i].title,.ah c.an[i].fn c.an[i].fz (c.an[i].facts.map er)]):=get_map _ _ hi;have hEl:(c.an.map bk).length=c.an.length:=by simp
  have hso:=hok.an _ (List.getElem_mem hi);have hil:i<1000000:=by have:=hc.sl;omega
  simp only [hsU];have hw:=ED c.an[i].level hso.l1 hso.l2;have ht:=tK c.an[i].title (by have:=hso.zA;omega);have hm:=tK c.an[i].mark (by have:=hso.mark;omega);have htl:=jn c.an[i].title;have hml:=jn c.an[i].mark;have htl2:=hso.zA;have hml2:=hso.mark
  have htg:(gf c.an[i].level).length≤6:=by
   unfold gf
   repeat' split
   all_goals simp
  unfold bM di at*
  generalize c.an[i]=x at*
  generalize au c.aa=L1 at*
  generalize c.av.map cM=L2 at*
  generalize c.an.map bk=L3 at*
  rw [hsz] at*
  obtain ⟨Y1,hY1⟩: ∃Y,Y=gf x.level++32::(esc x.title++ [10]):=⟨_,rfl⟩;obtain ⟨Y2,hY2⟩: ∃Y,Y=Y1++([109,97,114,107,32]++(esc x.mark++ [10])):=⟨_,rfl⟩;have hY1l:Y1.length≤264:=by rw [hY1];simp;omega
  have hbs:shut 2 [.var 26 [.ah c.ln c.lz L1,.ah c.bn c.bz L2,.ah c.sn 6 L3],.var 73 [.int .i64 x.unit,.int .i64 x.par,.int .i64 x.level,.str x.mark,.str x.title,.ah x.fn x.fz (x.facts.map er)]]=true:=by simp [shut,aw,AV.under]
  have hw1:=gy (gd (bs:= [.var 26 [.ah c.ln c.lz L1,.ah c.bn c.bz L2,.ah c.sn 6 L3],.var 73 [.int .i64 x.unit,.int .i64 x.par,.int .i64 x.level,.str x.mark,.str x.title,.ah x.fn x.fz (x.facts.map er)]]) hbs (a:= .bJ) (.inl rfl) []) (gf x.level++32::(esc x.title++ [10])) (by simp) (by simp;omega);have hw2:=gy (gd (bs:= [.var 26 [.ah c.ln c.lz L1,.ah c.bn c.bz L2,.ah c.sn 6 L3],.var 73 [.int .i64 x.unit,.int .i64 x.par,.int .i64 x.level,.str x.mark,.str x.title,.ah x.fn x.fz (x.facts.map er)]]) hbs (a:= .ptr 2 0) (.inr rfl) Y1) ([109,97,114,107,32]++(esc x.mark++ [10])) (by omega) (by simp;omega);rw [iB,List.nil_append] at hw1;replace hw1:ar cfg 126 [.ptr 2 0,.str (gf x.level++32::(esc x.title++ [10]))] (aZ [.var 26 [.ah c.ln c.lz L1,.ah c.bn c.bz L2,.ah c.sn 6 L3],.var 73 [.int .i64 x.unit,.int .i64 x.par,.int .i64 x.level,.str x.mark,.str x.title,.ah x.fn x.fz (x.facts.map er)]] .bJ [])=some (.aO [.int .i64 ((gf x.level++32::(esc x.title++ [10])).length:Nat),.fq false],aZ [.var 26 [.ah c.ln c.lz L1,.ah c.bn c.bz L2,.ah c.sn 6 L3],.var 73 [.int .i64 x.unit,.int .i64 x.par,.int .i64 x.level,.str x.mark,.str x.title,.ah x.fn x.fz (x.facts.map er)]] (.ptr 2 0) Y1):=by rw [hY1];exact hw1
  rw [iB,←hY2] at hw2;have hY2l:Y2.length≤1000:=by rw [hY2];simp;omega
  simp only [aZ,List.cons_append,List.nil_append,List.length_nil,List.map_nil,List.length_cons,Nat.zero_add,Nat.reduceAdd] at hw1 hw2;simp (maxSteps:=9^9) (disch:=omega) [-List.map_replicate,-List.map_set,-List.getD_eq_getElem?_getD,-getElem?_pos,-getElem?_neg,om,Nz,h1,h2,cH,hg,hEl,hi,af,hw,ht,hm,hw1,hw2];have hCHl:(aq (ak c.aa lang) x.facts).length≤32:=Nat.le_trans (fr _ _) hso.HU;have hE: ∀k (h:k<(aq (ak c.aa lang) x.facts).length),((aq (ak c.aa lang) x.facts).map er)[k]?=some (.agg [.int .i64 (aq (ak c.aa lang) x.facts)[k].el,.str (aq (ak c.aa lang) x.facts)[k].lang,.str (aq (ak c.aa lang) x.facts)[k].text]):=fun k h=>get_map _ _ h;have hF: ∀k (h:k<(aq (ak c.aa lang) x.facts).length),Db c.aa (aq (ak c.aa lang) x.facts)[k]:=fun k h=>hso.facts _ (ba (List.getElem_mem h));have hEl2:((aq (ak c.aa lang) x.facts).map er).length=(aq (ak c.aa lang) x.facts).length:=by simp
  have hT:Bz Lib.itoa esc (gf x.level) x.title x.mark (aq (ak c.aa lang) x.facts)=Y2++(aq (ak c.aa lang) x.facts).flatMap fun f=>Lib.itoa f.el++ [32]++esc f.text++ [10]:=by rw [hY2,hY1];simp [Bz,mR]
  have hY2n:Y2≠ []:=by rw [hY2];simp
  generalize aq (ak c.aa lang) x.facts=CH at*
  generalize hTT:Bz Lib.itoa esc (gf x.level) x.title x.mark CH=TT at*
  generalize CH.map er=CA at*
  clear hw1 hw2 hY1 hY2 hg h1 h2 hw ht hm hTT
  refine Wp.bw (fun (a:Nat×ae)=>CH.length-a.1) (fun a=> [none,none,none,none,none,none,none,some (.ptr 2 0),none,none,none,none,none,none,none,some (.ah nl z CA),some (.int .i64 CH.length),some (.int .i64 a.1),none,none,none,none,none]) (fun a=> [.var 26 [.ah c.ln c.lz L1,.ah c.bn c.bz L2,.ah c.sn 6 L3],.var 73 [.int .i64 x.unit,.int .i64 x.par,.int .i64 x.level,.str x.mark,.str x.title,.ah x.fn x.fz (x.facts.map er)],.var 159 [.ptr 2 0,.az 3 a.2.length],.sl ⟨false,some 5,none⟩ 1 (a.2.map aj)])
   (fun a=>(TT=a.2++(CH.drop a.1).flatMap fun f=>Lib.itoa f.el++ [32]++esc f.text++ [10])∧a.1≤CH.length∧a.2.length≤1000+20000*a.1∧a.2≠ []) ?_ (0,Y2) ⟨by simpa using hT,by simp,by simp;omega,hY2n⟩ (by simp) (by simp)
  rintro ⟨k,out⟩ ⟨hk1,hkl,hol,hon⟩;simp only at hk1 hkl hol hon⊢;rw [hk1];by_cases h3:k<CH.length
  ·have hgk:=hE k h3;have hfk:=hF k h3;obtain rfl:=h2z (ne_of_lt h3);rw [List.drop_eq_getElem_cons h3,List.flatMap_cons] at hk1⊢;clear hE hF;generalize CH[k]=f at*
   have hel:=tK f.text (by have:=hfk.len;omega);have hetl:=jn f.text;have hfl:=hfk.len;have hitl:=Lib.itoa_length_le f.el (by have:=hfk.E0;omega) (by have:=hfk.IL;omega);have hid1: -9223372036854775808≤f.el:=by have:=hfk.E0;omega
   have hid2:f.el≤9223372036854775807:=by have:=hfk.IL;omega
   obtain ⟨Y3,hY3⟩: ∃Y,Y=out++(Lib.itoa f.el++32::(esc f.text++ [10])):=⟨_,rfl⟩;have hw3:=gy (Dp (bs:= [.var 26 [.ah c.ln c.lz L1,.ah c.bn c.bz L2,.ah c.sn 6 L3],.var 73 [.int .i64 x.unit,.int .i64 x.par,.int .i64 x.level,.str x.mark,.str x.title,.ah x.fn x.fz (x.facts.map er)]]) (l:= [.var 79 [.int .i64 f.el,.str f.lang,.str f.text]]) hbs (fun m=>rfl) (a:= .ptr 2 0) (.inr rfl) out) (Lib.itoa f.el++32::(esc f.text++ [10])) (by omega) (by simp;omega);rw [Dq,←hY3] at hw3;have hY3l:Y3.length≤1000+20000*(k+1):=by rw [hY3];simp;omega
   have hY3n:Y3≠ []:=by rw [hY3];simp
   have hk2:out++((Lib.itoa f.el++ [32]++esc f.text++ [10])++(CH.drop (k+1)).flatMap fun f=>Lib.itoa f.el++ [32]++esc f.text++ [10])=Y3++(CH.drop (k+1)).flatMap fun f=>Lib.itoa f.el++ [32]++esc f.text++ [10]:=by rw [hY3];simp
   rw [hk2] at hk1⊢;rw [←hk1];simp only [aZ,List.cons_append,List.nil_append,List.length_nil,List.length_cons,Nat.zero_add,Nat.reduceAdd] at hw3;generalize hit:Lib.itoa f.el=it at*
   clear hY3 hk2;simp (maxSteps:=9^9) (disch:=omega) [-List.map_replicate,-List.map_set,-List.getD_eq_getElem?_getD,-getElem?_pos,-getElem?_neg,om,h3,hgk,af,zr,hid1,hid2,hit,hel,hw3];exact ⟨k+1,Y3,⟨by rw [hk1];simp,by omega,by omega,hY3n⟩,by omega,by omega,rfl,rfl⟩
  ·rw [List.drop_eq_nil_of_le (by omega),List.flatMap_nil,List.append_nil] at hk1⊢;have hst:=oD (gd (bs:= [.var 26 [.ah c.ln c.lz L1,.ah c.bn c.bz L2,.ah c.sn 6 L3],.var 73 [.int .i64 x.unit,.int .i64 x.par,.int .i64 x.level,.str x.mark,.str x.title,.ah x.fn x.fz (x.facts.map er)]]) hbs (a:= .ptr 2 0) (.inr rfl) out) (by omega) hon;simp only [aZ,List.cons_append,List.nil_append,List.length_nil,List.length_cons,Nat.zero_add,Nat.reduceAdd] at hst;simp (maxSteps:=9^9) (disch:=omega) [-List.map_replicate,-List.map_set,-List.getD_eq_getElem?_getD,-getElem?_pos,-getElem?_neg,om,h3,hst]
theorem rW (c:Ct) (hc:c.ok) (root:Int) (lang:ae) (x:Int×Int) (hr:aU c lang=true):ar cfg 41 [bM c,.int .i64 root,.str lang,.agg [.int .i64 x.1,.int .i64 x.2]] []=some (.str (vE Lib.itoa esc c lang root x), []):=by
 have hk:fX c=0:=by unfold aU at hr;simp at hr;exact hr.1
 have h1:=qT c hc root x.2;have h2:=Kf c hc x.2 lang hr;have h3:=GS c hc x.2 lang;have h4:=GR c hc x.2;rw [if_pos hk] at h1 h4;have h3e:(if x.2<1∨64<x.2∨aU c lang=false then [] else fI (ak c.aa lang) c.av x.2 (fp Lib.itoa x.2))=(if x.2<1∨64<x.2 then [] else fI (ak c.aa lang) c.av x.2 (fp Lib.itoa x.2)):=by rw [hr];simp
 rw [h3e] at h3;refine ad TA Ru ?_;unfold vE
 generalize hV2:(match cI c x.2 with
  | some s=>Bz Lib.itoa esc (gf s.level) s.title s.mark (aq (ak c.aa lang) s.facts)
  | none=>([]:ae))=V2 at*
 generalize (if x.2<1∨64<x.2 then ([]:ae) else fI (ak c.aa lang) c.av x.2 (fp Lib.itoa x.2))=V3 at*
 generalize bZ Lib.itoa c root x.2=V1 at*
 generalize et c.an x.2=V4 at*
 clear h3e;unfold bM di at*
 generalize au c.aa=L1 at*
 generalize c.av.map cM=L2 at*
 generalize c.an.map bk=L3 at*
 obtain ⟨k,u⟩:=x;simp only at*
 by_cases e1:k=1
 ·simp (maxSteps:=9^9) (disch:=omega) [-List.map_replicate,-List.map_set,-List.getD_eq_getElem?_getD,-getElem?_pos,-getElem?_neg,om,F3,e1,h1]
 by_cases e2:k=2
 ·simp (maxSteps:=9^9) (disch:=omega) [-List.map_replicate,-List.map_set,-List.getD_eq_getElem?_getD,-getElem?_pos,-getElem?_neg,om,F3,e2,h2]
  first | (cases cI c u <;> rfl) | (rw [←hV2];cases cI c u <;> rfl) | rfl
 by_cases e3:k=3
 ·simp (maxSteps:=9^9) (disch:=omega) [-List.map_replicate,-List.map_set,-List.getD_eq_getElem?_getD,-getElem?_pos,-getElem?_neg,om,F3,e3,h3]
 by_cases e4:k=4
 ·simp (maxSteps:=9^9) (disch:=omega) [-List.map_replicate,-List.map_set,-List.getD_eq_getElem?_getD,-getElem?_pos,-getElem?_neg,om,F3,e4,h4]
 simp (maxSteps:=9^9) (disch:=omega) [-List.map_replicate,-List.map_set,-List.getD_eq_getElem?_getD,-getElem?_pos,-getElem?_neg,om,F3,e1,e2,e3,e4]
theorem nO (c:Ct) (hc:c.ok) (root:Int) (lang:ae) (x:Int×Int):ar cfg 16 [bM c,.int .i64 root,.str lang,.agg [.int .i64 x.1,.int .i64 x.2]] []=some (.str (if aU c lang=true then vE Lib.itoa esc c lang root x else []), []):=by
 refine ad TB Rv ?_;have h1:=zD c hc lang;cases hr:aU c lang with
 | true=>
  have h2:=rW c hc root lang x hr;rw [hr] at h1;unfold bM di at*
  generalize au c.aa=L1 at*
  generalize c.av.map cM=L2 at*
  generalize c.an.map bk=L3 at*
  simp (maxSteps:=9^9) (disch:=omega) [-List.map_replicate,-List.map_set,-List.getD_eq_getElem?_getD,-getElem?_pos,-getElem?_neg,om,NA,h1,h2]
 | false=>
  rw [hr] at h1;unfold bM di at*
  generalize au c.aa=L1 at*
  generalize c.av.map cM=L2 at*
  generalize c.an.map bk=L3 at*
  simp (maxSteps:=9^9) (disch:=omega) [-List.map_replicate,-List.map_set,-List.getD_eq_getElem?_getD,-getElem?_pos,-getElem?_neg,om,NA,h1]
def mY (z:Cell):AV:= .agg [.int .i64 z.1,.int .i64 z.2]
def nX (e:Cell×Nat):AV×AV×Nat:=(mY e.1,.bool true,e.2)
def mZ (z:Cell):List (Cell×Nat)→Nat→Option (Nat×Cell×Nat)
 | [],_=>none
 | e::r,i=>if e.1=z then some (i,e) else mZ z r (i+1)
theorem EF (z:Cell): ∀(m:List (Cell×Nat)) (i:Nat),jy (bH cfg 20 28) (mY z) (m.map nX) i=some ((mZ z m i).map fun p=>(p.1,nX p.2))
 | [],i=>rfl
 | e::r,i=>by
  have ih:=EF z r (i+1);have he:bH cfg 20 28 (mY z) (nX e).1=some (z.1==e.1.1&&z.2==e.1.2):=by simp (config:={maxSteps:=1000000}) (disch:=omega) [-List.map_replicate,-List.map_set,-List.getD_eq_getElem?_getD,-getElem?_pos,-getElem?_neg,wrap_i64,nk,jz,jA,ig,nX,mY]
  simp only [List.map_cons,jy,he,mZ];by_cases hs:e.1=z
  ·subst hs;simp
  ·have hs2:(z.1==e.1.1&&z.2==e.1.2)=false:=by
    cases h:(z.1==e.1.1&&z.2==e.1.2) with
    | false=>rfl
    | true=>simp at h;exact absurd (Prod.ext h.1.symm h.2.symm) hs
   simp only [hs2,if_neg hs];exact ih
theorem po (z:Cell): ∀(m:List (Cell×Nat)) (i j:Nat) (e:Cell×Nat),mZ z m i=some (j,e)→i≤j∧m[j-i]?=some e∧e.1=z
 | [],i,j,e,h=>by cases h
 | x::r,i,j,e,h=>by
  simp only [mZ] at h;split at h
  ·rename_i hs;cases h;exact ⟨Nat.le_refl _,by simp,hs⟩
  ·obtain ⟨h1,h2,h3⟩:=po z r (i+1) j e h;refine ⟨by omega,?_,h3⟩;rw [show j-i=(j-(i+1))+1 by omega];simpa using h2
def fY (m:List (Cell×Nat)) (clock:Nat) (z:Cell):List (Cell×Nat):=match mZ z m 0 with
 | some _=>m
 | none=>m++ [(z,clock)]
def ff (m:List (Cell×Nat)) (clock:Nat) (z:Cell):Nat:=match mZ z m 0 with
 | some _=>clock
 | none=>clock+1
theorem NB {bs:List ab} {k clock:Nat} {m:List (Cell×Nat)} (h:ab.at bs k= .mp (m.map nX) clock) (z:Cell):aQ cfg (cfg.ti 82) (.cw k) (mY z) (.bool true) bs=some (.aO [],.gZ k (.mp ((fY m clock z).map nX) (ff m clock z))):=by
 have hf:=EF z m 0;unfold fY ff;cases hq:mZ z m 0 with
 | none=>rw [hq] at hf;unfold mY at*;simp [aQ,cD,iD,iR,gA,gg,hZ,h,hf,-bH,nX,mY]
 | some p=>
  obtain ⟨j,e⟩:=p;obtain ⟨_,hj,he⟩:=po z m 0 j e hq;rw [hq] at hf;subst he
  have hset:(m.map nX).set j (mY e.1,.bool true,e.2)=m.map nX:=by
   apply List.ext_getElem?;intro i;by_cases hi:j=i
   ·subst hi;simp only [Nat.sub_zero] at hj
    have hl:j<m.length:=by
     rcases Nat.lt_or_ge j m.length with h' | h'
     ·exact h'
     ·rw [List.getElem?_eq_none h'] at hj;cases hj
    rw [List.getElem?_set_self (by simpa using hl),List.getElem?_map,hj];rfl
   ·rw [List.getElem?_set_ne hi]
  unfold mY at*
  simp [aQ,cD,iD,iR,gA,gg,hZ,h,hf,-bH,nX,mY,sameKey,iP,kv,hset]
theorem vI (z:Cell): ∀(m:List (Cell×Nat)) (i:Nat),mZ z m i=none→ ∀e∈m,e.1≠z
 | [],_,_,_,h=>by cases h
 | x::r,i,h,e,he=>by
  simp only [mZ] at h;split at h
  ·cases h
  ·rename_i hs;rcases List.mem_cons.mp he with rfl | he
   ·exact hs
   ·exact vI z r (i+1) h e he
structure BC (m:List (Cell×Nat)) (clock:Nat):Prop where
 keys:(m.map Prod.fst).Nodup
 born:(m.map Prod.snd).Nodup
 lt: ∀e∈m,e.2<clock
theorem jV {m:List (Cell×Nat)} {clock:Nat} (h:BC m clock) (z:Cell):BC (fY m clock z) (ff m clock z)∧ ∀y,y∈(fY m clock z).map Prod.fst↔y∈m.map Prod.fst∨y=z:=by
 unfold fY ff;cases hq:mZ z m 0 with
 | some p=>
  obtain ⟨j,e⟩:=p;obtain ⟨_,hj,he⟩:=po z m 0 j e hq;refine ⟨h,fun y=>⟨.inl,fun hy=> ?_⟩⟩;rcases hy with hy | rfl
  ·exact hy
  ·exact List.mem_map.mpr ⟨e,List.mem_of_getElem? hj,he⟩
 | none=>
  have hn:=vI z m 0 hq;refine ⟨⟨?_,?_,?_⟩,fun y=>by simp⟩
  ·simp only [List.map_append,List.map_cons,List.map_nil];refine List.nodup_append.mpr ⟨h.keys,by simp,fun a ha b hb=> ?_⟩;obtain ⟨e,he,rfl⟩:=List.mem_map.mp ha;simp at hb;subst hb;exact hn e he
  ·simp only [List.map_append,List.map_cons,List.map_nil];refine List.nodup_append.mpr ⟨h.born,by simp,fun a ha b hb=> ?_⟩;obtain ⟨e,he,rfl⟩:=List.mem_map.mp ha;simp at hb;subst hb;have:=h.lt e he;omega
  ·intro e he;rcases List.mem_append.mp he with he | he
   ·exact Nat.lt_succ_of_lt (h.lt e he)
   ·simp at he;subst he;simp
def br (l:List (Cell×ae)):List AV:=l.map lM
theorem dc: ∀l:List (Cell×ae),ai (br l)=true
 | []=>rfl
 | x::r=>by simp [br,lM,ai,AV.plain];exact dc r
theorem nP {α β:Type} {f:α→β}: ∀{M:List α} {a b:α},(M.map f).Nodup→a∈M→b∈M→f a=f b→a=b
 | x::r,a,b,hn,ha,hb,h=>by
  rw [List.map_cons,List.nodup_cons] at hn;rcases List.mem_cons.1 ha with rfl | ha'
  ·rcases List.mem_cons.1 hb with rfl | hb'
   ·rfl
   ·exact absurd (h▸List.mem_map.mpr ⟨b,hb',rfl⟩) hn.1
  ·rcases List.mem_cons.1 hb with rfl | hb'
   ·exact absurd (h▸List.mem_map.mpr ⟨a,ha',rfl⟩) hn.1
   ·exact nP hn.2 ha' hb' h
theorem Lm: ∀(M:List (Cell×Nat)) (i:Nat) (e:Cell×Nat),e∈M→(M.map Prod.snd).Nodup→ ∃j,sd (e.2:Int) (M.map nX) i=some (j,nX e)
 | x::r,i,e,he,hn=>by
  have hn2:=hn;rw [List.map_cons,List.nodup_cons] at hn2;simp only [List.map_cons,sd];by_cases hx:x.2=e.2
  ·have hxe:=nP hn (List.mem_cons_self ..) he hx;subst hxe;exact ⟨i,by simp [nX]⟩
  ·have he:e∈r:=by
    rcases List.mem_cons.1 he with h | h
    ·exact absurd (by rw [h]) hx
    ·exact h
   obtain ⟨j,hj⟩:=Lm r (i+1) e he hn2.2;refine ⟨j,?_⟩;rw [if_neg (by simp only [nX];omega)];exact hj
theorem pq {α β:Type} [DecidableEq α] {f:α→β}: ∀{l M:List α},(l.map f).Nodup→(∀e∈l,e∈M)→l.length≤M.length
 | [],M,_,_=>by simp
 | x::r,M,hn,h=>by
  rw [List.map_cons,List.nodup_cons] at hn;have hx:=h x (List.mem_cons_self ..)
  have h2:=pq (l:=r) (M:=M.erase x) hn.2 fun e he=>(List.mem_erase_of_ne (by
   rintro rfl;exact hn.1 (List.mem_map.mpr ⟨e,he,rfl⟩))).2 (h e (List.mem_cons_of_mem _ he))
  rw [List.length_erase_of_mem hx] at h2;have:0<M.length:=List.length_pos_of_mem hx;simp only [List.length_cons];omega
theorem Dr {M:List (Cell×Nat)} {clock:Nat} (h:BC M clock) {S:List Cell} (hS:fD S) (hM: ∀z,z∈M.map Prod.fst↔z∈S) (val:Cell→ae) {l:List (Cell×Nat)} (hl: ∀e∈l,e∈M) (hn:(l.map Prod.snd).Nodup) (hall: ∀e∈M,(l.map Prod.snd).contains e.2=true):
  ((l.map fun e=>(e.1,val e.1)).map Prod.fst).Nodup∧qJ (l.map fun e=>(e.1,val e.1))=S.map fun z=>(z,val z):=by
 have hmem: ∀e∈M,e∈l:=fun e he=>by
  have h1:=hall e he;rw [List.contains_iff_mem] at h1;obtain ⟨e',h2,h3⟩:=List.mem_map.1 h1;have:=nP h.born (hl _ h2) he h3
  rwa [←this]
 have hk:(l.map Prod.fst).Nodup:=by unfold List.Nodup at hn⊢;rw [List.pairwise_map] at hn⊢;refine List.Pairwise.imp_of_mem (fun {a b} ha hb hab hf=> ?_) hn;exact hab (by rw [nP h.keys (hl _ ha) (hl _ hb) hf])
 have he:(l.map fun e=>(e.1,val e.1)).map Prod.fst=l.map Prod.fst:=by simp
 rw [he];refine ⟨hk,?_⟩;have hp:(qJ (l.map fun e=>(e.1,val e.1))).Perm (l.map fun e=>(e.1,val e.1)):=by unfold qJ;exact List.mergeSort_perm _ _
 refine y6 hS (fun r hr=> ?_) (fun z=> ?_) ?_ ?_
 ·obtain ⟨e,_,rfl⟩:=List.mem_map.1 (hp.mem_iff.1 hr);rfl
 ·rw [←hM,(hp.map Prod.fst).mem_iff,he];constructor
  ·intro hz;obtain ⟨e,h1,rfl⟩:=List.mem_map.1 hz;exact List.mem_map.mpr ⟨e,hl _ h1,rfl⟩
  ·intro hz;obtain ⟨e,h1,rfl⟩:=List.mem_map.1 hz;exact List.mem_map.mpr ⟨e,hmem _ h1,rfl⟩
 ·rw [(hp.map Prod.fst).nodup_iff,he];exact hk
 ·rw [List.pairwise_map];unfold qJ
  have hs:=List.pairwise_mergeSort (le:=fun x y:Cell×ae=> !decide (jo y.1 x.1<0)) (fun a b c h1 h2=>by
   simp only [Bool.not_eq_true',decide_eq_false_iff_not,iq] at h1 h2⊢;rw [iu] at*;omega) (fun a b=>by
   simp only [Bool.or_eq_true,Bool.not_eq_true',decide_eq_false_iff_not,iq];rw [iu,iu];omega) (l.map fun e=>(e.1,val e.1))
  refine hs.imp fun {a b} hab=> ?_;simp only [Bool.not_eq_true',decide_eq_false_iff_not,iq] at hab;exact hab
set_option maxHeartbeats 8000000
def rX (t:ae) (j:Nat):List Cell:=(List.range j).filterMap fun i=>if (ao (t.drop i)).2=0 then none else some (4,(ao (t.drop i)).1)
theorem sW (t:ae) (j:Nat) (z:Cell):z∈rX t (j+1)↔z∈rX t j∨((ao (t.drop j)).2≠0∧z=(4,(ao (t.drop j)).1)):=by
 unfold rX;rw [List.range_succ,List.filterMap_append,List.mem_append];by_cases h:(ao (t.drop j)).2=0
 ·simp [h]
 ·simp [h]
theorem kP (m:List (Cell×Nat)) (c:Nat) (z:Cell):(fY m c z).length≤m.length+1:=by unfold fY;split <;> simp
theorem BD (n:Nat):ed n∘nX=nX:=by funext x;simp [ed,nX,forget,mY]
theorem sX (n:Nat) (m:List (Cell×Nat)):dN n (m.map nX)=true:=by apply sG;intro x;simp [nX,AV.under]
theorem xM (n:Int) (h1:1≤n) (h2:n≤64):Lib.itoa n=lX n.toNat:=by
 obtain ⟨k,rfl⟩:=Int.eq_ofNat_of_zero_le (show 0≤n by omega);unfold Lib.itoa lX;rw [if_neg (by omega)];simp only [Int.toNat_natCast,Int.natAbs_natCast];by_cases h:k<10
 ·rw [if_pos h,Lib.decDigits,dif_pos h]
 ·rw [if_neg h,Lib.decDigits,dif_neg h,Lib.decDigits,dif_pos (by omega)];rfl
def qK (u:Int) (CH:List Fc) (k:Nat) (M:List (Cell×Nat)):Prop:= ∀y,y∈M.map Prod.fst↔y∈(CH.take k).flatMap cn∨y=(1,u)∨y=(2,u)
def jq (M1:List (Cell×Nat)) (t:ae) (j:Nat) (M:List (Cell×Nat)):Prop:= ∀y,y∈M.map Prod.fst↔y∈M1.map Prod.fst∨y∈rX t j
theorem jq.start (M1:List (Cell×Nat)) (t:ae):jq M1 t 0 M1:=fun y=>by simp [rX]
theorem jq.skip {M1 M:List (Cell×Nat)} {t:ae} {j:Nat} (h:jq M1 t j M) (h0:(ao (t.drop j)).2=0):jq M1 t (j+1) M:=fun y=>by
 rw [h y,sW];constructor
 ·rintro (q | q)
  ·exact .inl q
  ·exact .inr (.inl q)
 ·rintro (q | q | q)
  ·exact .inl q
  ·exact .inr q
  ·exact absurd h0 q.1
theorem jq.put {M1 M M':List (Cell×Nat)} {t:ae} {j:Nat} (h:jq M1 t j M) (h0:(ao (t.drop j)).2≠0) (hm: ∀y,y∈M'.map Prod.fst↔y∈M.map Prod.fst∨y=(4,(ao (t.drop j)).1)):jq M1 t (j+1) M':=fun y=>by
 rw [hm y,h y,sW];constructor
 ·rintro ((q | q) | q)
  ·exact .inl q
  ·exact .inr (.inl q)
  ·exact .inr (.inr ⟨h0,q⟩)
 ·rintro (q | q | q)
  ·exact .inl (.inl q)
  ·exact .inl (.inr q)
  ·exact .inr q.2
theorem qK.next {u:Int} {CH:List Fc} {k:Nat} (hk:k<CH.length) {M M1 M2:List (Cell×Nat)} (h:qK u CH k M) (h1: ∀y,y∈M1.map Prod.fst↔y∈M.map Prod.fst∨y=(3,CH[k].el)) (h2:jq M1 CH[k].text CH[k].text.length M2):qK u CH (k+1) M2:=fun y=>by
 have hc:rX CH[k].text CH[k].text.length=eP CH[k].text:=rfl;rw [h2 y,h1 y,h y,hc,tN CH hk,List.flatMap_append,List.mem_append];have:y∈ [CH[k]].flatMap cn↔y=(3,CH[k].el)∨y∈eP CH[k].text:=by simp [cn]
 rw [this];constructor
 ·rintro (((q | q | q) | q) | q)
  ·exact .inl (.inl q)
  ·exact .inr (.inl q)
  ·exact .inr (.inr q)
  ·exact .inl (.inr (.inl q))
  ·exact .inl (.inr (.inr q))
 ·rintro ((q | q | q) | q | q)
  ·exact .inl (.inl (.inl q))
  ·exact .inl (.inr q)
  ·exact .inr q
  ·exact .inl (.inl (.inr (.inl q)))
  ·exact .inl (.inl (.inr (.inr q)))
theorem xN (c:Ct) (hc:c.ok) (root u:Int) (lang:ae) (h0:cZ c root lang=0) (h1:bZ Lib.itoa c root u≠ []):
  ar cfg 12 [bM c,.int .i64 root,.str lang,.int .i64 u] []=some (.aO [.ah none 3 (((cellsOf u (aX c u lang)).map fun z=>(z,vE Lib.itoa esc c lang root z)).map lM),.int .i64 0], []):=by
 have hr:=cL h0;have hk:fX c=0:=by unfold aU at hr;simp at hr;exact hr.1
 have hok:=cE hk;have w1:=gh c hc root lang;have w2:=qT c hc root u;rw [if_pos hk] at w2;obtain ⟨nl,z,w3,hz⟩:=wE c hc u lang;have wv: ∀x:Cell,_:=fun x=>rW c hc root lang x hr;rw [h0,if_pos rfl] at w1
 have hF: ∀f∈aX c u lang,Db c.aa f:=by
  intro f hf;unfold aX at hf;rw [if_pos hr] at hf;have hf:=ba hf;unfold gQ at hf;cases hs:cI c u with
  | none=>rw [hs] at hf;cases hf
  | some s=>rw [hs] at hf;obtain ⟨_,_,_,_,hm⟩:=mW hs;exact (hok.an s hm).facts f hf
 have hFl:(aX c u lang).length≤32:=by
  unfold aX;rw [if_pos hr];refine Nat.le_trans (fr _ _) ?_;unfold gQ;cases hs:cI c u with
  | none=>simp
  | some s=>obtain ⟨_,_,_,_,hm⟩:=mW hs;exact (hok.an s hm).HU
 have hS:=mV u (aX c u lang);have hM: ∀z,z∈cellsOf u (aX c u lang)↔_:=fun z=>cV (z:=z);generalize cellsOf u (aX c u lang)=S at*
 generalize hval:vE Lib.itoa esc c lang root=val at*
 refine ad NC H8 ?_;have hE: ∀k (h:k<(aX c u lang).length),((aX c u lang).map er)[k]?=some (.agg [.int .i64 (aX c u lang)[k].el,.str (aX c u lang)[k].lang,.str (aX c u lang)[k].text]):=fun k h=>get_map _ _ h;have hEl:((aX c u lang).map er).length=(aX c u lang).length:=by simp
 generalize aX c u lang=CH at*
 generalize CH.map er=CA at*
 generalize bZ Lib.itoa c root u=nm at*
 have hnm:decide (nm≠ [])=true:=by simpa using h1
 rw [hnm] at w2;unfold E1 at w1;generalize (dP Lib.itoa c root lang).map cN=AS at*
 clear hk hok h0 h1 hr hnm hval;have u0: ∀x y (M:List (Cell×Nat)) ck l z1,aQ cfg (cfg.ti 82) (.cw 2) (.agg [.int .i64 z1,.int .i64 u]) (.bool true) (x::y:: .mp (M.map nX) ck::l)=some (.aO [],.gZ 2 (.mp ((fY M ck (z1,u)).map nX) (ff M ck (z1,u)))):=fun x y M ck l z1=>NB (by rfl) (z1,u);have u1: ∀x y (M:List (Cell×Nat)) ck l z1 z2,aQ cfg (cfg.ti 82) (.cw 2) (.agg [.int .i64 z1,.int .i64 z2]) (.bool true) (x::y:: .mp (M.map nX) ck::l)=some (.aO [],.gZ 2 (.mp ((fY M ck (z1,z2)).map nX) (ff M ck (z1,z2)))):=fun x y M ck l z1 z2=>NB (by rfl) (z1,z2);have u2: ∀x y ck l z1 z2,aQ cfg (cfg.ti 82) (.cw 2) (.agg [.int .i64 z1,.int .i64 z2]) (.bool true) (x::y:: .mp [] ck::l)=some (.aO [],.gZ 2 (.mp ((fY [] ck (z1,z2)).map nX) (ff [] ck (z1,z2)))):=fun x y ck l z1 z2=>NB (m:= []) (by rfl) (z1,z2);simp only [TC] at u1 u2;clear u0;unfold bM di at*
 generalize au c.aa=L1 at*
 generalize c.av.map cM=L2 at*
 generalize c.an.map bk=L3 at*
 have m0:BC [] 0:=⟨by simp,by simp,by simp⟩;have i1:=jV (jV m0 (1,u)).1 (2,u);have i2:=jV (jV m0 (2,u)).1 (1,u)
 have i3: ∀y,y∈(fY (fY [] 0 (1,u)) (ff [] 0 (1,u)) (2,u)).map Prod.fst↔y=(1,u)∨y=(2,u):=fun y=>by
  rw [i1.2,(jV m0 (1,u)).2];simp
 have i4: ∀y,y∈(fY (fY [] 0 (2,u)) (ff [] 0 (2,u)) (1,u)).map Prod.fst↔y=(1,u)∨y=(2,u):=fun y=>by
  rw [i2.2,(jV m0 (2,u)).2];simp [or_comm]
 have i5:(fY (fY [] 0 (1,u)) (ff [] 0 (1,u)) (2,u)).length≤2:=by have:=kP (fY [] 0 (1,u)) (ff [] 0 (1,u)) (2,u);have:=kP [] 0 (1,u);simp at this;omega
 have i6:(fY (fY [] 0 (2,u)) (ff [] 0 (2,u)) (1,u)).length≤2:=by have:=kP (fY [] 0 (2,u)) (ff [] 0 (2,u)) (1,u);have:=kP [] 0 (2,u);simp at this;omega
 replace i1:=i1.1;replace i2:=i2.1;clear m0;simp (maxSteps:=9^9) (disch:=omega) [-List.map_replicate,-List.map_set,-List.getD_eq_getElem?_getD,-getElem?_pos,-getElem?_neg,om,Kg,w1,w2,w3,hEl,af,kp,u1,u2,BD,sX];refine ⟨?_,?_⟩
 case' refine_1=>
  generalize fY (fY [] 0 (1,u)) (ff [] 0 (1,u)) (2,u)=M0 at*
  generalize ff (fY [] 0 (1,u)) (ff [] 0 (1,u)) (2,u)=ck0 at*
  clear i2 i4 i6
  rename BC M0 ck0=>j1
  rename (∀y,y∈M0.map Prod.fst↔y=(1,u)∨y=(2,u))=>j2
  rename M0.length≤2=>j3
 case' refine_2=>
  generalize fY (fY [] 0 (2,u)) (ff [] 0 (2,u)) (1,u)=M0 at*
  generalize ff (fY [] 0 (2,u)) (ff [] 0 (2,u)) (1,u)=ck0 at*
  clear i1 i3 i5
  rename BC M0 ck0=>j1
  rename (∀y,y∈M0.map Prod.fst↔y=(1,u)∨y=(2,u))=>j2
  rename M0.length≤2=>j3
 all_goals
  clear w1 w2 w3
  refine Wp.bw (fun (a:Nat×List (Cell×Nat)×Nat)=>CH.length-a.1) (fun a=> [none,some (.int .i64 root),some (.str lang),none,some (.ptr 0 0),none,none,none,none,none,some (.cw 2),none,none,none,none,none,none,none,none,none,none,none,none,none,some (.ah nl z CA),some (.int .i64 CH.length),some (.int .i64 a.1),none,none,none,none,none,none,none,none,none,none,none,none,none,none,none,none,none,none]) (fun a=> [.var 26 [.ah c.ln c.lz L1,.ah c.bn c.bz L2,.ah c.sn c.sz L3],.var 41 [.int .i64 root,.str lang,.ah none 3 AS],.mp (a.2.1.map nX) a.2.2])
   (fun a=>BC a.2.1 a.2.2∧qK u CH a.1 a.2.1∧a.2.1.length≤2+5000*a.1∧a.1≤CH.length) ?_ (0,M0,ck0) ⟨j1,fun y=>by rw [j2 y];simp,by simpa using j3,by simp⟩ (by simp) rfl
  rintro ⟨k,M,ck⟩ ⟨q1,q2,q3,q4⟩;simp only at q1 q2 q3 q4⊢;by_cases h3:k<CH.length
  ·have hgk:=hE k h3;have hfk:=hF _ (List.getElem_mem h3);obtain rfl:=hz (ne_of_lt h3);have hnx:=fun M1 M2=>qK.next (M1:=M1) (M2:=M2) h3 q2;clear hE;generalize CH[k]=f at*
   obtain ⟨p1,p2⟩:=jV q1 (3,f.el);have p3:=kP M ck (3,f.el);simp (maxSteps:=9^9) (disch:=omega) [-List.map_replicate,-List.map_set,-List.getD_eq_getElem?_getD,-getElem?_pos,-getElem?_neg,om,h3,hgk,af,u1,BD,sX];generalize fY M ck (3,f.el)=M1 at*
   generalize ff M ck (3,f.el)=ck1 at*
   refine Wp.bw (fun (a:Nat×List (Cell×Nat)×Nat)=>f.text.length-a.1) (fun a=> [none,some (.int .i64 root),some (.str lang),none,some (.ptr 0 0),none,none,none,none,none,some (.cw 2),some (.ptr 3 0),none,none,none,none,none,none,none,none,none,none,none,none,some (.ah nl 3 CA),some (.int .i64 CH.length),some (.int .i64 k),none,none,none,some (.int .i64 f.text.length),some (.int .i64 a.1),none,none,none,none,none,none,none,none,none,none,none,none,none]) (fun a=> [.var 26 [.ah c.ln c.lz L1,.ah c.bn c.bz L2,.ah c.sn c.sz L3],.var 41 [.int .i64 root,.str lang,.ah none 3 AS],.mp (a.2.1.map nX) a.2.2,.var 79 [.int .i64 f.el,.str f.lang,.str f.text]])
    (fun a=>BC a.2.1 a.2.2∧jq M1 f.text a.1 a.2.1∧a.2.1.length≤M1.length+a.1∧a.1≤f.text.length) ?_ (0,M1,ck1) ⟨p1,jq.start _ _,by simp,by simp⟩ (by simp) rfl
   rintro ⟨j,M2,ck2⟩ ⟨r1,r2,r3,r4⟩;simp only at r1 r2 r3 r4⊢;have hfl:=hfk.len;by_cases h4:j<f.text.length
   ·have hne:f.text.drop j≠ []:=by simp;omega
    have hct:=zw (f.text.drop j) hne;rw [sP hne] at hct;unfold x7 at hct;have htl:(f.text.take f.text.length).drop j=f.text.drop j:=by rw [List.take_length]
    by_cases h5:(ao (f.text.drop j)).2=0
    ·have r5:=r2.skip h5;rw [h5] at hct;generalize (ao (f.text.drop j)).1=pu at*
     clear q2 hnx p2 r2;simp (maxSteps:=9^9) (disch:=omega) [-List.map_replicate,-List.map_set,-List.getD_eq_getElem?_getD,-getElem?_pos,-getElem?_neg,om,h4,hct,htl,BD,sX];exact ⟨j+1,M2,ck2,⟨r1,r5,by omega,by omega⟩,by omega,by simp,rfl,rfl⟩
    ·obtain ⟨t1,t2,t3,t4,t5⟩:=(dv (f.text.drop j)).resolve_left (fun h=>h5 (by rw [h]));have h6:0<(ao (f.text.drop j)).2:=by omega
     obtain ⟨o1,o2⟩:=jV r1 (4,(ao (f.text.drop j)).1);have r5:=r2.put h5 o2;have o3:=kP M2 ck2 (4,(ao (f.text.drop j)).1);generalize (ao (f.text.drop j)).1=pu at*
     generalize (ao (f.text.drop j)).2=pn at*
     clear q2 hnx p2 r2 o2;simp (maxSteps:=9^9) (disch:=omega) [-List.map_replicate,-List.map_set,-List.getD_eq_getElem?_getD,-getElem?_pos,-getElem?_neg,om,h4,hct,htl,h6,af,u1,BD,sX];exact ⟨j+1,fY M2 ck2 (4,pu),ff M2 ck2 (4,pu),⟨o1,r5,by omega,by omega⟩,by omega,by simp,rfl,rfl⟩
   ·obtain rfl:j=f.text.length:=by omega
    have r5:=hnx M1 M2 p2 r2;clear q2 hnx p2 r2;simp (maxSteps:=9^9) (disch:=omega) [-List.map_replicate,-List.map_set,-List.getD_eq_getElem?_getD,-getElem?_pos,-getElem?_neg,om,BD,sX];exact ⟨k+1,M2,ck2,⟨r1,r5,by omega,by omega⟩,by omega,by simp,rfl,rfl⟩
  ·obtain rfl:k=CH.length:=by omega
   have hKS: ∀z,z∈M.map Prod.fst↔z∈S:=fun z=>by
    rw [hM z];have:=q2 z
    rwa [List.take_length] at this
   obtain ⟨e1,he1⟩: ∃e,e∈M:=by have:((1,u):Cell)∈M.map Prod.fst:=(hKS _).2 ((hM _).2 (.inr (.inl rfl)));obtain ⟨e,he,_⟩:=List.mem_map.1 this;exact ⟨e,he⟩
   have hsr:=fun l=>Dr q1 hS hKS val (l:=l);have hb:=fun e he=>Lm M 0 e he q1.born;clear hE hF q2 hM hKS hS q1;simp (maxSteps:=9^9) (disch:=omega) [-List.map_replicate,-List.map_set,-List.getD_eq_getElem?_getD,-getElem?_pos,-getElem?_neg,om,BD,sX,k9]
   refine Wp.bw (fun (l:List (Cell×Nat))=>M.length-l.length) (fun l=> [none,some (.int .i64 root),some (.str lang),none,some (.ptr 0 0),none,none,none,none,none,none,none,none,none,none,some (.az 4 l.length),none,none,none,none,none,none,none,none,none,none,none,none,none,none,none,none,none,none,none,none,some (.kq 3),none,none,none,none,none,none,none,none]) (fun l=> [.var 26 [.ah c.ln c.lz L1,.ah c.bn c.bz L2,.ah c.sn c.sz L3],.var 41 [.int .i64 root,.str lang,.ah none 3 AS],.mp (M.map nX) ck,.iter (.map 2 (l.map Prod.snd) ck),.sl ⟨false,some 57,none⟩ 3 (l.map fun e=>lM (e.1,val e.1))])
    (fun l=>(∀e∈l,e∈M)∧(l.map Prod.snd).Nodup) ?_ [] ⟨by simp,by simp⟩ (by simp) (by simp)
   rintro l ⟨l1,l2⟩;have hll:l.length≤M.length:=pq l2 l1;simp only [Mx];refine Wp.zh (i:=3) (m:=2) (clock:=ck) (seen:=l.map Prod.snd) (es:=M.map nX) rfl rfl rfl ?_ ?_
   ·intro hall;have hall2: ∀e∈M,(l.map Prod.snd).contains e.2=true:=fun e he=>hall (nX e) (List.mem_map.mpr ⟨e,he,rfl⟩);obtain ⟨s1,s2⟩:=hsr l l1 l2 hall2
    have hl0:l≠ []:=by rintro rfl;have:=hall2 e1 he1;simp at this
    clear hall hall2 hsr hb;have hrd:=xO (l.map fun e=>(e.1,val e.1));rw [List.map_map] at hrd;have hmm:(lM∘fun e:Cell×Nat=>(e.1,val e.1))=fun e=>lM (e.1,val e.1):=rfl;rw [hmm] at hrd;have hrl:(l.map fun e=>(e.1,val e.1)).length=l.length:=by simp
    have hrn:(l.map fun e=>(e.1,val e.1))≠ []:=by simpa using hl0
    have hEE:(l.map fun e=>lM (e.1,val e.1)).length=l.length:=by simp
    have hSl:(S.map fun z=>(z,val z)).length=l.length:=by rw [←s2];simp [qJ]
    generalize hR:(l.map fun e=>(e.1,val e.1))=R at*
    generalize hS2:(S.map fun z=>(z,val z))=S2 at*
    generalize (l.map fun e=>lM (e.1,val e.1))=EE at*
    have hg:tL [.az 4 l.length,.fn 43 [] []] [.var 26 [.ah c.ln c.lz L1,.ah c.bn c.bz L2,.ah c.sn c.sz L3],.var 41 [.int .i64 root,.str lang,.ah none 3 AS],.mp (M.map nX) ck,.iter (.map 2 (l.map Prod.snd) ck),.sl ⟨false,some 57,none⟩ 3 EE]=some (.aO [], [.var 26 [.ah c.ln c.lz L1,.ah c.bn c.bz L2,.ah c.sn c.sz L3],.var 41 [.int .i64 root,.str lang,.ah none 3 AS],.mp (M.map nX) ck,.iter (.map 2 (l.map Prod.snd) ck),.sl ⟨false,some 57,none⟩ 3 (S2.map lM)]):=by
     have hm1:l.length<1000000:=by omega
     simp [tL,ab.at,hrd,hrl,hrn,hm1,s1,s2]
    clear hrd hmm s1 s2 hR;have hSm:(S2.map lM).length=l.length:=by rw [List.length_map];exact hSl
    generalize hS3:S2.map lM=S3 at*
    simp (maxSteps:=9^9) (disch:=omega) [-List.map_replicate,-List.map_set,-List.getD_eq_getElem?_getD,-getElem?_pos,-getElem?_neg,om,BD,sX,hg,hEE,hSm];rw [←hS3,←hS2,List.map_map]
   ·intro e he hn;obtain ⟨e0,he0,rfl⟩:=List.mem_map.1 he;obtain ⟨j,hj⟩:=hb e0 he0;have hv:=wv e0.1;clear hsr hb he wv;obtain ⟨⟨z1,z2⟩,n⟩:=e0;replace hj:sd (n:Int) (M.map nX) 0=some (j,(.agg [.int .i64 z1,.int .i64 z2],.bool true,n)):=hj;simp only at hv;have hEE:(l.map fun e=>lM (e.1,val e.1)).length=l.length:=by simp
    simp (maxSteps:=9^9) (disch:=omega) [-List.map_replicate,-List.map_set,-List.getD_eq_getElem?_getD,-getElem?_pos,-getElem?_neg,om,BD,sX,nX,mY,mc,hj,hv,hEE,af]
    have hsub: ∀e∈l++ [((z1,z2),n)],e∈M:=fun e hm=>by
     rcases List.mem_append.1 hm with hm | hm
     ·exact l1 _ hm
     ·rw [List.mem_singleton] at hm;rw [hm];exact he0
    have hnd:((l++ [((z1,z2),n)]).map Prod.snd).Nodup:=by rw [List.map_append];refine List.nodup_append.mpr ⟨l2,by simp,fun a ha b hb=> ?_⟩;simp only [List.map_cons,List.map_nil,List.mem_singleton] at hb;rintro rfl;have hn2:(l.map Prod.snd).contains n=false:=hn;rw [hb] at ha;rw [←List.contains_iff_mem,hn2] at ha;cases ha
    have hle:=pq hnd hsub;rw [List.length_append,List.length_singleton] at hle;refine ⟨l++ [((z1,z2),n)],⟨fun a b q hm=>hsub _ hm,hnd⟩,?_,by simp,by simp,by simp [lM]⟩;rw [List.length_append,List.length_singleton];omega
theorem BE (c:Ct) (hc:c.ok) (root u:Int) (lang:ae): ∃nl z,ar cfg 12 [bM c,.int .i64 root,.str lang,.int .i64 u] []=some (.aO [.ah nl z (br (ay Lib.itoa esc c root lang u).1),.int .i64 (ay Lib.itoa esc c root lang u).2], [])∧((ay Lib.itoa esc c root lang u).1≠ []→z=3):=by
 unfold ay;by_cases h0:cZ c root lang=0
 ·rw [if_neg (by simpa using h0)];by_cases h1:bZ Lib.itoa c root u= []
  ·rw [if_pos h1];refine ⟨some true,0,?_,by simp⟩;have hr:=cL h0;have hk:fX c=0:=by unfold aU at hr;simp at hr;exact hr.1
   have w1:=gh c hc root lang;have w2:=qT c hc root u;rw [if_pos hk,h1] at w2;rw [h0,if_pos rfl] at w1;refine ad NC H8 ?_;unfold E1 at w1;generalize (dP Lib.itoa c root lang).map cN=AS at*
   unfold bM di at*
   generalize au c.aa=L1 at*
   generalize c.av.map cM=L2 at*
   generalize c.an.map bk=L3 at*
   simp (maxSteps:=9^9) (disch:=omega) [-List.map_replicate,-List.map_set,-List.getD_eq_getElem?_getD,-getElem?_pos,-getElem?_neg,om,Kg,w1,w2,af,br]
  ·rw [if_neg h1];have hr:=cL h0;have hk:fX c=0:=by unfold aU at hr;simp at hr;exact hr.1
   have hq:(fun z=>(z,aS Lib.itoa esc c lang root z))=fun z=>(z,vE Lib.itoa esc c lang root z):=by funext z;unfold aS;rw [if_pos hr,Ey xM (cE hk)]
   rw [hq];exact ⟨none,3,xN c hc root u lang h0 h1,fun _=>rfl⟩
 ·rw [if_pos h0];refine ⟨some true,0,?_,by simp⟩;have w1:=gh c hc root lang;rw [if_neg h0] at w1;refine ad NC H8 ?_;unfold Ja at w1;generalize cZ c root lang=e at*
  unfold bM di at*
  generalize au c.aa=L1 at*
  generalize c.av.map cM=L2 at*
  generalize c.an.map bk=L3 at*
  simp (maxSteps:=9^9) (disch:=omega) [-List.map_replicate,-List.map_set,-List.getD_eq_getElem?_getD,-getElem?_pos,-getElem?_neg,om,Kg,w1,h0,af,br]
set_option maxHeartbeats 4000000
theorem index_one (c:UInt8): ∀s:ae,Lib.index s [c]=Lib.indexByte s c
 | []=>rfl
 | b::l=>by
  simp only [Lib.index,Lib.indexByte,index_one c l,List.isPrefixOf,Bool.and_true];by_cases h:b=c
  ·subst h;simp
  ·simp [h,Ne.symm h]
theorem F4 (s:ae) (c:UInt8) (h2:s.length<100000000):ar cfg 125 [.str s,.str [c]] []=some (.int .i64 (Lib.indexByte s c), []):=by
 have hi:s.length<4294967281:=by omega
 refine ad Rw ND ?_;simp (maxSteps:=9^9) (disch:=omega) [-List.map_replicate,-List.map_set,-List.getD_eq_getElem?_getD,-getElem?_pos,-getElem?_neg,om,Ln,BF,hi,index_one]
theorem F5 (s:ae) (c:UInt8):ar cfg 65 [.str s,.str [c]] []=some (.int .i64 (s.count c), []):=by refine ad Qa KK ?_;simp (maxSteps:=9^9) (disch:=omega) [-List.map_replicate,-List.map_set,-List.getD_eq_getElem?_getD,-getElem?_pos,-getElem?_neg,om,L7,x9,Lib.countByte]
def F6 (s:ae):AV:=match ec s with
 | some (a,b)=> .aO [.str a,.str b,.bool true]
 | none=> .aO [.str s,.str [],.bool false]
theorem ot: ∀s:ae,Lib.indexByte s 32=(match ec s with
   | some (a,_)=>(a.length:Int)
   | none=> -1)
 | []=>rfl
 | c::r=>by
  have ih:=ot r;simp only [Lib.indexByte,ec];by_cases h:c=32
  ·subst h;simp
  ·have h':(c==32)=false:=by simpa using h
   rw [if_neg h,h',ih];cases ec r with
   | none=>rfl
   | some p=>
    have hne:(((p.1.length:Int))== -1)=false:=by rw [beq_eq_false_iff_ne];omega
    simp [hne]
theorem Dt (s:ae) (hs:s.length<1000000):ar cfg 119 [.str s,.str [32]] []=some (F6 s, []):=by
 have h:ar cfg 162 [.str s,.str [32]] []=some (F6 s, []):=by
  have hi:s.length<4294967281:=by omega
  refine ad Rx NG ?_;have hx:=index_one 32 s;rw [ot] at hx;unfold F6;cases hc:ec s with
  | none=>rw [hc] at hx;simp (maxSteps:=9^9) (disch:=omega) [-List.map_replicate,-List.map_set,-List.getD_eq_getElem?_getD,-getElem?_pos,-getElem?_neg,om,H9,BF,hi,hx]
  | some p=>
   obtain ⟨a,b⟩:=p;rw [hc] at hx;simp only at hx;obtain ⟨h1,_⟩:=fA hc;have ht:s.take a.length=a:=by rw [h1];exact List.take_left' rfl
   have hl:s.length=a.length+1+b.length:=by rw [h1];simp;omega
   have hd:(s.take s.length).drop (a.length+1)=b:=by rw [List.take_length,h1,List.drop_append,List.drop_of_length_le (by omega)];simp
   rw [hl] at hd hi;clear h1 hc;simp (maxSteps:=9^9) (disch:=omega) [-List.map_replicate,-List.map_set,-List.getD_eq_getElem?_getD,-getElem?_pos,-getElem?_neg,om,H9,BF,hi,hx,ht,hd,hl]
 refine ad Ry NH ?_;unfold F6 at h⊢;cases hc:ec s with
 | none=>rw [hc] at h;simp (maxSteps:=9^9) (disch:=omega) [-List.map_replicate,-List.map_set,-List.getD_eq_getElem?_getD,-getElem?_pos,-getElem?_neg,om,Ia,h]
 | some p=>rw [hc] at h;simp (maxSteps:=9^9) (disch:=omega) [-List.map_replicate,-List.map_set,-List.getD_eq_getElem?_getD,-getElem?_pos,-getElem?_neg,om,Ia,h]
theorem qL (s:ae) (hs:s.length<1000000):ar cfg 159 [.str s,.str [10]] []=some (.bool (decide (s.getLast?=some 10)), []):=by
 refine ad Rz NI ?_;rcases List.eq_nil_or_concat s with rfl | ⟨u,x,rfl⟩
 ·simp (maxSteps:=9^9) (disch:=omega) [-List.map_replicate,-List.map_set,-List.getD_eq_getElem?_getD,-getElem?_pos,-getElem?_neg,om,Ib]
 ·have hl:(u++ [x]).length=u.length+1:=by simp
  have hd:((u++ [x]).take (u.length+1)).drop u.length= [x]:=by rw [List.take_of_length_le (by simp),List.drop_left' rfl]
  have hd2:(u++ [x]).drop u.length= [x]:=List.drop_left' rfl;have hg:decide ((u++ [x]).getLast?=some 10)=(x==10):=by simp;rfl
  have e1:((u.length:Int)+1-1).toNat=u.length:=by omega
  rw [List.concat_eq_append] at*
  rw [hg];generalize u++ [x]=s at*
  simp (maxSteps:=9^9) (disch:=omega) [-List.map_replicate,-List.map_set,-List.getD_eq_getElem?_getD,-getElem?_pos,-getElem?_neg,om,Ib,hl,hd,hd2,e1]
theorem Ic (s:ae) (hs:s.length<1000000):ar cfg 116 [.str s,.str [10]] []=some (.bool (decide (s.getLast?=some 10)), []):=by refine ad RB NJ ?_;simp (maxSteps:=9^9) (disch:=omega) [-List.map_replicate,-List.map_set,-List.getD_eq_getElem?_getD,-getElem?_pos,-getElem?_neg,om,Lo,qL s hs]
theorem F7 (u:ae) (hs:u.length<900000):ar cfg 118 [.str (u++ [10]),.str [10]] []=some (.str u, []):=by
 have h:ar cfg 161 [.str (u++ [10]),.str [10]] []=some (.str u, []):=by
  refine ad RC NK ?_;have h1:=qL (u++ [10]) (by simp;omega);rw [show decide ((u++ [(10:UInt8)]).getLast?=some 10)=true by simp] at h1;have hl:(u++ [(10:UInt8)]).length=u.length+1:=by simp
  have ht:(u++ [(10:UInt8)]).take u.length=u:=List.take_left' rfl;generalize u++ [(10:UInt8)]=s at*
  simp (maxSteps:=9^9) (disch:=omega) [-List.map_replicate,-List.map_set,-List.getD_eq_getElem?_getD,-getElem?_pos,-getElem?_neg,om,Lp,h1,hl,ht]
 refine ad RE NL ?_;simp (maxSteps:=9^9) (disch:=omega) [-List.map_replicate,-List.map_set,-List.getD_eq_getElem?_getD,-getElem?_pos,-getElem?_neg,om,Lq,h]
theorem xP {c:UInt8}: ∀{p:List UInt8} (r:List UInt8),c∉p→Lib.indexByte (p++c::r) c=(p.length:Int)
 | [],r,_=>by simp [Lib.indexByte]
 | x::p,r,h=>by
  simp only [List.mem_cons,not_or] at h;have ih:=xP r h.2;have hx:(x==c)=false:=by simpa using Ne.symm h.1
  have hne:(((p.length:Int))== -1)=false:=by rw [beq_eq_false_iff_ne];omega
  simp only [List.cons_append,Lib.indexByte,hx,Bool.false_eq_true,if_false,ih,hne,List.length_cons];omega
theorem vJ {c:UInt8}: ∀{r:List UInt8},2≤(splitB c r).length→ ∃p q,r=p++c::q∧c∉p
 | [],h=>by simp [splitB] at h
 | x::r,h=>by
  by_cases hx:x=c
  ·exact ⟨[],r,by simp [hx],by simp⟩
  ·have h2:2≤(splitB c r).length:=by
    simp only [splitB,if_neg hx] at h;split at h
    ·rename_i e;rw [e];simpa using h
    ·simp at h
   obtain ⟨p,q,h3,h4⟩:=vJ h2;exact ⟨x::p,q,by rw [h3];rfl,by simp [Ne.symm hx,h4]⟩
theorem Du {c:UInt8} {r:List UInt8} (h:(splitB c r).length=1):splitB c r= [r]:=by apply xC;intro hm;obtain ⟨p,q,rfl⟩:=List.append_of_mem hm;rw [il] at h;simp at h
theorem BG (P:List (List UInt8)) (k:Nat) (x:List UInt8):(P.map AV.str++List.replicate (k+1) (AV.str [])).set P.length (.str x)=(P++ [x]).map AV.str++List.replicate k (AV.str []):=by rw [List.replicate_succ,List.set_append_right _ _ (by simp)];simp
theorem F8 (s:List UInt8) (c:UInt8) (hs:s.length<100000000):ar cfg 117 [.str s,.str [c]] []=some (.ah none 1 ((splitB c s).map AV.str), []):=by
 have h1:ar cfg 160 [.str s,.str [c],.int .i64 0,.int .i64 (-1)] []=some (.ah none 1 ((splitB c s).map AV.str), []):=by
  refine ad RF NM ?_;have hc:=F5 s c;have hN:=il c s;have hle:s.count c≤s.length:=List.count_le_length;generalize s.count c=N at*
  have hmin:((N:Int)+1≤(s.length:Int)+1):=by omega
  simp (maxSteps:=9^9) (disch:=omega) [-List.map_replicate,-List.map_set,-List.getD_eq_getElem?_getD,-getElem?_pos,-getElem?_neg,om,Lr,hc]
  refine Wp.bw (fun (a:List (List UInt8)×List UInt8)=>N-a.1.length) (fun a=> [some (.str a.2),some (.str [c]),some (.int .i64 0),some (.int .i64 N),none,some (.az 0 (N+1)),some (.int .i64 a.1.length),none,none,none,none,none,none,none,none,none,none,none,none])
   (fun a=> [.sl ⟨false,some 9,none⟩ 1 (a.1.map AV.str++List.replicate (N+1-a.1.length) (AV.str []))])
   (fun a=>a.1.length≤N∧splitB c s=a.1++splitB c a.2∧a.2.length≤s.length) ?_ ([],s) ⟨by simp,rfl,Nat.le_refl _⟩ (by simp) (by simp)
  rintro ⟨P,r⟩ ⟨hP,hsp,hrl⟩;simp only at hP hsp hrl⊢
  have hr:(splitB c r).length=N+1-P.length:=by have:=congrArg List.length hsp;rw [List.length_append] at this;omega
  by_cases hlt:P.length<N
  ·obtain ⟨p,q,rfl,hp⟩:=vJ (by rw [hr];omega);have hi:=F4 (p++c::q) c (by omega);rw [xP q hp] at hi;rw [pg q hp] at hsp;have hk:N+1-P.length=(N-P.length)+1:=by omega
   have hlen:(P.map AV.str++List.replicate (N+1-P.length) (AV.str [])).length=N+1:=by simp;omega
   have hget:(P.map AV.str++List.replicate (N+1-P.length) (AV.str []))[P.length]?=some (.str []):=by rw [List.getElem?_append_right (by simp),List.getElem?_replicate,if_pos (by simp;omega)]
   have hset:=BG P (N-P.length) p;rw [←hk] at hset;have ht:(p++c::q).take p.length=p:=List.take_left' rfl
   have hd:((p++c::q).take (p++c::q).length).drop (p.length+1)=q:=by rw [List.take_length,List.drop_append,List.drop_of_length_le (by omega)];simp
   have hl:(p++c::q).length=p.length+1+q.length:=by simp;omega
   have hp2:p.length+1≤s.length:=by omega
   generalize P.map AV.str++List.replicate (N+1-P.length) (AV.str [])=L at*
   generalize hR:p++c::q=R at*
   rw [hl] at hd;simp (maxSteps:=9^9) (disch:=omega) [-List.map_replicate,-List.map_set,-List.getD_eq_getElem?_getD,-getElem?_pos,-getElem?_neg,om,hi,hlen,hget,hset,ht,hd,hl];refine ⟨P++ [p],q,⟨by simp;omega,by rw [hsp];simp,by omega⟩,by simp;omega,⟨rfl,by simp⟩,?_⟩;have e:N+1-(P++ [p]).length=N-P.length:=by simp
   rw [e];simp
  ·obtain rfl:P.length=N:=by omega
   have h1:=Du (c:=c) (r:=r) (by rw [hr];omega);rw [h1] at hsp;have hset:=BG P 0 r;have e:P.length+1-P.length=0+1:=by omega
   rw [e,hsp];have hlen:(P.map AV.str++List.replicate (0+1) (AV.str [])).length=P.length+1:=by simp
   have hget:(P.map AV.str++List.replicate (0+1) (AV.str []))[P.length]?=some (.str []):=by rw [List.getElem?_append_right (by simp),List.getElem?_replicate,if_pos (by simp)]
   generalize P.map AV.str++List.replicate (0+1) (AV.str [])=L at*
   rw [List.replicate_zero,List.append_nil] at hset;simp (maxSteps:=9^9) (disch:=omega) [-List.map_replicate,-List.map_set,-List.getD_eq_getElem?_getD,-getElem?_pos,-getElem?_neg,om,hlen,hget,hset]
   try exact List.take_of_length_le (by simp)
 refine ad RG NN ?_;simp (config:={maxSteps:=1000000}) (disch:=omega) [-List.map_replicate,-List.map_set,-List.getD_eq_getElem?_getD,-getElem?_pos,-getElem?_neg,wrap_i64,nk,jz,jA,ig,Ls,h1]
theorem nQ (s:ae) (hs:s.length<190000): ∃(t:ae) (q:Bool),ar cfg 121 [.str s] []=some (.aO [.str t,.bool q], [])∧aD s=(if q=true then some t else none):=by
 have h:=NO s hs;rw [F9] at h;cases hu:aD s with
 | none=>rw [hu] at h;exact ⟨[],false,h,rfl⟩
 | some t=>rw [hu] at h;exact ⟨t,true,h,rfl⟩
def ou:Option (Nat×ae)→AV
 | some (n,t)=> .aO [.agg [.int .i64 n,.str [],.str t],.bool true]
 | none=> .aO [.agg [.int .i64 0,.str [],.str []],.bool false]
theorem Kh (line:ae) (hl:line.length<190000):ar cfg 122 [.str line] []=some (ou (jT aD line), []):=by
 refine ad RH NP ?_;have h1:=Dt line (by omega);unfold F6 at h1;unfold jT;cases hc:ec line with
 | none=>rw [hc] at h1;obtain ⟨v,b,h2,_,_⟩:=tU line (by omega);obtain ⟨t,q,h3,_⟩:=nQ [] (by simp);simp (maxSteps:=9^9) (disch:=omega) [-List.map_replicate,-List.map_set,-List.getD_eq_getElem?_getD,-getElem?_pos,-getElem?_neg,om,sY,h1,h2,h3,af,ou]
 | some p=>
  obtain ⟨num,rest⟩:=p;rw [hc] at h1;obtain ⟨e1,_⟩:=fA hc;have hn:num.length<190000:=by rw [e1] at hl;simp at hl;omega
  have hr:rest.length<190000:=by rw [e1] at hl;simp at hl;omega
  obtain ⟨v,b,h2,e2,hv⟩:=tU num (by omega);obtain ⟨t,q,h3,e3⟩:=nQ rest hr;simp only [e2,e3];clear hc e1 hl e3;cases b with
  | true=>simp (maxSteps:=9^9) (disch:=omega) [-List.map_replicate,-List.map_set,-List.getD_eq_getElem?_getD,-getElem?_pos,-getElem?_neg,om,sY,h1,h2,h3,af,ou]
  | false=>
   cases q with
   | false=>simp (maxSteps:=9^9) (disch:=omega) [-List.map_replicate,-List.map_set,-List.getD_eq_getElem?_getD,-getElem?_pos,-getElem?_neg,om,sY,h1,h2,h3,af,ou]
   | true=>
    have hne:num≠ []:=by rintro rfl;simp [jw] at e2
    match num,hne with
    | c::num',_=>
     by_cases g1:t= []
     ·subst g1;simp (maxSteps:=9^9) (disch:=omega) [-List.map_replicate,-List.map_set,-List.getD_eq_getElem?_getD,-getElem?_pos,-getElem?_neg,om,sY,h1,h2,h3,af,ou]
     by_cases g2:c=48
     ·subst g2;simp (maxSteps:=9^9) (disch:=omega) [-List.map_replicate,-List.map_set,-List.getD_eq_getElem?_getD,-getElem?_pos,-getElem?_neg,om,sY,h1,h2,h3,af,ou,List.getD_cons_zero,g1,aj]
     have g2': ¬ ((c.toNat:Int)=48):=fun h=>g2 (UInt8.toNat_inj.mp (by show _=48;omega));have w1:(t== [])=false:=by simpa using g1
     have hw:IntKind.i64.wrap (v:Int)=v:=wrap_i64 (by omega) (by omega);by_cases g3:64<v
     ·simp (maxSteps:=9^9) (disch:=omega) [-List.map_replicate,-List.map_set,-List.getD_eq_getElem?_getD,-getElem?_pos,-getElem?_neg,om,sY,h1,h2,h3,af,ou,List.getD_cons_zero,g1,g2,g2',g3,aj,w1,hw]
     ·simp (maxSteps:=9^9) (disch:=omega) [-List.map_replicate,-List.map_set,-List.getD_eq_getElem?_getD,-getElem?_pos,-getElem?_neg,om,sY,h1,h2,h3,af,ou,List.getD_cons_zero,g1,g2,g2',g3,aj,w1,hw]
theorem EG (a b:Cell):ar cfg 44 [mY a,mY b] []=some (.int .i64 (jo a b), []):=by
 refine ad TD RI ?_;have c1:=tv a.1 b.1;have c2:=tv a.2 b.2;have c3:=B5 none (iL a.1 b.1) (iL a.2 b.2);have e:jo a b=if iL a.1 b.1=0 then iL a.2 b.2 else iL a.1 b.1:=rfl;rw [e];unfold mY;generalize (if iL a.1 b.1=0 then iL a.2 b.2 else iL a.1 b.1)=r at*
 generalize iL a.1 b.1=r1 at*
 generalize iL a.2 b.2=r2 at*
 simp (maxSteps:=9^9) (disch:=omega) [-List.map_replicate,-List.map_set,-List.getD_eq_getElem?_getD,-getElem?_pos,-getElem?_neg,om,RJ,c1,c2,c3]
theorem Ki (r:Cell×ae) (x:Cell):ar cfg 115 [lM r,mY x] []=some (.int .i64 (jo r.1 x), []):=by
 refine ad RL NQ ?_;have c1:=EG r.1 x;unfold lM;unfold mY at*
 simp (maxSteps:=9^9) (disch:=omega) [-List.map_replicate,-List.map_set,-List.getD_eq_getElem?_getD,-getElem?_pos,-getElem?_neg,om,Lt,c1]
theorem y7 {l:List (Cell×ae)} (h:fD (l.map Prod.fst)): ∀(i j:Nat) (a b:Cell×ae),i<j→l[i]?=some a→l[j]?=some b→fc a.1 b.1=true:=by
 induction l with
 | nil=>intro i j a b _ h1;cases h1
 | cons x r ih=>
  intro i j a b hij h1 h2;cases i with
  | zero=>
   cases h1;cases j with
   | zero=>omega
   | succ j=>exact h.1 b.1 (List.mem_map.2 ⟨b,List.mem_of_getElem? (by simpa using h2),rfl⟩)
  | succ i=>
   cases j with
   | zero=>omega
   | succ j=>exact ih h.2 i j a b (by omega) (by simpa using h1) (by simpa using h2)
structure Cut (l:List (Cell×ae)) (c:Cell) (i j:Nat):Prop where
 lo: ∀k r,k<i→l[k]?=some r→fc r.1 c=true
 hi: ∀k r,j≤k→l[k]?=some r→ ¬ fc r.1 c=true
theorem Cut.left {l:List (Cell×ae)} {c:Cell} {i j h:Nat} (hc:Cut l c i j) (hi:fD (l.map Prod.fst)) {r:Cell×ae} (hr:l[h]?=some r) (hb:fc r.1 c=true):Cut l c (h+1) j:=⟨fun k q hk hq=>by
  by_cases e:k=h
  ·subst e;rw [hr] at hq;cases hq;exact hb
  ·exact eJ (y7 hi k h q r (by omega) hq hr) hb,hc.hi⟩
theorem Cut.right {l:List (Cell×ae)} {c:Cell} {i j h:Nat} (hc:Cut l c i j) (hi:fD (l.map Prod.fst)) {r:Cell×ae} (hr:l[h]?=some r) (hb: ¬ fc r.1 c=true):Cut l c i h:=⟨hc.lo,fun k q hk hq=>by
  by_cases e:k=h
  ·subst e;rw [hr] at hq;cases hq;exact hb
  ·exact fun hq2=>hb (eJ (y7 hi h k r q (by omega) hr hq) hq2)⟩
theorem Ga (nl:Option Bool) (z:Nat) (l:List (Cell×ae)) (hz:l≠ []→z=3) (hl:l.length<1000000) (hi:fD (l.map Prod.fst)) (c:Cell):
  ∃i:Nat,ar cfg 114 [.ah nl z (br l),mY c,.fn 115 [] []] []=some (.aO [.int .i64 i,.bool (aB l c).isSome], [])∧ ∀t,aB l c=some t→i<l.length∧ ∃r,l[i]?=some r∧r.2=t:=by
 obtain ⟨i0,hi0,hl0⟩: ∃i0,i0≤l.length∧Cut l c i0 i0:=by
  have: ∀n,n≤l.length→ ∃i0,i0≤l.length∧(∀k r,k<i0→l[k]?=some r→fc r.1 c=true)∧(i0<l.length→n≤i0∨ ∃r,l[i0]?=some r∧ ¬ fc r.1 c=true):=by
   intro n
   induction n with
   | zero=>exact fun _=>⟨0,by omega,fun k r hk=>by omega,fun _=> .inl (by omega)⟩
   | succ n ih=>
    intro hn;obtain ⟨i0,h1,h2,h3⟩:=ih (by omega);by_cases hlt:i0<l.length
    ·rcases h3 hlt with h4 | h4
     ·have hr:l[i0]?=some l[i0]:=List.getElem?_eq_getElem hlt;by_cases hb:fc l[i0].1 c=true
      ·refine ⟨i0+1,by omega,fun k r hk hq=> ?_,fun _=> .inl (by omega)⟩;by_cases e:k=i0
       ·subst e;rw [hr] at hq;cases hq;exact hb
       ·exact h2 k r (by omega) hq
      ·exact ⟨i0,h1,h2,fun _=> .inr ⟨_,hr,hb⟩⟩
     ·exact ⟨i0,h1,h2,fun _=> .inr h4⟩
    ·exact ⟨i0,h1,h2,fun h=>absurd h hlt⟩
  obtain ⟨i0,h1,h2,h3⟩:=this l.length (Nat.le_refl _);refine ⟨i0,h1,h2,fun k r hk hq=> ?_⟩
  have hkl:k<l.length:=by
   rcases Nat.lt_or_ge k l.length with h | h
   ·exact h
   ·rw [List.getElem?_eq_none h] at hq;cases hq
  rcases h3 (by omega) with h4 | ⟨r0,h4,h5⟩
  ·omega
  ·by_cases e:k=i0
   ·subst e;rw [h4] at hq;cases hq;exact h5
   ·exact fun hb=>h5 (eJ (y7 hi i0 k r0 r (by omega) h4 hq) hb)
 have hat:=Ew l i0 hi hl0.lo hl0.hi;refine ⟨i0,?_,fun t ht=> ?_⟩
 case refine_2=>
  rw [ht] at hat;cases hr:l[i0]? with
  | none=>rw [hr] at hat;cases hat
  | some r=>
   rw [hr] at hat;simp only at hat;split at hat
   ·cases hat;refine ⟨?_,r,rfl,rfl⟩;rcases Nat.lt_or_ge i0 l.length with h | h
    ·exact h
    ·rw [List.getElem?_eq_none h] at hr;cases hr
   ·cases hat
 refine ad RM NT ?_;have hE: ∀k (h:k<l.length),(br l)[k]?=some (.agg [.int .i64 l[k].1.1,.int .i64 l[k].1.2,.str l[k].2]):=fun k h=>get_map _ _ h;have hEl:(br l).length=l.length:=by simp [br]
 generalize br l=E at*
 have hg1:=fun r=>Ki r c;unfold lM at hg1;unfold mY at*
 simp (maxSteps:=9^9) (disch:=omega) [-List.map_replicate,-List.map_set,-List.getD_eq_getElem?_getD,-getElem?_pos,-getElem?_neg,om,Lu,hEl];refine Wp.bw (fun (a:Nat×Nat)=>a.2-a.1) (fun a=> [some (.ah nl z E),none,some (.fn 115 [] []),some (.ptr 0 0),none,none,some (.int .i64 l.length),some (.int .i64 a.1),some (.int .i64 a.2),none,none,none,none,none]) (fun _=> [.var 28 [.int .i64 c.1,.int .i64 c.2]]) (fun a=>a.1≤i0∧i0≤a.2∧a.2≤l.length) ?_ (0,l.length) ⟨by simp,hi0,by simp⟩ (by simp) rfl;rintro ⟨i,j⟩ ⟨h1,h2,h3⟩;simp only at h1 h2 h3⊢;by_cases hij:i<j
 ·obtain ⟨h,hdef⟩: ∃h,h=(i+j) / 2:=⟨_,rfl⟩;have hh:h<l.length:=by omega
  have hgh:=hE h hh;obtain rfl:=hz (ne_of_lt hh);have hr:l[h]?=some l[h]:=List.getElem?_eq_getElem hh;have hgc:=hg1 l[h];have hlt:=iq l[h].1 c;have hd1:h<i0→fc l[h].1 c=true:=fun q=>hl0.lo _ _ q hr;have hd2:i0≤h→ ¬ fc l[h].1 c=true:=fun q=>hl0.hi _ _ q hr;generalize l[h]=r at*
  have w1:IntKind.u64.wrap ((i:Int)+(j:Int))=(i:Int)+(j:Int):=by show ((i:Int)+(j:Int))%18446744073709551616=_;omega
  have w2:IntKind.i64.wrap ((i:Int)+(j:Int))=(i:Int)+(j:Int):=wrap_i64 (by omega) (by omega)
  have w3:((i:Int)+(j:Int)).fdiv (2^min 1 IntKind.u64.bits)=(h:Int):=by show ((i:Int)+(j:Int)).fdiv 2=(h:Int);rw [Int.fdiv_eq_ediv_of_nonneg _ (by omega)];omega
  have w4:IntKind.i64.wrap (h:Int)=(h:Int):=wrap_i64 (by omega) (by omega);have b1:i≤h:=by omega
  have b2:h<j:=by omega
  clear hE hg1 hr hdef;obtain ⟨⟨r1,r2⟩,t⟩:=r;simp only at*
  generalize jo (r1,r2) c=cc at*
  by_cases hcc:cc<0
  ·have hb:=hlt.1 hcc;simp (maxSteps:=9^9) (disch:=omega) [-List.map_replicate,-List.map_set,-List.getD_eq_getElem?_getD,-getElem?_pos,-getElem?_neg,om,hij,hgh,hEl,w1,w2,w3,w4,hgc,hcc];refine ⟨h+1,j,⟨?_,by omega,by omega⟩,by omega,by simp⟩;rcases Nat.lt_or_ge h i0 with q | q
   ·omega
   ·exact absurd hb (hd2 q)
  ·simp (maxSteps:=9^9) (disch:=omega) [-List.map_replicate,-List.map_set,-List.getD_eq_getElem?_getD,-getElem?_pos,-getElem?_neg,om,hij,hgh,hEl,w1,w2,w3,w4,hgc,hcc];refine ⟨i,h,⟨by omega,?_,by omega⟩,by omega,by simp⟩;rcases Nat.lt_or_ge h i0 with q | q
   ·exact absurd (hlt.2 (hd1 q)) hcc
   ·exact q
 ·obtain rfl:j=i0:=by omega
  obtain rfl:i=j:=by omega
  by_cases hlt:i<l.length
  ·have hgh:=hE i hlt;obtain rfl:=hz (ne_of_lt hlt);have hr:l[i]?=some l[i]:=List.getElem?_eq_getElem hlt;have hgc:=hg1 l[i];have hz0:=Gb l[i].1 c;rw [hr] at hat;generalize l[i]=r at*
   clear hE hg1 hr;obtain ⟨⟨r1,r2⟩,t⟩:=r;simp only at*
   rw [hat];generalize jo (r1,r2) c=cc at*
   by_cases hcc:cc=0
   ·rw [if_pos (hz0.1 hcc)];simp (maxSteps:=9^9) (disch:=omega) [-List.map_replicate,-List.map_set,-List.getD_eq_getElem?_getD,-getElem?_pos,-getElem?_neg,om,hlt,hgh,hEl,hgc,hcc]
   ·rw [if_neg (fun q=>hcc (hz0.2 q))];have hcc2:(cc==0)=false:=by simpa using hcc
    simp (maxSteps:=9^9) (disch:=omega) [-List.map_replicate,-List.map_set,-List.getD_eq_getElem?_getD,-getElem?_pos,-getElem?_neg,om,hlt,hgh,hEl,hgc,hcc,hcc2]
  ·rw [List.getElem?_eq_none (by omega)] at hat;rw [hat];simp (maxSteps:=9^9) (disch:=omega) [-List.map_replicate,-List.map_set,-List.getD_eq_getElem?_getD,-getElem?_pos,-getElem?_neg,om,hlt,hEl]
theorem Ie {B:List ab} {k:Nat} {nl:Option Bool} {z:Nat} {l:List (Cell×ae)} {lk:Bool} (hB:ab.at B k= .var 102 [.ah nl z (br l),.bool lk]) (hk:k<B.length) (hs:shut B.length B=true) (hz:l≠ []→z=3) (hl:l.length<1000000) (hi:fD (l.map Prod.fst)) (kd u:Int):
  ar cfg 63 [.ptr k 0,.int .i64 kd,.int .i64 u] B=some (.str ((aB l (kd,u)).getD []),B.set k (.var 102 [.ah nl z (br l),.bool (lk || (aB l (kd,u)).isNone)])):=by
 refine ad TE RN ?_;obtain ⟨i,h1,h2⟩:=Ga nl z l hz hl hi (kd,u);unfold mY at h1;simp only at h1;have hE: ∀k (h:k<l.length),(br l)[k]?=some (.agg [.int .i64 l[k].1.1,.int .i64 l[k].1.2,.str l[k].2]):=fun k h=>get_map _ _ h;have hEl:(br l).length=l.length:=by simp [br]
 have hpl:=dc l;have hm:=shut_map (Nat.le_refl B.length) hs;have hks:=eu k hs (x:= .var 102 [.ah nl z (br l),.bool true]) (by simp [shut,aw,AV.under]);have hm2:=shut_map (Nat.le_refl B.length) hks;cases hq:aB l (kd,u) with
 | none=>
  rw [hq] at h1;generalize br l=E at*
  have e1:(lk || (none:Option ae).isNone)=true:=by simp
  rw [e1];simp (maxSteps:=9^9) (disch:=omega) [-List.map_replicate,-List.map_set,-List.getD_eq_getElem?_getD,-getElem?_pos,-getElem?_neg,om,NU,hB,hk,h1,hm,hm2,hpl,af]
 | some t=>
  rw [hq] at h1;obtain ⟨h3,r,h4,h5⟩:=h2 t hq;have hgi:=hE i h3;obtain rfl:=hz (ne_of_lt h3);have hri:l[i]=r:=by rw [List.getElem?_eq_getElem h3] at h4;cases h4;rfl
  rw [hri] at hgi
  have e:B.set k (.var 102 [.ah nl 3 (br l),.bool (lk || (some t).isNone)])=B:=by
   have e1:(lk || (some t).isNone)=lk:=by simp
   rw [e1,←hB];apply List.ext_getElem?;intro i;by_cases hi:i=k
   ·subst hi;simp [ab.at,hk,List.getD_eq_getElem?_getD]
   ·rw [List.getElem?_set_ne (Ne.symm hi)]
  rw [e];generalize br l=E at*
  clear h2 hE h4 hri e;subst h5;simp (maxSteps:=9^9) (disch:=omega) [-List.map_replicate,-List.map_set,-List.getD_eq_getElem?_getD,-getElem?_pos,-getElem?_neg,om,NU,hB,hk,h1,hm,hgi,hpl,af]
set_option maxHeartbeats 8000000
def Ig (f:Nat×ae):AV:= .agg [.int .i64 f.1,.str [],.str f.2]
theorem Gc (w:ae):oA w [[102,111,110,100,115], [115,101,114,105,101,115], [102,105,108,101], [105,116,101,109]] 0+1=(jj w:Int):=by
 unfold jj;have t1:im 1= [102,111,110,100,115]:=rfl;have t2:im 2= [115,101,114,105,101,115]:=rfl;have t3:im 3= [102,105,108,101]:=rfl;have t4:im 4= [105,116,101,109]:=rfl;rw [t1,t2,t3,t4];simp only [oA,beq_iff_eq]
 repeat' split
 all_goals rfl
theorem Ih (w:ae):jj w≤4:=by
 unfold jj
 repeat' split
 all_goals omega
def gb:List (Nat×ae)→List ae→List (Nat×ae)×Bool
 | acc, []=>(acc,true)
 | acc,l::r=>match jT aD l with
  | some (n,t)=>(match acc.getLast? with
   | some q=>if n≤q.1 then (acc,false) else gb (acc++ [(n,t)]) r
   | none=>gb (acc++ [(n,t)]) r)
  | none=>(acc,false)
theorem Gd {l:ae} {n:Nat} {t:ae} (h:jT aD l=some (n,t)):1≤n:=by
 unfold jT at h;split at h
 ·rename_i num rest hc;split at h
  ·rename_i n' t' hp hu;split at h
   ·cases h
   ·rename_i hn;cases h;exact (J9 hp (fun h0=>hn (.inr (.inl h0))) (by omega)).2
  ·cases h
 ·cases h
theorem xQ: ∀(r:List ae) (acc:List (Nat×ae)),∃m,(gb acc r).1=acc++m
 | [],acc=>⟨[],by simp [gb]⟩
 | l::r,acc=>by
  unfold gb;cases jT aD l with
  | none=>exact ⟨[],by simp⟩
  | some p=>
   obtain ⟨n,t⟩:=p;obtain ⟨m,hm⟩:=xQ r (acc++ [(n,t)]);simp only;cases acc.getLast? with
   | none=>exact ⟨(n,t)::m,by simp only;rw [hm];simp⟩
   | some q=>
    simp only;split
    ·exact ⟨[],by simp⟩
    ·exact ⟨(n,t)::m,by rw [hm];simp⟩
theorem BH: ∀(r:List ae) (acc:List (Nat×ae)),jk aD (match acc.getLast? with | some q=>q.1 | none=>0) r=if (gb acc r).2=true then some ((gb acc r).1.drop acc.length) else none
 | [],acc=>by simp [jk,gb]
 | l::r,acc=>by
  unfold jk gb;cases hf:jT aD l with
  | none=>simp
  | some p=>
   obtain ⟨n,t⟩:=p;have hp:=Gd hf;have ih:=BH r (acc++ [(n,t)]);rw [List.getLast?_concat] at ih;simp only at ih⊢;obtain ⟨m,hm⟩:=xQ r (acc++ [(n,t)])
   have hstep:(jk aD n r).map ((n,t):: ·)=if (gb (acc++ [(n,t)]) r).2=true then some ((gb (acc++ [(n,t)]) r).1.drop acc.length) else none:=by rw [ih,hm];cases (gb (acc++ [(n,t)]) r).2 <;> simp
   cases hq:acc.getLast? with
   | none=>simp only;rw [if_neg (by omega)];exact hstep
   | some q=>
    simp only;by_cases hn:n≤q.1
    ·rw [if_pos hn,if_pos hn];simp
    ·rw [if_neg hn,if_neg hn];exact hstep
theorem Ge (v:ae) (hv:v.length<900000) (hl: ∀p∈splitB 10 v.dropLast,p.length<190000):
  ∃(lev:Nat) (mark title:ae) (facts:List (Nat×ae)) (b:Bool),ar cfg 64 [.str v] []=some (.aO [.agg [.int .i64 0,.int .i64 0,.int .i64 lev,.str mark,.str title,.ah none 3 (facts.map Ig)],.bool b], [])∧gY aD v=(if b=true then some ⟨lev,title,mark,facts⟩ else none)∧(b=true→1≤lev∧lev≤4):=by
 have h1:=Ic v (by omega);unfold gY rQ;by_cases hlf:v.getLast?=some 10
 case neg=>
  rw [if_neg hlf];rw [show decide (v.getLast?=some 10)=false by simpa using hlf] at h1;refine ⟨0, [], [], [],false,ad BI sZ ?_,rfl,by simp⟩;simp (maxSteps:=9^9) (disch:=omega) [-List.map_replicate,-List.map_set,-List.getD_eq_getElem?_getD,-getElem?_pos,-getElem?_neg,om,tu,h1,af]
 rw [if_pos hlf];rw [show decide (v.getLast?=some 10)=true by simpa using hlf] at h1
 obtain ⟨u,rfl⟩: ∃u,v=u++ [10]:=by
  rcases List.eq_nil_or_concat v with rfl | ⟨u,x,rfl⟩
  ·simp at hlf
  ·rw [List.concat_eq_append] at hlf⊢;simp at hlf;exact ⟨u,by rw [hlf]⟩
 rw [List.dropLast_concat] at hl⊢;have hul:u.length<900000:=by simp at hv;omega
 have h2:=F7 u hul;have h3:=F8 u 10 (by omega)
 have hPl:(splitB 10 u).length<1000000:=by have h:=il 10 u;have h2:u.count 10≤u.length:=List.count_le_length;omega
 generalize splitB 10 u=P at*
 generalize u++ [10]=v at*
 clear hlf hv hul
 match P,hl,hPl with
 | [],_,_=>refine ⟨0, [], [], [],false,ad BI sZ ?_,rfl,by simp⟩;simp (maxSteps:=9^9) (disch:=omega) [-List.map_replicate,-List.map_set,-List.getD_eq_getElem?_getD,-getElem?_pos,-getElem?_neg,om,tu,h1,h2,h3,af]
 | [a],_,_=>refine ⟨0, [], [], [],false,ad BI sZ ?_,rfl,by simp⟩;simp (maxSteps:=9^9) (disch:=omega) [-List.map_replicate,-List.map_set,-List.getD_eq_getElem?_getD,-getElem?_pos,-getElem?_neg,om,tu,h1,h2,h3,af]
 | a::b::r,hl,hPl=>
  have ha:=hl a (by simp);have hb:=hl b (by simp);have c1:=Dt a (by omega);have c2:=Dt b (by omega);unfold F6 at c1 c2
  have htag: ∀w nl,ar cfg 107 [.ah nl 1 [.str [102,111,110,100,115],.str [115,101,114,105,101,115],.str [102,105,108,101],.str [105,116,101,109]],.str w] []=some (.int .i64 ((jj w:Int)-1), []):=fun w nl=>by
   have h:=kj nl 1 [[102,111,110,100,115], [115,101,114,105,101,115], [102,105,108,101], [105,116,101,109]] (fun _=>rfl) (by simp) w;have e:=Gc w;rw [show oA w [[102,111,110,100,115], [115,101,114,105,101,115], [102,105,108,101], [105,116,101,109]] 0=(jj w:Int)-1 by omega] at h;exact h
  have ht4:=Ih;cases hca:ec a with
  | none=>
   obtain ⟨t0,q0,u0,_⟩:=nQ [] (by simp);have hd:sQ aD a=none:=by unfold sQ;rw [hca]
   refine ⟨jj a, [], [], [],false,ad BI sZ ?_,by simp [mS,hd],by simp⟩;rw [hca] at c1;simp only at c1;have hT:=htag a;have hT4:=ht4 a;clear htag ht4 c2 hd;generalize jj a=T at*
   simp (maxSteps:=9^9) (disch:=omega) [-List.map_replicate,-List.map_set,-List.getD_eq_getElem?_getD,-getElem?_pos,-getElem?_neg,om,tu,h1,h2,h3,c1,hT,u0,ep,bX,af]
  | some p=>
   obtain ⟨w,ra⟩:=p;rw [hca] at c1;simp only at c1;obtain ⟨e1,_⟩:=fA hca;have hra:ra.length<190000:=by rw [e1] at ha;simp at ha;omega
   obtain ⟨t,q,u1,u2⟩:=nQ ra hra
   have hd:sQ aD a=if q=true∧jj w≠0∧t≠ [] then some (jj w,t) else none:=by
    unfold sQ;rw [hca];simp only [u2];cases q with
    | false=>simp
    | true=>
     simp only [if_true];by_cases g1:jj w=0
     ·simp [g1]
     ·by_cases g2:t= []
      ·simp [g2]
      ·simp [g1,g2]
   have hT:=htag w;have hT4:=ht4 w;clear htag ht4 hca e1 u2;generalize jj w=T at*
   by_cases g:q=true∧T≠0∧t≠ []
   case neg=>
    rw [if_neg g] at hd;refine ⟨T, [], [], [],false,ad BI sZ ?_,by simp [mS,hd],by simp⟩;clear c2 hd;cases q with
    | false=>simp (maxSteps:=9^9) (disch:=omega) [-List.map_replicate,-List.map_set,-List.getD_eq_getElem?_getD,-getElem?_pos,-getElem?_neg,om,tu,h1,h2,h3,c1,hT,u1,ep,bX,af]
    | true=>
     by_cases g1:T=0
     ·subst g1;simp (maxSteps:=9^9) (disch:=omega) [-List.map_replicate,-List.map_set,-List.getD_eq_getElem?_getD,-getElem?_pos,-getElem?_neg,om,tu,h1,h2,h3,c1,hT,u1,ep,bX,af]
     ·have g2:t= []:=by
       by_cases g2:t= []
       ·exact g2
       ·exact absurd ⟨rfl,g1,g2⟩ g
      subst g2;simp (maxSteps:=9^9) (disch:=omega) [-List.map_replicate,-List.map_set,-List.getD_eq_getElem?_getD,-getElem?_pos,-getElem?_neg,om,tu,h1,h2,h3,c1,hT,u1,g1,ep,bX,af]
   rw [if_pos g] at hd;obtain ⟨rfl,g1,g2⟩:=g;cases hcb:ec b with
   | none=>
    obtain ⟨t0,q0,u0,_⟩:=nQ [] (by simp);have hm:sR aD b=none:=by unfold sR;rw [hcb]
    rw [hcb] at c2;simp only at c2;refine ⟨T,t0,t, [],false,ad BI sZ ?_,by simp [mS,hd,hm],by simp⟩;clear hd hm hcb;simp (maxSteps:=9^9) (disch:=omega) [-List.map_replicate,-List.map_set,-List.getD_eq_getElem?_getD,-getElem?_pos,-getElem?_neg,om,tu,h1,h2,h3,c1,c2,hT,u1,u0,g1,g2,ep,bX,af]
   | some p=>
    obtain ⟨w2,rb⟩:=p;rw [hcb] at c2;simp only at c2;obtain ⟨e1,_⟩:=fA hcb;have hrb:rb.length<190000:=by rw [e1] at hb;simp at hb;omega
    obtain ⟨m,q2,v1,v2⟩:=nQ rb hrb
    have hm:sR aD b=if q2=true∧w2=mR then some m else none:=by
     unfold sR;rw [hcb];simp only [v2];by_cases g3:w2=mR
     ·cases q2 <;> simp [g3]
     ·simp [g3]
    clear hcb e1 v2;by_cases g:q2=true∧w2=mR
    case neg=>
     rw [if_neg g] at hm;refine ⟨T,m,t, [],false,ad BI sZ ?_,by simp [mS,hd,hm],by simp⟩;clear hd hm;cases q2 with
     | false=>simp (maxSteps:=9^9) (disch:=omega) [-List.map_replicate,-List.map_set,-List.getD_eq_getElem?_getD,-getElem?_pos,-getElem?_neg,om,tu,h1,h2,h3,c1,c2,hT,u1,v1,g1,g2,ep,bX,af]
     | true=>
      have g4: ¬ w2= [109,97,114,107]:=fun h=>g ⟨rfl,h⟩;have g5:(w2 != [109,97,114,107])=true:=by simpa using g4
      simp (maxSteps:=9^9) (disch:=omega) [-List.map_replicate,-List.map_set,-List.getD_eq_getElem?_getD,-getElem?_pos,-getElem?_neg,om,tu,h1,h2,h3,c1,c2,hT,u1,v1,g1,g2,g4,g5,ep,bX,af]
    rw [if_pos g] at hm;obtain ⟨rfl,rfl⟩:=g;have hfr: ∀p∈r,p.length<190000:=fun p hp=>hl p (by simp [hp]);have hls:(au (a::b::r)).length=r.length+2:=by simp
    have hdr:(au (a::b::r)).drop 2=au r:=rfl;have hT1:1≤T:=by omega
    suffices H: ∃(facts:List (Nat×ae)) (ok:Bool),ar cfg 64 [.str v] []=some (.aO [.agg [.int .i64 0,.int .i64 0,.int .i64 T,.str m,.str t,.ah none 3 (facts.map Ig)],.bool ok], [])∧jk aD 0 r=if ok=true then some facts else none by
     obtain ⟨facts,ok,k1,k2⟩:=H;refine ⟨T,m,t,facts,ok,k1,?_,fun _=>⟨hT1,hT4⟩⟩;simp only [mS,hd,hm,k2];cases ok <;> rfl
    clear hd hm;have hbr:r.length<1000000:=by simp at hPl;omega
    rw [show mR= [109,97,114,107] from rfl] at c2;clear ha hb hl hra hrb;have hgi:=BH r [];refine ⟨(gb [] r).1,(gb [] r).2,ad BI sZ ?_,by simpa using hgi⟩;clear hgi;have hE: ∀k (h:k<r.length),(au r)[k]?=some (.str r[k]):=fun k h=>by simp [au,h]
    have hrl:=ki r;generalize hG:gb [] r=G at*
    simp (maxSteps:=9^9) (disch:=omega) [-List.map_replicate,-List.map_set,-List.getD_eq_getElem?_getD,-getElem?_pos,-getElem?_neg,om,tu,h1,h2,h3,c1,c2,hT,u1,v1,g1,g2,hls,hdr,ep,bX,af];clear h1 h2 h3 c1 c2 hT u1 v1 hls hdr
    refine Wp.bw (fun (a:Nat×List (Nat×ae))=>r.length-a.1) (fun a=> [none,some (.ptr 0 0),none,some (.ptr 2 0),none,none,none,none,none,none,none,none,none,none,none,none,none,none,none,none,none,none,none,none,none,none,none,none,none,some (.ah none 1 (au r)),some (.int .i64 r.length),some (.int .i64 a.1),none,none,none,none,none,none]) (fun a=> [.var 73 [.int .i64 0,.int .i64 0,.int .i64 0,.str [],.str [],.az 1 0],.sl ⟨false,some 79,none⟩ 3 [],.var 73 [.int .i64 0,.int .i64 0,.int .i64 T,.str m,.str t,.az 3 a.2.length],.sl ⟨false,some 79,none⟩ 3 (a.2.map Ig),.sl ⟨false,some 9,none⟩ 1 [.str [102,111,110,100,115],.str [115,101,114,105,101,115],.str [102,105,108,101],.str [105,116,101,109]]])
     (fun a=>G=gb a.2 (r.drop a.1)∧a.1≤r.length∧a.2.length≤a.1) ?_ (0, []) ⟨by simpa using hG.symm,by simp,by simp⟩ (by simp [au];exact List.take_of_length_le (by simp)) (by simp)
    rintro ⟨i,acc⟩ ⟨hi,hil,hal⟩;simp only at hi hil hal⊢;rw [hi];clear hi hG;by_cases q1:i<r.length
    ·have hg:=hE i q1;have hfa:=Kh r[i] (hfr _ (List.getElem_mem q1));rw [List.drop_eq_getElem_cons q1];simp only [gb];have hml:(acc.map Ig).length=acc.length:=by simp
     generalize r[i]=line at*
     clear hE hfr;cases hf:jT aD line with
     | none=>rw [hf] at hfa;unfold ou at hfa;simp only at hfa⊢;simp (maxSteps:=9^9) (disch:=omega) [-List.map_replicate,-List.map_set,-List.getD_eq_getElem?_getD,-getElem?_pos,-getElem?_neg,om,q1,hg,hfa,af,hml,hrl]
     | some p=>
      obtain ⟨n,x⟩:=p;rw [hf] at hfa;unfold ou at hfa;simp only at hfa⊢;rcases List.eq_nil_or_concat acc with rfl | ⟨acc',q,rfl⟩
      ·simp only [List.getLast?_nil];simp (maxSteps:=9^9) (disch:=omega) [-List.map_replicate,-List.map_set,-List.getD_eq_getElem?_getD,-getElem?_pos,-getElem?_neg,om,q1,hg,hfa,af,hrl];exact ⟨i+1, [(n,x)],⟨rfl,by omega,by simp⟩,by omega,by simp,by simp,by simp [Ig]⟩
      ·rw [List.concat_eq_append] at*
       rw [List.getLast?_concat];simp only;have hgl:((acc'++ [q]).map Ig)[acc'.length]?=some (.agg [.int .i64 q.1,.str [],.str q.2]):=by simp [Ig]
       have hl2:(acc'++ [q]).length=acc'.length+1:=by simp
       have e1:((acc'.length:Int)+1-1).toNat=acc'.length:=by omega
       have e2:(0:Int)<(acc'.length:Int)+1:=by omega
       rw [hl2] at hml hal;generalize hac:acc'++ [q]=acc at*
       by_cases q2:n≤q.1
       ·rw [if_pos q2];simp (maxSteps:=9^9) (disch:=omega) [-List.map_replicate,-List.map_set,-List.getD_eq_getElem?_getD,-getElem?_pos,-getElem?_neg,om,q1,hg,hfa,af,hml,hrl,hl2,hgl,e1,e2,q2]
       ·rw [if_neg q2];simp (maxSteps:=9^9) (disch:=omega) [-List.map_replicate,-List.map_set,-List.getD_eq_getElem?_getD,-getElem?_pos,-getElem?_neg,om,q1,hg,hfa,af,hml,hrl,hl2,hgl,e1,e2,q2];exact ⟨i+1,acc++ [(n,x)],⟨rfl,by omega,by simp;omega⟩,by omega,by simp,by simp;omega,by simp [Ig]⟩
    ·rw [List.drop_eq_nil_of_le (by omega)];simp (maxSteps:=9^9) (disch:=omega) [-List.map_replicate,-List.map_set,-List.getD_eq_getElem?_getD,-getElem?_pos,-getElem?_neg,om,q1,gb,af,hrl]
def BJ (B:List ab) (k:Nat) (nl:Option Bool) (z:Nat) (l:List (Cell×ae)) (lk:Bool):List ab:=B.set k (.var 102 [.ah nl z (br l),.bool lk])
theorem jW (B:List ab) (k:Nat) (nl:Option Bool) (z:Nat) (l:List (Cell×ae)) (lk:Bool):(BJ B k nl z l lk).length=B.length:=by simp [BJ]
theorem vK {B:List ab} {k:Nat} {nl:Option Bool} {z:Nat} {l:List (Cell×ae)} {lk:Bool} (hs:shut B.length B=true):shut B.length (BJ B k nl z l lk)=true:=eu k hs (by simp [shut,aw,AV.under])
structure Fl where
 b:Bool
def Pn (x y:Bool):Prop:=x=y
theorem Ii {B:List ab} {k:Nat} {nl:Option Bool} {z:Nat} {l:List (Cell×ae)} (hk:k<B.length) (hs:shut B.length B=true) (hz:l≠ []→z=3) (hl:l.length<1000000) (hi:fD (l.map Prod.fst)) (hv: ∀u,((aB l (4,u)).getD []).length≤1000) (s:ae) (hsl:s.length≤10000) (lk0:Bool):
  ar cfg 67 [.ptr k 0,.str s] (BJ B k nl z l lk0)=some (.str (aC (fun u=>aB l (4,u)) s).1,BJ B k nl z l (lk0 || (aC (fun u=>aB l (4,u)) s).2)):=by
 have hget: ∀(lk:Bool) (a:AV) (out:ae) (u:Int),(a= .bJ∨a= .ptr B.length 0)→ar cfg 63 [.ptr k 0,.int .i64 4,.int .i64 u] (aZ (BJ B k nl z l lk) a out)=some (.str ((aB l (4,u)).getD []),aZ (BJ B k nl z l (lk || (aB l (4,u)).isNone)) a out):=fun lk a out u ha=>by
  have hbl:=gd (bs:=BJ B k nl z l lk) (by rw [jW];exact vK hs) (a:=a) (by rw [jW];exact ha) out
  have h:=Ie (B:=aZ (BJ B k nl z l lk) a out) (k:=k) (nl:=nl) (z:=z) (l:=l) (lk:=lk) (by
   unfold aZ;rw [eV _ _ (by rw [jW];exact hk)];unfold BJ;rw [Go.Am.bg _ _ _ hk,if_pos rfl]) (by unfold aZ;simp [jW];omega) hbl.sh hz hl hi 4 u
  rw [h];congr 2;unfold aZ;rw [List.set_append_left _ _ (by rw [jW];exact hk),jW,jW];unfold BJ;rw [List.set_set]
 refine ad TF RO ?_;have hBn: ∀lk,(BJ B k nl z l lk).length=B.length:=fun lk=>jW ..
 have hsh: ∀lk,shut (BJ B k nl z l lk).length (BJ B k nl z l lk)=true:=fun lk=>by rw [hBn];exact vK hs
 have hm:=fun lk=>shut_map (Nat.le_refl _) (hsh lk);have hlk0: ∀e,shut B.length (BJ B k nl z l e)=true:=fun e=>vK hs;generalize hlook:(fun u=>aB l (4,u))=look at*
 have hlk: ∀u,aB l (4,u)=look u:=fun u=>by rw [←hlook]
 simp only [hlk] at hget hv;clear hlk hlook;generalize hK:BJ B k nl z l=K at*
 generalize hn0:B.length=n0 at*
 obtain ⟨f0,f1,f2,f3,s0,s1,s2,s3,b0,b1,b2,b3,tk⟩:=Mc (hBn lk0);simp (maxSteps:=9^9) (disch:=omega) [-List.map_replicate,-List.map_set,-List.getD_eq_getElem?_getD,-getElem?_pos,-getElem?_neg,om,RP,hBn,f0,f1,f2,f3,s0,s1,s2,s3,b0,b1,b2,b3,tk];clear f0 f1 f2 f3 s0 s1 s2 s3 b0 b1 b2 b3 tk;refine Wp.bw (fun (a:Nat×ae×AV×Fl)=>s.length-a.1) (fun a=> [some (.ptr k 0),some (.str s),none,some (.ptr n0 0),some (.int .i64 a.1),none,none,none,none,none,none,none]) (fun a=>aZ (K a.2.2.2.b) a.2.2.1 a.2.1) (fun a=>(aC look s).1=a.2.1++(aC look (s.drop a.1)).1∧Pn (lk0 || (aC look s).2) (a.2.2.2.b || (aC look (s.drop a.1)).2)∧a.1≤s.length∧a.2.1.length≤1000*a.1∧(a.2.2.1= .bJ∨a.2.2.1= .ptr n0 0)) ?_ (0, [],.bJ,⟨lk0⟩) ⟨by simp,rfl,by simp,by simp,.inl rfl⟩ (by simp) (by simp [aZ,hBn]);rintro ⟨i,out,a,⟨lk⟩⟩ ⟨hi,hi2,hil,hol,ha⟩;simp only at hi hi2 hil hol ha⊢;have hi3:(lk0 || (aC look s).2)=(lk || (aC look (s.drop i)).2):=hi2;rw [hi,hi3];clear hi hi2 hi3;have hbl:=gd (hsh lk) (by rw [hBn];exact ha) out;rw [hBn] at hbl;have hBl: ∀lk a out,(aZ (K lk) a out).length=n0+2:=fun lk a out=>by simp [aZ,hBn]
 by_cases h1:i<s.length
 ·have hg:s[i]?=some (s.getD i 0):=by simp [List.getD_eq_getElem?_getD,h1]
  have hwb:=pw hbl (s.getD i 0) (by omega)
  have hst:gN (aZ (K lk) a out) n0 (n0+1)=fun t=>aZ (K lk) (.ptr n0 0) t:=by funext t;have:=iB (bs:=K lk) (a:=a) (s:=out) (t:=t);rw [hBn] at this;exact this
  rw [hst] at hwb;have hd:=GK s h1;have htl:(s.take s.length).drop i=s.drop i:=by rw [List.take_length]
  have hne:s.drop i≠ []:=by rw [hd];simp
  have hu:=zw (s.drop i) hne;rw [sP hne] at hu;unfold x7 at hu;by_cases hp:(ao (s.drop i)).2=0
  ·have he:aC look (s.drop i)=(s.getD i 0::(aC look (s.drop (i+1))).1,(aC look (s.drop (i+1))).2):=by rw [hd];exact lJ look _ _ (by rw [←hd];exact hp)
   rw [he];rw [hp] at hu;generalize (ao (s.drop i)).1=p1 at*
   generalize s.getD i 0=c at*
   have hk2:=hBl lk a out;have hk3:=hBl lk (.ptr n0 0) (out++ [c]);clear hd hp hget hbl hBl hst he;generalize hB2:aZ (K lk) a out=B2 at*
   simp (maxSteps:=9^9) (disch:=omega) [-List.map_replicate,-List.map_set,-List.getD_eq_getElem?_getD,-getElem?_pos,-getElem?_neg,om,h1,hg,aj,hu,htl,hwb,hk2,hk3];exact ⟨i+1,out++ [c],.ptr n0 0,⟨lk⟩,⟨by simp,rfl,by omega,by simp;omega,.inr rfl⟩,by omega,by simp,rfl⟩
  ·obtain ⟨q1,q2,q3,q4,q5⟩:=(dv (s.drop i)).resolve_left (fun h=>hp (by rw [h]));have he:=kg look (s.drop i) hp;have hw:=hget lk a out (ao (s.drop i)).1 ha;have hnx:=hv (ao (s.drop i)).1;have hbl2:=gd (hsh (lk || (look (ao (s.drop i)).1).isNone)) (by rw [hBn];exact ha) out;rw [hBn] at hbl2;have hws:=gy hbl2 ((look (ao (s.drop i)).1).getD []) (by omega) (by omega)
   have hst2:gN (aZ (K (lk || (look (ao (s.drop i)).1).isNone)) a out) n0 (n0+1)=fun t=>aZ (K (lk || (look (ao (s.drop i)).1).isNone)) (.ptr n0 0) t:=by funext t;have:=iB (bs:=K (lk || (look (ao (s.drop i)).1).isNone)) (a:=a) (s:=out) (t:=t);rw [hBn] at this;exact this
   rw [hst2] at hws;obtain ⟨n,hn⟩: ∃n:Nat,(ao (s.drop i)).2=n:=⟨(ao (s.drop i)).2.toNat,by omega⟩;rw [hn] at hu he q3 q4;rw [Int.toNat_natCast,List.drop_drop] at he;have q4':i+n≤s.length:=by simp at q4;omega
   have q3':0<n:=by omega
   have he2:aC look (s.drop i)=((look (ao (s.drop i)).1).getD []++(aC look (s.drop (i+n))).1,((look (ao (s.drop i)).1).isNone || (aC look (s.drop (i+n))).2)):=by rw [he];cases look (ao (s.drop i)).1 <;> simp
   rw [he2];generalize (look (ao (s.drop i)).1).getD []=x at*
   generalize (look (ao (s.drop i)).1).isNone=no at*
   generalize (ao (s.drop i)).1=p1 at*
   have hk2:=hBl lk a out;have hk3:=hBl (lk || no) (.ptr n0 0) (out++x);have hk4:=hBl (lk || no) a out;clear hd hp hget hbl hbl2 hBl hst hst2 he he2 hwb q1 q2 q3 q4 q5 hn;generalize hB2:aZ (K lk) a out=B2 at*
   generalize hB3:aZ (K (lk || no)) a out=B3 at*
   simp (maxSteps:=9^9) (disch:=omega) [-List.map_replicate,-List.map_set,-List.getD_eq_getElem?_getD,-getElem?_pos,-getElem?_neg,om,h1,hu,htl,hw,hws,hk2,hk3,hk4,q3'];exact ⟨i+n,out++x,.ptr n0 0,⟨lk || no⟩,⟨by simp,by simp [Pn,Bool.or_assoc],by omega,by simp;omega,.inr rfl⟩,by omega,by simp,rfl⟩
 ·rw [List.drop_eq_nil_of_le (by omega),jU,List.append_nil,Bool.or_false];have hfin:(aZ (K lk) a out).take n0=K lk:=by unfold aZ;rw [←hBn lk];exact List.take_left' rfl
  by_cases h0:out= []
  ·subst h0;have hst:=rZ hbl;have hfs:((aZ (K lk) a []).set (n0+1) (.sl ⟨false,none,none⟩ 1 [])).take n0=K lk:=by unfold aZ;rw [←hBn lk,cB];exact List.take_left' rfl
   have hk2:=hBl lk a [];have hmm:=hm lk;rw [hBn] at hmm;generalize aZ (K lk) a []=B2 at*
   clear hget hsh hm hlk0 hBl;simp (maxSteps:=9^9) (disch:=omega) [-List.map_replicate,-List.map_set,-List.getD_eq_getElem?_getD,-getElem?_pos,-getElem?_neg,om,h1,hst,hfs,hmm,hk2,hBn]
  ·have hst:=oD hbl (by omega) h0;have hfs:((aZ (K lk) a out).set (n0+1) (.sl ⟨false,none,none⟩ 1 (out.map aj))).take n0=K lk:=by unfold aZ;rw [←hBn lk,cB];exact List.take_left' rfl
   have hk2:=hBl lk a out;have hmm:=hm lk;rw [hBn] at hmm;generalize aZ (K lk) a out=B2 at*
   clear hget hsh hm hlk0 hBl;simp (maxSteps:=9^9) (disch:=omega) [-List.map_replicate,-List.map_set,-List.getD_eq_getElem?_getD,-getElem?_pos,-getElem?_neg,om,h1,hst,hfs,hmm,hk2,hBn]
end Go.Proofs.YtfnkchadeaedlaaGreatDoor
