/-
 depend.find, depend.word. depend.text: the text of a unit. depend.value, depend.Value: the value of a cell. The map of cells (a set): keys of two numbers. A range over the map of cells: where each birth is found, and what sorting the reads gives. depend.Reads: the reads of the section of a unit. Strings at one byte: Index, Cut at a blank, HasSuffix and TrimSuffix at a line feed, Split at a byte. depend.fact: the fact of a line. depend.compare, the search among reads, known.get. depend.sheet: what the text of a unit says. known.expand: a text with the citations of reads.
-/
import Derived.Test.YtfnkchadeaedlaaGreatDoorAdM
import Derived.Test.YtfnkchadeaedlaaGreatDoorEscM
import Derived.Test.YtfnkchadeaedlaaGreatDoorIrs
import Derived.Test.YtfnkchadeaedlaaGreatDoorStrM
import Derived.Test.YtfnkchadeaedlaaGreatDoorCatM
import Derived.Lib.Index
set_option linter.all false
namespace Go.Proofs.YtfnkchadeaedlaaGreatDoor
open Go.Am
set_option maxRecDepth 10000
set_option maxHeartbeats 4000000
theorem GC (s:Sh) (u:Int) (B:List ad) (hB:shut B.length B=true) (hu:ad.at B 1= .var 3 [.int .i64 u]):ar cfg 176 [aI s,.ptr 1 0] B=some (.bool (s.unit==u),B):=by
 refine ab Ta OW ?_;have hm:=shut_map (Nat.le_refl _) hB
 have h1:1<B.length:=by
  rcases Nat.lt_or_ge 1 B.length with h | h
  ·exact h
  ·have:ad.at B 1= .dead:=by simp [ad.at,List.getD_eq_getElem?_getD,List.getElem?_eq_none h]
   rw [this] at hu;cases hu
 have a1: ∀l,ad.at (B++l) 1= .var 3 [.int .i64 u]:=fun l=>by rw [ff _ _ h1,hu]
 unfold aI;simp (maxSteps:=9^9) (disch:=omega) [-List.map_replicate,-List.map_set,-List.getD_eq_getElem?_getD,-getElem?_pos,-getElem?_neg,om,MC,a1,hm]
 try exact List.take_left' (by simp)
theorem IU (c:Ct) (hc:c.ok) (u:Int):ar cfg 134 [aO c,.int .i64 u] []=some (.int .i64 (az (aG c.ag u)), []):=by
 refine ab Tb OX ?_;have h:=zY c.sn c.sz c.ag hc.sz hc.sl 176 ⟨rfl,rfl,rfl,rfl⟩ 1 [.var 26 (bU c),.var 3 [.int .i64 u]] u (fun s=>GC s u _ (by simp [shut,aw,AV.under,bU]) rfl) (by simp) (by simp [shut,aw,AV.under,bU]);unfold aO bU at*
 generalize ao c.aa=L1 at*
 generalize c.aq.map bF=L2 at*
 generalize c.ag.map aI=L3 at*
 simp (maxSteps:=9^9) (disch:=omega) [-List.map_replicate,-List.map_set,-List.getD_eq_getElem?_getD,-getElem?_pos,-getElem?_neg,om,MD,h]
theorem cr:Lib.fields [102,111,110,100,115,32,115,101,114,105,101,115,32,102,105,108,101,32,105,116,101,109]= [[102,111,110,100,115], [115,101,114,105,101,115], [102,105,108,101], [105,116,101,109]]:=by decide+kernel
theorem Fm (lev:Int) (h1:1≤lev) (h4:lev≤4):ar cfg 66 [.int .i64 lev] []=some (.str (dD lev), []):=by
 refine ab VY Tc ?_;have h:lev=1∨lev=2∨lev=3∨lev=4:=by omega
 rcases h with rfl | rfl | rfl | rfl
 ·simp (maxSteps:=9^9) (disch:=omega) [-List.map_replicate,-List.map_set,-List.getD_eq_getElem?_getD,-getElem?_pos,-getElem?_neg,om,IV,eD,cr,dD]
 ·simp (maxSteps:=9^9) (disch:=omega) [-List.map_replicate,-List.map_set,-List.getD_eq_getElem?_getD,-getElem?_pos,-getElem?_neg,om,IV,eD,cr,dD]
 ·simp (maxSteps:=9^9) (disch:=omega) [-List.map_replicate,-List.map_set,-List.getD_eq_getElem?_getD,-getElem?_pos,-getElem?_neg,om,IV,eD,cr,dD]
 ·simp (maxSteps:=9^9) (disch:=omega) [-List.map_replicate,-List.map_set,-List.getD_eq_getElem?_getD,-getElem?_pos,-getElem?_neg,om,IV,eD,cr,dD]
theorem D3 {bs l:List ad} (hs:shut bs.length bs=true) (hl: ∀m,shut m l=true) {a:AV} (ha:a= .bS∨a= .ptr bs.length 0) (s:af):Nl (bk bs a s++l) bs.length (bs.length+1) a s:=by
 unfold bk;refine ⟨?_,?_,by omega,ha,by simp,by simp,?_⟩
 ·rw [List.append_assoc,xc];rfl
 ·rw [List.append_assoc,ej];rfl
 ·rw [eo,eo,iq (by simp) hs,hl];rcases ha with rfl | rfl <;> simp [shut,aw,AV.under]
theorem D4 {bs l:List ad} {a:AV} {s t:af}:gW (bk bs a s++l) bs.length (bs.length+1) t=bk bs (.ptr bs.length 0) t++l:=by unfold gW bk;rw [List.append_assoc,uv,cK,List.append_assoc];rfl
theorem Lf (c:Ct) (hc:c.ok) (u:Int) (lang:af) (hr:aD c lang=true):ar cfg 82 [aO c,.int .i64 u,.str lang] []=some (.str (match bD c u with
  | some s=>qT Lib.itoa aB (dD s.level) s.title s.mark (aC (av c.aa lang) s.facts)
  | none=> []), []):=by
 have h1:=IU c hc u;obtain ⟨nl,z,h2,h2z⟩:=xg c hc u lang;have hch:bh c u lang=aC (av c.aa lang) (dZ c u):=by unfold bh;rw [if_pos hr]
 rw [hch] at h2 h2z;have hk:dh c=0:=by unfold aD at hr;simp at hr;exact hr.1
 have hok:=b9 hk;refine ab VZ Td ?_;cases hx:aG c.ag u with
 | none=>
  have hsU:bD c u=none:=by unfold bD;rw [hx]
  rw [hx] at h1;simp only [hsU];unfold aO bU at*
  generalize ao c.aa=L1 at*
  generalize c.aq.map bF=L2 at*
  generalize c.ag.map aI=L3 at*
  simp (maxSteps:=9^9) (disch:=omega) [-List.map_replicate,-List.map_set,-List.getD_eq_getElem?_getD,-getElem?_pos,-getElem?_neg,om,OY,h1,az]
 | some i=>
  rw [hx] at h1;have hi:=cB hx;have hgo:c.ag[i]?=some c.ag[i]:=List.getElem?_eq_getElem hi;have hsU:bD c u=some c.ag[i]:=by unfold bD;rw [hx];exact hgo
  have hfU:dZ c u=c.ag[i].facts:=by unfold dZ;rw [hsU]
  rw [hfU] at h2 h2z;have hsz:=hc.sz (ne_of_lt hi);have hg:(c.ag.map aI)[i]?=some (.agg [.int .i64 c.ag[i].unit,.int .i64 c.ag[i].par,.int .i64 c.ag[i].level,.str c.ag[i].mark,.str c.ag[i].title,.ah c.ag[i].fn c.ag[i].fz (c.ag[i].facts.map cU)]):=get_map _ _ hi;have hEl:(c.ag.map aI).length=c.ag.length:=by simp
  have hso:=hok.ag _ (List.getElem_mem hi);have hil:i<1000000:=by have:=hc.sl;omega
  simp only [hsU];have hw:=Fm c.ag[i].level hso.l1 hso.l2;have ht:=uc c.ag[i].title (by have:=hso.wB;omega);have hm:=uc c.ag[i].mark (by have:=hso.mark;omega);have htl:=eT c.ag[i].title;have hml:=eT c.ag[i].mark;have htl2:=hso.wB;have hml2:=hso.mark
  have htg:(dD c.ag[i].level).length≤6:=by
   unfold dD
   repeat' split
   all_goals simp
  unfold aO bU at*
  generalize c.ag[i]=x at*
  generalize ao c.aa=L1 at*
  generalize c.aq.map bF=L2 at*
  generalize c.ag.map aI=L3 at*
  rw [hsz] at*
  obtain ⟨Y1,hY1⟩: ∃Y,Y=dD x.level++32::(aB x.title++ [10]):=⟨_,rfl⟩;obtain ⟨Y2,hY2⟩: ∃Y,Y=Y1++([109,97,114,107,32]++(aB x.mark++ [10])):=⟨_,rfl⟩;have hY1l:Y1.length≤264:=by rw [hY1];simp;omega
  have hbs:shut 2 [.var 26 [.ah c.ln c.lz L1,.ah c.bn c.bz L2,.ah c.sn 6 L3],.var 73 [.int .i64 x.unit,.int .i64 x.par,.int .i64 x.level,.str x.mark,.str x.title,.ah x.fn x.fz (x.facts.map cU)]]=true:=by simp [shut,aw,AV.under]
  have hw1:=gG (gp (bs:= [.var 26 [.ah c.ln c.lz L1,.ah c.bn c.bz L2,.ah c.sn 6 L3],.var 73 [.int .i64 x.unit,.int .i64 x.par,.int .i64 x.level,.str x.mark,.str x.title,.ah x.fn x.fz (x.facts.map cU)]]) hbs (a:= .bS) (.inl rfl) []) (dD x.level++32::(aB x.title++ [10])) (by simp) (by simp;omega);have hw2:=gG (gp (bs:= [.var 26 [.ah c.ln c.lz L1,.ah c.bn c.bz L2,.ah c.sn 6 L3],.var 73 [.int .i64 x.unit,.int .i64 x.par,.int .i64 x.level,.str x.mark,.str x.title,.ah x.fn x.fz (x.facts.map cU)]]) hbs (a:= .ptr 2 0) (.inr rfl) Y1) ([109,97,114,107,32]++(aB x.mark++ [10])) (by omega) (by simp;omega);rw [iK,List.nil_append] at hw1;replace hw1:ar cfg 126 [.ptr 2 0,.str (dD x.level++32::(aB x.title++ [10]))] (bk [.var 26 [.ah c.ln c.lz L1,.ah c.bn c.bz L2,.ah c.sn 6 L3],.var 73 [.int .i64 x.unit,.int .i64 x.par,.int .i64 x.level,.str x.mark,.str x.title,.ah x.fn x.fz (x.facts.map cU)]] .bS [])=some (.aT [.int .i64 ((dD x.level++32::(aB x.title++ [10])).length:Nat),.gj false],bk [.var 26 [.ah c.ln c.lz L1,.ah c.bn c.bz L2,.ah c.sn 6 L3],.var 73 [.int .i64 x.unit,.int .i64 x.par,.int .i64 x.level,.str x.mark,.str x.title,.ah x.fn x.fz (x.facts.map cU)]] (.ptr 2 0) Y1):=by rw [hY1];exact hw1
  rw [iK,←hY2] at hw2;have hY2l:Y2.length≤1000:=by rw [hY2];simp;omega
  simp only [bk,List.cons_append,List.nil_append,List.length_nil,List.map_nil,List.length_cons,Nat.zero_add,Nat.reduceAdd] at hw1 hw2;simp (maxSteps:=9^9) (disch:=omega) [-List.map_replicate,-List.map_set,-List.getD_eq_getElem?_getD,-getElem?_pos,-getElem?_neg,om,OY,h1,h2,az,hg,hEl,hi,ae,hw,ht,hm,hw1,hw2];have hCHl:(aC (av c.aa lang) x.facts).length≤32:=Nat.le_trans (gH _ _) hso.DX;have hE: ∀k (h:k<(aC (av c.aa lang) x.facts).length),((aC (av c.aa lang) x.facts).map cU)[k]?=some (.agg [.int .i64 (aC (av c.aa lang) x.facts)[k].el,.str (aC (av c.aa lang) x.facts)[k].lang,.str (aC (av c.aa lang) x.facts)[k].text]):=fun k h=>get_map _ _ h;have hF: ∀k (h:k<(aC (av c.aa lang) x.facts).length),wP c.aa (aC (av c.aa lang) x.facts)[k]:=fun k h=>hso.facts _ (fC (List.getElem_mem h));have hEl2:((aC (av c.aa lang) x.facts).map cU).length=(aC (av c.aa lang) x.facts).length:=by simp
  have hT:qT Lib.itoa aB (dD x.level) x.title x.mark (aC (av c.aa lang) x.facts)=Y2++(aC (av c.aa lang) x.facts).flatMap fun f=>Lib.itoa f.el++ [32]++aB f.text++ [10]:=by rw [hY2,hY1];simp [qT,qS]
  have hY2n:Y2≠ []:=by rw [hY2];simp
  generalize aC (av c.aa lang) x.facts=CH at*
  generalize hTT:qT Lib.itoa aB (dD x.level) x.title x.mark CH=TT at*
  generalize CH.map cU=CA at*
  clear hw1 hw2 hY1 hY2 hg h1 h2 hw ht hm hTT
  refine Wp.aA (fun (a:Nat×af)=>CH.length-a.1) (fun a=> [none,none,none,none,none,none,none,some (.ptr 2 0),none,none,none,none,none,none,none,some (.ah nl z CA),some (.int .i64 CH.length),some (.int .i64 a.1),none,none,none,none,none]) (fun a=> [.var 26 [.ah c.ln c.lz L1,.ah c.bn c.bz L2,.ah c.sn 6 L3],.var 73 [.int .i64 x.unit,.int .i64 x.par,.int .i64 x.level,.str x.mark,.str x.title,.ah x.fn x.fz (x.facts.map cU)],.var 159 [.ptr 2 0,.ay 3 a.2.length],.sl ⟨false,some 5,none⟩ 1 (a.2.map aj)])
   (fun a=>(TT=a.2++(CH.drop a.1).flatMap fun f=>Lib.itoa f.el++ [32]++aB f.text++ [10])∧a.1≤CH.length∧a.2.length≤1000+20000*a.1∧a.2≠ []) ?_ (0,Y2) ⟨by simpa using hT,by simp,by simp;omega,hY2n⟩ (by simp) (by simp)
  rintro ⟨k,out⟩ ⟨hk1,hkl,hol,hon⟩;simp only at hk1 hkl hol hon⊢;rw [hk1];by_cases h3:k<CH.length
  ·have hgk:=hE k h3;have hfk:=hF k h3;obtain rfl:=h2z (ne_of_lt h3);rw [List.drop_eq_getElem_cons h3,List.flatMap_cons] at hk1⊢;clear hE hF;generalize CH[k]=f at*
   have hel:=uc f.text (by have:=hfk.len;omega);have hetl:=eT f.text;have hfl:=hfk.len;have hitl:=Lib.itoa_length_le f.el (by have:=hfk.Hy;omega) (by have:=hfk.Hz;omega);have hid1: -9223372036854775808≤f.el:=by have:=hfk.Hy;omega
   have hid2:f.el≤9223372036854775807:=by have:=hfk.Hz;omega
   obtain ⟨Y3,hY3⟩: ∃Y,Y=out++(Lib.itoa f.el++32::(aB f.text++ [10])):=⟨_,rfl⟩;have hw3:=gG (D3 (bs:= [.var 26 [.ah c.ln c.lz L1,.ah c.bn c.bz L2,.ah c.sn 6 L3],.var 73 [.int .i64 x.unit,.int .i64 x.par,.int .i64 x.level,.str x.mark,.str x.title,.ah x.fn x.fz (x.facts.map cU)]]) (l:= [.var 79 [.int .i64 f.el,.str f.lang,.str f.text]]) hbs (fun m=>rfl) (a:= .ptr 2 0) (.inr rfl) out) (Lib.itoa f.el++32::(aB f.text++ [10])) (by omega) (by simp;omega);rw [D4,←hY3] at hw3;have hY3l:Y3.length≤1000+20000*(k+1):=by rw [hY3];simp;omega
   have hY3n:Y3≠ []:=by rw [hY3];simp
   have hk2:out++((Lib.itoa f.el++ [32]++aB f.text++ [10])++(CH.drop (k+1)).flatMap fun f=>Lib.itoa f.el++ [32]++aB f.text++ [10])=Y3++(CH.drop (k+1)).flatMap fun f=>Lib.itoa f.el++ [32]++aB f.text++ [10]:=by rw [hY3];simp
   rw [hk2] at hk1⊢;rw [←hk1];simp only [bk,List.cons_append,List.nil_append,List.length_nil,List.length_cons,Nat.zero_add,Nat.reduceAdd] at hw3;generalize hit:Lib.itoa f.el=it at*
   clear hY3 hk2;simp (maxSteps:=9^9) (disch:=omega) [-List.map_replicate,-List.map_set,-List.getD_eq_getElem?_getD,-getElem?_pos,-getElem?_neg,om,h3,hgk,ae,sB,hid1,hid2,hit,hel,hw3];exact ⟨k+1,Y3,⟨by rw [hk1];simp,by omega,by omega,hY3n⟩,by omega,by omega,rfl,rfl⟩
  ·rw [List.drop_eq_nil_of_le (by omega),List.flatMap_nil,List.append_nil] at hk1⊢;have hst:=oO (gp (bs:= [.var 26 [.ah c.ln c.lz L1,.ah c.bn c.bz L2,.ah c.sn 6 L3],.var 73 [.int .i64 x.unit,.int .i64 x.par,.int .i64 x.level,.str x.mark,.str x.title,.ah x.fn x.fz (x.facts.map cU)]]) hbs (a:= .ptr 2 0) (.inr rfl) out) (by omega) hon;simp only [bk,List.cons_append,List.nil_append,List.length_nil,List.length_cons,Nat.zero_add,Nat.reduceAdd] at hst;simp (maxSteps:=9^9) (disch:=omega) [-List.map_replicate,-List.map_set,-List.getD_eq_getElem?_getD,-getElem?_pos,-getElem?_neg,om,h3,hst]
theorem si (c:Ct) (hc:c.ok) (root:Int) (lang:af) (x:Int×Int) (hr:aD c lang=true):ar cfg 41 [aO c,.int .i64 root,.str lang,.agg [.int .i64 x.1,.int .i64 x.2]] []=some (.str (sf Lib.itoa aB c lang root x), []):=by
 have hk:dh c=0:=by unfold aD at hr;simp at hr;exact hr.1
 have h1:=rl c hc root x.2;have h2:=Lf c hc x.2 lang hr;have h3:=HC c hc x.2 lang;have h4:=HB c hc x.2;rw [if_pos hk] at h1 h4;have h3e:(if x.2<1∨64<x.2∨aD c lang=false then [] else gF (av c.aa lang) c.aq x.2 (cV Lib.itoa x.2))=(if x.2<1∨64<x.2 then [] else gF (av c.aa lang) c.aq x.2 (cV Lib.itoa x.2)):=by rw [hr];simp
 rw [h3e] at h3;refine ab V0 Te ?_;unfold sf
 generalize hV2:(match bD c x.2 with
  | some s=>qT Lib.itoa aB (dD s.level) s.title s.mark (aC (av c.aa lang) s.facts)
  | none=>([]:af))=V2 at*
 generalize (if x.2<1∨64<x.2 then ([]:af) else gF (av c.aa lang) c.aq x.2 (cV Lib.itoa x.2))=V3 at*
 generalize dy Lib.itoa c root x.2=V1 at*
 generalize cL c.ag x.2=V4 at*
 clear h3e;unfold aO bU at*
 generalize ao c.aa=L1 at*
 generalize c.aq.map bF=L2 at*
 generalize c.ag.map aI=L3 at*
 obtain ⟨k,u⟩:=x;simp only at*
 by_cases e1:k=1
 ·simp (maxSteps:=9^9) (disch:=omega) [-List.map_replicate,-List.map_set,-List.getD_eq_getElem?_getD,-getElem?_pos,-getElem?_neg,om,GD,e1,h1]
 by_cases e2:k=2
 ·simp (maxSteps:=9^9) (disch:=omega) [-List.map_replicate,-List.map_set,-List.getD_eq_getElem?_getD,-getElem?_pos,-getElem?_neg,om,GD,e2,h2]
  first | (cases bD c u <;> rfl) | (rw [←hV2];cases bD c u <;> rfl) | rfl
 by_cases e3:k=3
 ·simp (maxSteps:=9^9) (disch:=omega) [-List.map_replicate,-List.map_set,-List.getD_eq_getElem?_getD,-getElem?_pos,-getElem?_neg,om,GD,e3,h3]
 by_cases e4:k=4
 ·simp (maxSteps:=9^9) (disch:=omega) [-List.map_replicate,-List.map_set,-List.getD_eq_getElem?_getD,-getElem?_pos,-getElem?_neg,om,GD,e4,h4]
 simp (maxSteps:=9^9) (disch:=omega) [-List.map_replicate,-List.map_set,-List.getD_eq_getElem?_getD,-getElem?_pos,-getElem?_neg,om,GD,e1,e2,e3,e4]
theorem nW (c:Ct) (hc:c.ok) (root:Int) (lang:af) (x:Int×Int):ar cfg 16 [aO c,.int .i64 root,.str lang,.agg [.int .i64 x.1,.int .i64 x.2]] []=some (.str (if aD c lang=true then sf Lib.itoa aB c lang root x else []), []):=by
 refine ab V5 Tf ?_;have h1:=Ak c hc lang;cases hr:aD c lang with
 | true=>
  have h2:=si c hc root lang x hr;rw [hr] at h1;unfold aO bU at*
  generalize ao c.aa=L1 at*
  generalize c.aq.map bF=L2 at*
  generalize c.ag.map aI=L3 at*
  simp (maxSteps:=9^9) (disch:=omega) [-List.map_replicate,-List.map_set,-List.getD_eq_getElem?_getD,-getElem?_pos,-getElem?_neg,om,OZ,h1,h2]
 | false=>
  rw [hr] at h1;unfold aO bU at*
  generalize ao c.aa=L1 at*
  generalize c.aq.map bF=L2 at*
  generalize c.ag.map aI=L3 at*
  simp (maxSteps:=9^9) (disch:=omega) [-List.map_replicate,-List.map_set,-List.getD_eq_getElem?_getD,-getElem?_pos,-getElem?_neg,om,OZ,h1]
def iC (z:Cell):AV:= .agg [.int .i64 z.1,.int .i64 z.2]
def oj (e:Cell×Nat):AV×AV×Nat:=(iC e.1,.bool true,e.2)
def nk (z:Cell):List (Cell×Nat)→Nat→Option (Nat×Cell×Nat)
 | [],_=>none
 | e::r,i=>if e.1=z then some (i,e) else nk z r (i+1)
theorem Fo (z:Cell): ∀(m:List (Cell×Nat)) (i:Nat),jC (bO cfg 20 28) (iC z) (m.map oj) i=some ((nk z m i).map fun p=>(p.1,oj p.2))
 | [],i=>rfl
 | e::r,i=>by
  have ih:=Fo z r (i+1);have he:bO cfg 20 28 (iC z) (oj e).1=some (z.1==e.1.1&&z.2==e.1.2):=by simp (config:={maxSteps:=1000000}) (disch:=omega) [-List.map_replicate,-List.map_set,-List.getD_eq_getElem?_getD,-getElem?_pos,-getElem?_neg,wrap_i64,ny,jD,jE,iv,oj,iC]
  simp only [List.map_cons,jC,he,nk];by_cases hs:e.1=z
  ·subst hs;simp
  ·have hs2:(z.1==e.1.1&&z.2==e.1.2)=false:=by
    cases h:(z.1==e.1.1&&z.2==e.1.2) with
    | false=>rfl
    | true=>simp at h;exact absurd (Prod.ext h.1.symm h.2.symm) hs
   simp only [hs2,if_neg hs];exact ih
theorem pD (z:Cell): ∀(m:List (Cell×Nat)) (i j:Nat) (e:Cell×Nat),nk z m i=some (j,e)→i≤j∧m[j-i]?=some e∧e.1=z
 | [],i,j,e,h=>by cases h
 | x::r,i,j,e,h=>by
  simp only [nk] at h;split at h
  ·rename_i hs;cases h;exact ⟨Nat.le_refl _,by simp,hs⟩
  ·obtain ⟨h1,h2,h3⟩:=pD z r (i+1) j e h;refine ⟨by omega,?_,h3⟩;rw [show j-i=(j-(i+1))+1 by omega];simpa using h2
def gi (m:List (Cell×Nat)) (clock:Nat) (z:Cell):List (Cell×Nat):=match nk z m 0 with
 | some _=>m
 | none=>m++ [(z,clock)]
def fp (m:List (Cell×Nat)) (clock:Nat) (z:Cell):Nat:=match nk z m 0 with
 | some _=>clock
 | none=>clock+1
theorem O0 {bs:List ad} {k clock:Nat} {m:List (Cell×Nat)} (h:ad.at bs k= .mp (m.map oj) clock) (z:Cell):aX cfg (cfg.ti 82) (.cF k) (iC z) (.bool true) bs=some (.aT [],.ig k (.mp ((gi m clock z).map oj) (fp m clock z))):=by
 have hf:=Fo z m 0;unfold gi fp;cases hq:nk z m 0 with
 | none=>rw [hq] at hf;unfold iC at*;simp [aX,cN,iM,iZ,gJ,gq,ij,h,hf,-bO,oj,iC]
 | some p=>
  obtain ⟨j,e⟩:=p;obtain ⟨_,hj,he⟩:=pD z m 0 j e hq;rw [hq] at hf;subst he
  have hset:(m.map oj).set j (iC e.1,.bool true,e.2)=m.map oj:=by
   apply List.ext_getElem?;intro i;by_cases hi:j=i
   ·subst hi;simp only [Nat.sub_zero] at hj
    have hl:j<m.length:=by
     rcases Nat.lt_or_ge j m.length with h' | h'
     ·exact h'
     ·rw [List.getElem?_eq_none h'] at hj;cases hj
    rw [List.getElem?_set_self (by simpa using hl),List.getElem?_map,hj];rfl
   ·rw [List.getElem?_set_ne hi]
  unfold iC at*
  simp [aX,cN,iM,iZ,gJ,gq,ij,h,hf,-bO,oj,iC,sameKey,iX,kH,hset]
theorem v8 (z:Cell): ∀(m:List (Cell×Nat)) (i:Nat),nk z m i=none→ ∀e∈m,e.1≠z
 | [],_,_,_,h=>by cases h
 | x::r,i,h,e,he=>by
  simp only [nk] at h;split at h
  ·cases h
  ·rename_i hs;rcases List.mem_cons.mp he with rfl | he
   ·exact hs
   ·exact v8 z r (i+1) h e he
structure Cc (m:List (Cell×Nat)) (clock:Nat):Prop where
 keys:(m.map Prod.fst).Nodup
 born:(m.map Prod.snd).Nodup
 lt: ∀e∈m,e.2<clock
theorem jY {m:List (Cell×Nat)} {clock:Nat} (h:Cc m clock) (z:Cell):Cc (gi m clock z) (fp m clock z)∧ ∀y,y∈(gi m clock z).map Prod.fst↔y∈m.map Prod.fst∨y=z:=by
 unfold gi fp;cases hq:nk z m 0 with
 | some p=>
  obtain ⟨j,e⟩:=p;obtain ⟨_,hj,he⟩:=pD z m 0 j e hq;refine ⟨h,fun y=>⟨.inl,fun hy=> ?_⟩⟩;rcases hy with hy | rfl
  ·exact hy
  ·exact List.mem_map.mpr ⟨e,List.mem_of_getElem? hj,he⟩
 | none=>
  have hn:=v8 z m 0 hq;refine ⟨⟨?_,?_,?_⟩,fun y=>by simp⟩
  ·simp only [List.map_append,List.map_cons,List.map_nil];refine List.nodup_append.mpr ⟨h.keys,by simp,fun a ha b hb=> ?_⟩;obtain ⟨e,he,rfl⟩:=List.mem_map.mp ha;simp at hb;subst hb;exact hn e he
  ·simp only [List.map_append,List.map_cons,List.map_nil];refine List.nodup_append.mpr ⟨h.born,by simp,fun a ha b hb=> ?_⟩;obtain ⟨e,he,rfl⟩:=List.mem_map.mp ha;simp at hb;subst hb;have:=h.lt e he;omega
  ·intro e he;rcases List.mem_append.mp he with he | he
   ·exact Nat.lt_succ_of_lt (h.lt e he)
   ·simp at he;subst he;simp
def aF (l:List (Cell×af)):List AV:=l.map kr
theorem cT: ∀l:List (Cell×af),al (aF l)=true
 | []=>rfl
 | x::r=>by simp [aF,kr,al,AV.plain];exact cT r
theorem nX {α β:Type} {f:α→β}: ∀{M:List α} {a b:α},(M.map f).Nodup→a∈M→b∈M→f a=f b→a=b
 | x::r,a,b,hn,ha,hb,h=>by
  rw [List.map_cons,List.nodup_cons] at hn;rcases List.mem_cons.1 ha with rfl | ha'
  ·rcases List.mem_cons.1 hb with rfl | hb'
   ·rfl
   ·exact absurd (h▸List.mem_map.mpr ⟨b,hb',rfl⟩) hn.1
  ·rcases List.mem_cons.1 hb with rfl | hb'
   ·exact absurd (h▸List.mem_map.mpr ⟨a,ha',rfl⟩) hn.1
   ·exact nX hn.2 ha' hb' h
theorem ME: ∀(M:List (Cell×Nat)) (i:Nat) (e:Cell×Nat),e∈M→(M.map Prod.snd).Nodup→ ∃j,sI (e.2:Int) (M.map oj) i=some (j,oj e)
 | x::r,i,e,he,hn=>by
  have hn2:=hn;rw [List.map_cons,List.nodup_cons] at hn2;simp only [List.map_cons,sI];by_cases hx:x.2=e.2
  ·have hxe:=nX hn (List.mem_cons_self ..) he hx;subst hxe;exact ⟨i,by simp [oj]⟩
  ·have he:e∈r:=by
    rcases List.mem_cons.1 he with h | h
    ·exact absurd (by rw [h]) hx
    ·exact h
   obtain ⟨j,hj⟩:=ME r (i+1) e he hn2.2;refine ⟨j,?_⟩;rw [if_neg (by simp only [oj];omega)];exact hj
theorem pE {α β:Type} [DecidableEq α] {f:α→β}: ∀{l M:List α},(l.map f).Nodup→(∀e∈l,e∈M)→l.length≤M.length
 | [],M,_,_=>by simp
 | x::r,M,hn,h=>by
  rw [List.map_cons,List.nodup_cons] at hn;have hx:=h x (List.mem_cons_self ..)
  have h2:=pE (l:=r) (M:=M.erase x) hn.2 fun e he=>(List.mem_erase_of_ne (by
   rintro rfl;exact hn.1 (List.mem_map.mpr ⟨e,he,rfl⟩))).2 (h e (List.mem_cons_of_mem _ he))
  rw [List.length_erase_of_mem hx] at h2;have:0<M.length:=List.length_pos_of_mem hx;simp only [List.length_cons];omega
theorem D5 {M:List (Cell×Nat)} {clock:Nat} (h:Cc M clock) {S:List Cell} (hS:jr S) (hM: ∀z,z∈M.map Prod.fst↔z∈S) (val:Cell→af) {l:List (Cell×Nat)} (hl: ∀e∈l,e∈M) (hn:(l.map Prod.snd).Nodup) (hall: ∀e∈M,(l.map Prod.snd).contains e.2=true):
  ((l.map fun e=>(e.1,val e.1)).map Prod.fst).Nodup∧qU (l.map fun e=>(e.1,val e.1))=S.map fun z=>(z,val z):=by
 have hmem: ∀e∈M,e∈l:=fun e he=>by
  have h1:=hall e he;rw [List.contains_iff_mem] at h1;obtain ⟨e',h2,h3⟩:=List.mem_map.1 h1;have:=nX h.born (hl _ h2) he h3
  rwa [←this]
 have hk:(l.map Prod.fst).Nodup:=by unfold List.Nodup at hn⊢;rw [List.pairwise_map] at hn⊢;refine List.Pairwise.imp_of_mem (fun {a b} ha hb hab hf=> ?_) hn;exact hab (by rw [nX h.keys (hl _ ha) (hl _ hb) hf])
 have he:(l.map fun e=>(e.1,val e.1)).map Prod.fst=l.map Prod.fst:=by simp
 rw [he];refine ⟨hk,?_⟩;have hp:(qU (l.map fun e=>(e.1,val e.1))).Perm (l.map fun e=>(e.1,val e.1)):=by unfold qU;exact List.mergeSort_perm _ _
 refine zC hS (fun r hr=> ?_) (fun z=> ?_) ?_ ?_
 ·obtain ⟨e,_,rfl⟩:=List.mem_map.1 (hp.mem_iff.1 hr);rfl
 ·rw [←hM,(hp.map Prod.fst).mem_iff,he];constructor
  ·intro hz;obtain ⟨e,h1,rfl⟩:=List.mem_map.1 hz;exact List.mem_map.mpr ⟨e,hl _ h1,rfl⟩
  ·intro hz;obtain ⟨e,h1,rfl⟩:=List.mem_map.1 hz;exact List.mem_map.mpr ⟨e,hmem _ h1,rfl⟩
 ·rw [(hp.map Prod.fst).nodup_iff,he];exact hk
 ·rw [List.pairwise_map];unfold qU
  have hs:=List.pairwise_mergeSort (le:=fun x y:Cell×af=> !decide (js y.1 x.1<0)) (fun a b c h1 h2=>by
   simp only [Bool.not_eq_true',decide_eq_false_iff_not,iD] at h1 h2⊢;rw [iE] at*;omega) (fun a b=>by
   simp only [Bool.or_eq_true,Bool.not_eq_true',decide_eq_false_iff_not,iD];rw [iE,iE];omega) (l.map fun e=>(e.1,val e.1))
  refine hs.imp fun {a b} hab=> ?_;simp only [Bool.not_eq_true',decide_eq_false_iff_not,iD] at hab;exact hab
set_option maxHeartbeats 8000000
def jt (t:af) (j:Nat):List Cell:=(List.range j).filterMap fun i=>if (ak (t.drop i)).2=0 then none else some (4,(ak (t.drop i)).1)
theorem tx (t:af) (j:Nat) (z:Cell):z∈jt t (j+1)↔z∈jt t j∨((ak (t.drop j)).2≠0∧z=(4,(ak (t.drop j)).1)):=by
 unfold jt;rw [List.range_succ,List.filterMap_append,List.mem_append];by_cases h:(ak (t.drop j)).2=0
 ·simp [h]
 ·simp [h]
theorem k8 (m:List (Cell×Nat)) (c:Nat) (z:Cell):(gi m c z).length≤m.length+1:=by unfold gi;split <;> simp
theorem Cd (n:Nat):eu n∘oj=oj:=by funext x;simp [eu,oj,forget,iC]
theorem tz (n:Nat) (m:List (Cell×Nat)):dX n (m.map oj)=true:=by apply td;intro x;simp [oj,AV.under]
theorem sj (n:Int) (h1:1≤n) (h2:n≤64):Lib.itoa n=zy n.toNat:=by
 obtain ⟨k,rfl⟩:=Int.eq_ofNat_of_zero_le (show 0≤n by omega);unfold Lib.itoa zy;rw [if_neg (by omega)];simp only [Int.toNat_natCast,Int.natAbs_natCast];by_cases h:k<10
 ·rw [if_pos h,Lib.decDigits,dif_pos h]
 ·rw [if_neg h,Lib.decDigits,dif_neg h,Lib.decDigits,dif_pos (by omega)];rfl
def qV (u:Int) (CH:List Fc) (k:Nat) (M:List (Cell×Nat)):Prop:= ∀y,y∈M.map Prod.fst↔y∈(CH.take k).flatMap dP∨y=(1,u)∨y=(2,u)
def ju (M1:List (Cell×Nat)) (t:af) (j:Nat) (M:List (Cell×Nat)):Prop:= ∀y,y∈M.map Prod.fst↔y∈M1.map Prod.fst∨y∈jt t j
theorem ju.start (M1:List (Cell×Nat)) (t:af):ju M1 t 0 M1:=fun y=>by simp [jt]
theorem ju.skip {M1 M:List (Cell×Nat)} {t:af} {j:Nat} (h:ju M1 t j M) (h0:(ak (t.drop j)).2=0):ju M1 t (j+1) M:=fun y=>by
 rw [h y,tx];constructor
 ·rintro (q | q)
  ·exact .inl q
  ·exact .inr (.inl q)
 ·rintro (q | q | q)
  ·exact .inl q
  ·exact .inr q
  ·exact absurd h0 q.1
theorem ju.put {M1 M M':List (Cell×Nat)} {t:af} {j:Nat} (h:ju M1 t j M) (h0:(ak (t.drop j)).2≠0) (hm: ∀y,y∈M'.map Prod.fst↔y∈M.map Prod.fst∨y=(4,(ak (t.drop j)).1)):ju M1 t (j+1) M':=fun y=>by
 rw [hm y,h y,tx];constructor
 ·rintro ((q | q) | q)
  ·exact .inl q
  ·exact .inr (.inl q)
  ·exact .inr (.inr ⟨h0,q⟩)
 ·rintro (q | q | q)
  ·exact .inl (.inl q)
  ·exact .inl (.inr q)
  ·exact .inr q.2
theorem qV.next {u:Int} {CH:List Fc} {k:Nat} (hk:k<CH.length) {M M1 M2:List (Cell×Nat)} (h:qV u CH k M) (h1: ∀y,y∈M1.map Prod.fst↔y∈M.map Prod.fst∨y=(3,CH[k].el)) (h2:ju M1 CH[k].text CH[k].text.length M2):qV u CH (k+1) M2:=fun y=>by
 have hc:jt CH[k].text CH[k].text.length=iR CH[k].text:=rfl;rw [h2 y,h1 y,h y,hc,kA CH hk,List.flatMap_append,List.mem_append];have:y∈ [CH[k]].flatMap dP↔y=(3,CH[k].el)∨y∈iR CH[k].text:=by simp [dP]
 rw [this];constructor
 ·rintro (((q | q | q) | q) | q)
  ·exact .inl (.inl q)
  ·exact .inr (.inl q)
  ·exact .inr (.inr q)
  ·exact .inl (.inr (.inl q))
  ·exact .inl (.inr (.inr q))
 ·rintro ((q | q | q) | q | q)
  ·exact .inl (.inl (.inl q))
  ·exact .inl (.inr q)
  ·exact .inr q
  ·exact .inl (.inl (.inr (.inl q)))
  ·exact .inl (.inl (.inr (.inr q)))
theorem yl (c:Ct) (hc:c.ok) (root u:Int) (lang:af) (h0:cO c root lang=0) (h1:dy Lib.itoa c root u≠ []):
  ar cfg 12 [aO c,.int .i64 root,.str lang,.int .i64 u] []=some (.aT [.ah none 3 (((cellsOf u (bh c u lang)).map fun z=>(z,sf Lib.itoa aB c lang root z)).map kr),.int .i64 0], []):=by
 have hr:=ei h0;have hk:dh c=0:=by unfold aD at hr;simp at hr;exact hr.1
 have hok:=b9 hk;have w1:=gr c hc root lang;have w2:=rl c hc root u;rw [if_pos hk] at w2;obtain ⟨nl,z,w3,hz⟩:=xg c hc u lang;have wv: ∀x:Cell,_:=fun x=>si c hc root lang x hr;rw [h0,if_pos rfl] at w1
 have hF: ∀f∈bh c u lang,wP c.aa f:=by
  intro f hf;unfold bh at hf;rw [if_pos hr] at hf;have hf:=fC hf;unfold dZ at hf;cases hs:bD c u with
  | none=>rw [hs] at hf;cases hf
  | some s=>rw [hs] at hf;obtain ⟨_,_,_,_,hm⟩:=eS hs;exact (hok.ag s hm).facts f hf
 have hFl:(bh c u lang).length≤32:=by
  unfold bh;rw [if_pos hr];refine Nat.le_trans (gH _ _) ?_;unfold dZ;cases hs:bD c u with
  | none=>simp
  | some s=>obtain ⟨_,_,_,_,hm⟩:=eS hs;exact (hok.ag s hm).DX
 have hS:=B5 u (bh c u lang);have hM: ∀z,z∈cellsOf u (bh c u lang)↔_:=fun z=>B6 (z:=z);generalize cellsOf u (bh c u lang)=S at*
 generalize hval:sf Lib.itoa aB c lang root=val at*
 refine ab O1 IW ?_;have hE: ∀k (h:k<(bh c u lang).length),((bh c u lang).map cU)[k]?=some (.agg [.int .i64 (bh c u lang)[k].el,.str (bh c u lang)[k].lang,.str (bh c u lang)[k].text]):=fun k h=>get_map _ _ h;have hEl:((bh c u lang).map cU).length=(bh c u lang).length:=by simp
 generalize bh c u lang=CH at*
 generalize CH.map cU=CA at*
 generalize dy Lib.itoa c root u=nm at*
 have hnm:decide (nm≠ [])=true:=by simpa using h1
 rw [hnm] at w2;unfold wC at w1;generalize (fK Lib.itoa c root lang).map cp=AS at*
 clear hk hok h0 h1 hr hnm hval;have u0: ∀x y (M:List (Cell×Nat)) ck l z1,aX cfg (cfg.ti 82) (.cF 2) (.agg [.int .i64 z1,.int .i64 u]) (.bool true) (x::y:: .mp (M.map oj) ck::l)=some (.aT [],.ig 2 (.mp ((gi M ck (z1,u)).map oj) (fp M ck (z1,u)))):=fun x y M ck l z1=>O0 (by rfl) (z1,u);have u1: ∀x y (M:List (Cell×Nat)) ck l z1 z2,aX cfg (cfg.ti 82) (.cF 2) (.agg [.int .i64 z1,.int .i64 z2]) (.bool true) (x::y:: .mp (M.map oj) ck::l)=some (.aT [],.ig 2 (.mp ((gi M ck (z1,z2)).map oj) (fp M ck (z1,z2)))):=fun x y M ck l z1 z2=>O0 (by rfl) (z1,z2);have u2: ∀x y ck l z1 z2,aX cfg (cfg.ti 82) (.cF 2) (.agg [.int .i64 z1,.int .i64 z2]) (.bool true) (x::y:: .mp [] ck::l)=some (.aT [],.ig 2 (.mp ((gi [] ck (z1,z2)).map oj) (fp [] ck (z1,z2)))):=fun x y ck l z1 z2=>O0 (m:= []) (by rfl) (z1,z2);simp only [Tg] at u1 u2;clear u0;unfold aO bU at*
 generalize ao c.aa=L1 at*
 generalize c.aq.map bF=L2 at*
 generalize c.ag.map aI=L3 at*
 have m0:Cc [] 0:=⟨by simp,by simp,by simp⟩;have i1:=jY (jY m0 (1,u)).1 (2,u);have i2:=jY (jY m0 (2,u)).1 (1,u)
 have i3: ∀y,y∈(gi (gi [] 0 (1,u)) (fp [] 0 (1,u)) (2,u)).map Prod.fst↔y=(1,u)∨y=(2,u):=fun y=>by
  rw [i1.2,(jY m0 (1,u)).2];simp
 have i4: ∀y,y∈(gi (gi [] 0 (2,u)) (fp [] 0 (2,u)) (1,u)).map Prod.fst↔y=(1,u)∨y=(2,u):=fun y=>by
  rw [i2.2,(jY m0 (2,u)).2];simp [or_comm]
 have i5:(gi (gi [] 0 (1,u)) (fp [] 0 (1,u)) (2,u)).length≤2:=by have:=k8 (gi [] 0 (1,u)) (fp [] 0 (1,u)) (2,u);have:=k8 [] 0 (1,u);simp at this;omega
 have i6:(gi (gi [] 0 (2,u)) (fp [] 0 (2,u)) (1,u)).length≤2:=by have:=k8 (gi [] 0 (2,u)) (fp [] 0 (2,u)) (1,u);have:=k8 [] 0 (2,u);simp at this;omega
 replace i1:=i1.1;replace i2:=i2.1;clear m0;simp (maxSteps:=9^9) (disch:=omega) [-List.map_replicate,-List.map_set,-List.getD_eq_getElem?_getD,-getElem?_pos,-getElem?_neg,om,Lg,w1,w2,w3,hEl,ae,kC,u1,u2,Cd,tz];refine ⟨?_,?_⟩
 case' refine_1=>
  generalize gi (gi [] 0 (1,u)) (fp [] 0 (1,u)) (2,u)=M0 at*
  generalize fp (gi [] 0 (1,u)) (fp [] 0 (1,u)) (2,u)=ck0 at*
  clear i2 i4 i6
  rename Cc M0 ck0=>j1
  rename (∀y,y∈M0.map Prod.fst↔y=(1,u)∨y=(2,u))=>j2
  rename M0.length≤2=>j3
 case' refine_2=>
  generalize gi (gi [] 0 (2,u)) (fp [] 0 (2,u)) (1,u)=M0 at*
  generalize fp (gi [] 0 (2,u)) (fp [] 0 (2,u)) (1,u)=ck0 at*
  clear i1 i3 i5
  rename Cc M0 ck0=>j1
  rename (∀y,y∈M0.map Prod.fst↔y=(1,u)∨y=(2,u))=>j2
  rename M0.length≤2=>j3
 all_goals
  clear w1 w2 w3
  refine Wp.aA (fun (a:Nat×List (Cell×Nat)×Nat)=>CH.length-a.1) (fun a=> [none,some (.int .i64 root),some (.str lang),none,some (.ptr 0 0),none,none,none,none,none,some (.cF 2),none,none,none,none,none,none,none,none,none,none,none,none,none,some (.ah nl z CA),some (.int .i64 CH.length),some (.int .i64 a.1),none,none,none,none,none,none,none,none,none,none,none,none,none,none,none,none,none,none]) (fun a=> [.var 26 [.ah c.ln c.lz L1,.ah c.bn c.bz L2,.ah c.sn c.sz L3],.var 41 [.int .i64 root,.str lang,.ah none 3 AS],.mp (a.2.1.map oj) a.2.2])
   (fun a=>Cc a.2.1 a.2.2∧qV u CH a.1 a.2.1∧a.2.1.length≤2+5000*a.1∧a.1≤CH.length) ?_ (0,M0,ck0) ⟨j1,fun y=>by rw [j2 y];simp,by simpa using j3,by simp⟩ (by simp) rfl
  rintro ⟨k,M,ck⟩ ⟨q1,q2,q3,q4⟩;simp only at q1 q2 q3 q4⊢;by_cases h3:k<CH.length
  ·have hgk:=hE k h3;have hfk:=hF _ (List.getElem_mem h3);obtain rfl:=hz (ne_of_lt h3);have hnx:=fun M1 M2=>qV.next (M1:=M1) (M2:=M2) h3 q2;clear hE;generalize CH[k]=f at*
   obtain ⟨p1,p2⟩:=jY q1 (3,f.el);have p3:=k8 M ck (3,f.el);simp (maxSteps:=9^9) (disch:=omega) [-List.map_replicate,-List.map_set,-List.getD_eq_getElem?_getD,-getElem?_pos,-getElem?_neg,om,h3,hgk,ae,u1,Cd,tz];generalize gi M ck (3,f.el)=M1 at*
   generalize fp M ck (3,f.el)=ck1 at*
   refine Wp.aA (fun (a:Nat×List (Cell×Nat)×Nat)=>f.text.length-a.1) (fun a=> [none,some (.int .i64 root),some (.str lang),none,some (.ptr 0 0),none,none,none,none,none,some (.cF 2),some (.ptr 3 0),none,none,none,none,none,none,none,none,none,none,none,none,some (.ah nl 3 CA),some (.int .i64 CH.length),some (.int .i64 k),none,none,none,some (.int .i64 f.text.length),some (.int .i64 a.1),none,none,none,none,none,none,none,none,none,none,none,none,none]) (fun a=> [.var 26 [.ah c.ln c.lz L1,.ah c.bn c.bz L2,.ah c.sn c.sz L3],.var 41 [.int .i64 root,.str lang,.ah none 3 AS],.mp (a.2.1.map oj) a.2.2,.var 79 [.int .i64 f.el,.str f.lang,.str f.text]])
    (fun a=>Cc a.2.1 a.2.2∧ju M1 f.text a.1 a.2.1∧a.2.1.length≤M1.length+a.1∧a.1≤f.text.length) ?_ (0,M1,ck1) ⟨p1,ju.start _ _,by simp,by simp⟩ (by simp) rfl
   rintro ⟨j,M2,ck2⟩ ⟨r1,r2,r3,r4⟩;simp only at r1 r2 r3 r4⊢;have hfl:=hfk.len;by_cases h4:j<f.text.length
   ·have hne:f.text.drop j≠ []:=by simp;omega
    have hct:=Ae (f.text.drop j) hne;rw [tv hne] at hct;unfold ot at hct;have htl:(f.text.take f.text.length).drop j=f.text.drop j:=by rw [List.take_length]
    by_cases h5:(ak (f.text.drop j)).2=0
    ·have r5:=r2.skip h5;rw [h5] at hct;generalize (ak (f.text.drop j)).1=pu at*
     clear q2 hnx p2 r2;simp (maxSteps:=9^9) (disch:=omega) [-List.map_replicate,-List.map_set,-List.getD_eq_getElem?_getD,-getElem?_pos,-getElem?_neg,om,h4,hct,htl,Cd,tz];exact ⟨j+1,M2,ck2,⟨r1,r5,by omega,by omega⟩,by omega,by simp,rfl,rfl⟩
    ·obtain ⟨t1,t2,t3,t4,t5⟩:=(di (f.text.drop j)).resolve_left (fun h=>h5 (by rw [h]));have h6:0<(ak (f.text.drop j)).2:=by omega
     obtain ⟨o1,o2⟩:=jY r1 (4,(ak (f.text.drop j)).1);have r5:=r2.put h5 o2;have o3:=k8 M2 ck2 (4,(ak (f.text.drop j)).1);generalize (ak (f.text.drop j)).1=pu at*
     generalize (ak (f.text.drop j)).2=pn at*
     clear q2 hnx p2 r2 o2;simp (maxSteps:=9^9) (disch:=omega) [-List.map_replicate,-List.map_set,-List.getD_eq_getElem?_getD,-getElem?_pos,-getElem?_neg,om,h4,hct,htl,h6,ae,u1,Cd,tz];exact ⟨j+1,gi M2 ck2 (4,pu),fp M2 ck2 (4,pu),⟨o1,r5,by omega,by omega⟩,by omega,by simp,rfl,rfl⟩
   ·obtain rfl:j=f.text.length:=by omega
    have r5:=hnx M1 M2 p2 r2;clear q2 hnx p2 r2;simp (maxSteps:=9^9) (disch:=omega) [-List.map_replicate,-List.map_set,-List.getD_eq_getElem?_getD,-getElem?_pos,-getElem?_neg,om,Cd,tz];exact ⟨k+1,M2,ck2,⟨r1,r5,by omega,by omega⟩,by omega,by simp,rfl,rfl⟩
  ·obtain rfl:k=CH.length:=by omega
   have hKS: ∀z,z∈M.map Prod.fst↔z∈S:=fun z=>by
    rw [hM z];have:=q2 z
    rwa [List.take_length] at this
   obtain ⟨e1,he1⟩: ∃e,e∈M:=by have:((1,u):Cell)∈M.map Prod.fst:=(hKS _).2 ((hM _).2 (.inr (.inl rfl)));obtain ⟨e,he,_⟩:=List.mem_map.1 this;exact ⟨e,he⟩
   have hsr:=fun l=>D5 q1 hS hKS val (l:=l);have hb:=fun e he=>ME M 0 e he q1.born;clear hE hF q2 hM hKS hS q1;simp (maxSteps:=9^9) (disch:=omega) [-List.map_replicate,-List.map_set,-List.getD_eq_getElem?_getD,-getElem?_pos,-getElem?_neg,om,Cd,tz,ly]
   refine Wp.aA (fun (l:List (Cell×Nat))=>M.length-l.length) (fun l=> [none,some (.int .i64 root),some (.str lang),none,some (.ptr 0 0),none,none,none,none,none,none,none,none,none,none,some (.ay 4 l.length),none,none,none,none,none,none,none,none,none,none,none,none,none,none,none,none,none,none,none,none,some (.kD 3),none,none,none,none,none,none,none,none]) (fun l=> [.var 26 [.ah c.ln c.lz L1,.ah c.bn c.bz L2,.ah c.sn c.sz L3],.var 41 [.int .i64 root,.str lang,.ah none 3 AS],.mp (M.map oj) ck,.iter (.map 2 (l.map Prod.snd) ck),.sl ⟨false,some 57,none⟩ 3 (l.map fun e=>kr (e.1,val e.1))])
    (fun l=>(∀e∈l,e∈M)∧(l.map Prod.snd).Nodup) ?_ [] ⟨by simp,by simp⟩ (by simp) (by simp)
   rintro l ⟨l1,l2⟩;have hll:l.length≤M.length:=pE l2 l1;simp only [NY];refine Wp.AR (i:=3) (m:=2) (clock:=ck) (seen:=l.map Prod.snd) (es:=M.map oj) rfl rfl rfl ?_ ?_
   ·intro hall;have hall2: ∀e∈M,(l.map Prod.snd).contains e.2=true:=fun e he=>hall (oj e) (List.mem_map.mpr ⟨e,he,rfl⟩);obtain ⟨s1,s2⟩:=hsr l l1 l2 hall2
    have hl0:l≠ []:=by rintro rfl;have:=hall2 e1 he1;simp at this
    clear hall hall2 hsr hb;have hrd:=ym (l.map fun e=>(e.1,val e.1));rw [List.map_map] at hrd;have hmm:(kr∘fun e:Cell×Nat=>(e.1,val e.1))=fun e=>kr (e.1,val e.1):=rfl;rw [hmm] at hrd;have hrl:(l.map fun e=>(e.1,val e.1)).length=l.length:=by simp
    have hrn:(l.map fun e=>(e.1,val e.1))≠ []:=by simpa using hl0
    have hEE:(l.map fun e=>kr (e.1,val e.1)).length=l.length:=by simp
    have hSl:(S.map fun z=>(z,val z)).length=l.length:=by rw [←s2];simp [qU]
    generalize hR:(l.map fun e=>(e.1,val e.1))=R at*
    generalize hS2:(S.map fun z=>(z,val z))=S2 at*
    generalize (l.map fun e=>kr (e.1,val e.1))=EE at*
    have hg:ud [.ay 4 l.length,.fn 43 [] []] [.var 26 [.ah c.ln c.lz L1,.ah c.bn c.bz L2,.ah c.sn c.sz L3],.var 41 [.int .i64 root,.str lang,.ah none 3 AS],.mp (M.map oj) ck,.iter (.map 2 (l.map Prod.snd) ck),.sl ⟨false,some 57,none⟩ 3 EE]=some (.aT [], [.var 26 [.ah c.ln c.lz L1,.ah c.bn c.bz L2,.ah c.sn c.sz L3],.var 41 [.int .i64 root,.str lang,.ah none 3 AS],.mp (M.map oj) ck,.iter (.map 2 (l.map Prod.snd) ck),.sl ⟨false,some 57,none⟩ 3 (S2.map kr)]):=by
     have hm1:l.length<1000000:=by omega
     simp [ud,ad.at,hrd,hrl,hrn,hm1,s1,s2]
    clear hrd hmm s1 s2 hR;have hSm:(S2.map kr).length=l.length:=by rw [List.length_map];exact hSl
    generalize hS3:S2.map kr=S3 at*
    simp (maxSteps:=9^9) (disch:=omega) [-List.map_replicate,-List.map_set,-List.getD_eq_getElem?_getD,-getElem?_pos,-getElem?_neg,om,Cd,tz,hg,hEE,hSm];rw [←hS3,←hS2,List.map_map]
   ·intro e he hn;obtain ⟨e0,he0,rfl⟩:=List.mem_map.1 he;obtain ⟨j,hj⟩:=hb e0 he0;have hv:=wv e0.1;clear hsr hb he wv;obtain ⟨⟨z1,z2⟩,n⟩:=e0;replace hj:sI (n:Int) (M.map oj) 0=some (j,(.agg [.int .i64 z1,.int .i64 z2],.bool true,n)):=hj;simp only at hv;have hEE:(l.map fun e=>kr (e.1,val e.1)).length=l.length:=by simp
    simp (maxSteps:=9^9) (disch:=omega) [-List.map_replicate,-List.map_set,-List.getD_eq_getElem?_getD,-getElem?_pos,-getElem?_neg,om,Cd,tz,oj,iC,mv,hj,hv,hEE,ae]
    have hsub: ∀e∈l++ [((z1,z2),n)],e∈M:=fun e hm=>by
     rcases List.mem_append.1 hm with hm | hm
     ·exact l1 _ hm
     ·rw [List.mem_singleton] at hm;rw [hm];exact he0
    have hnd:((l++ [((z1,z2),n)]).map Prod.snd).Nodup:=by rw [List.map_append];refine List.nodup_append.mpr ⟨l2,by simp,fun a ha b hb=> ?_⟩;simp only [List.map_cons,List.map_nil,List.mem_singleton] at hb;rintro rfl;have hn2:(l.map Prod.snd).contains n=false:=hn;rw [hb] at ha;rw [←List.contains_iff_mem,hn2] at ha;cases ha
    have hle:=pE hnd hsub;rw [List.length_append,List.length_singleton] at hle;refine ⟨l++ [((z1,z2),n)],⟨fun a b q hm=>hsub _ hm,hnd⟩,?_,by simp,by simp,by simp [kr]⟩;rw [List.length_append,List.length_singleton];omega
theorem IX (c:Ct) (hc:c.ok) (root u:Int) (lang:af): ∃nl z,ar cfg 12 [aO c,.int .i64 root,.str lang,.int .i64 u] []=some (.aT [.ah nl z (aF (aM Lib.itoa aB c root lang u).1),.int .i64 (aM Lib.itoa aB c root lang u).2], [])∧((aM Lib.itoa aB c root lang u).1≠ []→z=3):=by
 unfold aM;by_cases h0:cO c root lang=0
 ·rw [if_neg (by simpa using h0)];by_cases h1:dy Lib.itoa c root u= []
  ·rw [if_pos h1];refine ⟨some true,0,?_,by simp⟩;have hr:=ei h0;have hk:dh c=0:=by unfold aD at hr;simp at hr;exact hr.1
   have w1:=gr c hc root lang;have w2:=rl c hc root u;rw [if_pos hk,h1] at w2;rw [h0,if_pos rfl] at w1;refine ab O1 IW ?_;unfold wC at w1;generalize (fK Lib.itoa c root lang).map cp=AS at*
   unfold aO bU at*
   generalize ao c.aa=L1 at*
   generalize c.aq.map bF=L2 at*
   generalize c.ag.map aI=L3 at*
   simp (maxSteps:=9^9) (disch:=omega) [-List.map_replicate,-List.map_set,-List.getD_eq_getElem?_getD,-getElem?_pos,-getElem?_neg,om,Lg,w1,w2,ae,aF]
  ·rw [if_neg h1];have hr:=ei h0;have hk:dh c=0:=by unfold aD at hr;simp at hr;exact hr.1
   have hq:(fun z=>(z,bC Lib.itoa aB c lang root z))=fun z=>(z,sf Lib.itoa aB c lang root z):=by funext z;unfold bC;rw [if_pos hr,zA sj (b9 hk)]
   rw [hq];exact ⟨none,3,yl c hc root u lang h0 h1,fun _=>rfl⟩
 ·rw [if_pos h0];refine ⟨some true,0,?_,by simp⟩;have w1:=gr c hc root lang;rw [if_neg h0] at w1;refine ab O1 IW ?_;unfold CT at w1;generalize cO c root lang=e at*
  unfold aO bU at*
  generalize ao c.aa=L1 at*
  generalize c.aq.map bF=L2 at*
  generalize c.ag.map aI=L3 at*
  simp (maxSteps:=9^9) (disch:=omega) [-List.map_replicate,-List.map_set,-List.getD_eq_getElem?_getD,-getElem?_pos,-getElem?_neg,om,Lg,w1,h0,ae,aF]
set_option maxHeartbeats 4000000
theorem index_one (c:UInt8): ∀s:af,Lib.index s [c]=Lib.indexByte s c
 | []=>rfl
 | b::l=>by
  simp only [Lib.index,Lib.indexByte,index_one c l,List.isPrefixOf,Bool.and_true];by_cases h:b=c
  ·subst h;simp
  ·simp [h,Ne.symm h]
theorem GF (s:af) (c:UInt8) (h2:s.length<100000000):ar cfg 125 [.str s,.str [c]] []=some (.int .i64 (Lib.indexByte s c), []):=by
 have hi:s.length<4294967281:=by omega
 refine ab Th O2 ?_;simp (maxSteps:=9^9) (disch:=omega) [-List.map_replicate,-List.map_set,-List.getD_eq_getElem?_getD,-getElem?_pos,-getElem?_neg,om,MF,Ce,hi,index_one]
theorem GG (s:af) (c:UInt8):ar cfg 65 [.str s,.str [c]] []=some (.int .i64 (s.count c), []):=by refine ab RN L8 ?_;simp (maxSteps:=9^9) (disch:=omega) [-List.map_replicate,-List.map_set,-List.getD_eq_getElem?_getD,-getElem?_pos,-getElem?_neg,om,Nu,yD,Lib.countByte]
def GH (s:af):AV:=match eP s with
 | some (a,b)=> .aT [.str a,.str b,.bool true]
 | none=> .aT [.str s,.str [],.bool false]
theorem oI: ∀s:af,Lib.indexByte s 32=(match eP s with
   | some (a,_)=>(a.length:Int)
   | none=> -1)
 | []=>rfl
 | c::r=>by
  have ih:=oI r;simp only [Lib.indexByte,eP];by_cases h:c=32
  ·subst h;simp
  ·have h':(c==32)=false:=by simpa using h
   rw [if_neg h,h',ih];cases eP r with
   | none=>rfl
   | some p=>
    have hne:(((p.1.length:Int))== -1)=false:=by rw [beq_eq_false_iff_ne];omega
    simp [hne]
theorem D6 (s:af) (hs:s.length<1000000):ar cfg 119 [.str s,.str [32]] []=some (GH s, []):=by
 have h:ar cfg 162 [.str s,.str [32]] []=some (GH s, []):=by
  have hi:s.length<4294967281:=by omega
  refine ab Ti O3 ?_;have hx:=index_one 32 s;rw [oI] at hx;unfold GH;cases hc:eP s with
  | none=>rw [hc] at hx;simp (maxSteps:=9^9) (disch:=omega) [-List.map_replicate,-List.map_set,-List.getD_eq_getElem?_getD,-getElem?_pos,-getElem?_neg,om,IY,Ce,hi,hx]
  | some p=>
   obtain ⟨a,b⟩:=p;rw [hc] at hx;simp only at hx;obtain ⟨h1,_⟩:=fI hc;have ht:s.take a.length=a:=by rw [h1];exact List.take_left' rfl
   have hl:s.length=a.length+1+b.length:=by rw [h1];simp;omega
   have hd:(s.take s.length).drop (a.length+1)=b:=by rw [List.take_length,h1,List.drop_append,List.drop_of_length_le (by omega)];simp
   rw [hl] at hd hi;clear h1 hc;simp (maxSteps:=9^9) (disch:=omega) [-List.map_replicate,-List.map_set,-List.getD_eq_getElem?_getD,-getElem?_pos,-getElem?_neg,om,IY,Ce,hi,hx,ht,hd,hl]
 refine ab Tj O4 ?_;unfold GH at h⊢;cases hc:eP s with
 | none=>rw [hc] at h;simp (maxSteps:=9^9) (disch:=omega) [-List.map_replicate,-List.map_set,-List.getD_eq_getElem?_getD,-getElem?_pos,-getElem?_neg,om,IZ,h]
 | some p=>rw [hc] at h;simp (maxSteps:=9^9) (disch:=omega) [-List.map_replicate,-List.map_set,-List.getD_eq_getElem?_getD,-getElem?_pos,-getElem?_neg,om,IZ,h]
theorem qW (s:af) (hs:s.length<1000000):ar cfg 159 [.str s,.str [10]] []=some (.bool (decide (s.getLast?=some 10)), []):=by
 refine ab Tk O5 ?_;rcases List.eq_nil_or_concat s with rfl | ⟨u,x,rfl⟩
 ·simp (maxSteps:=9^9) (disch:=omega) [-List.map_replicate,-List.map_set,-List.getD_eq_getElem?_getD,-getElem?_pos,-getElem?_neg,om,I0]
 ·have hl:(u++ [x]).length=u.length+1:=by simp
  have hd:((u++ [x]).take (u.length+1)).drop u.length= [x]:=by rw [List.take_of_length_le (by simp),List.drop_left' rfl]
  have hd2:(u++ [x]).drop u.length= [x]:=List.drop_left' rfl;have hg:decide ((u++ [x]).getLast?=some 10)=(x==10):=by simp;rfl
  have e1:((u.length:Int)+1-1).toNat=u.length:=by omega
  rw [List.concat_eq_append] at*
  rw [hg];generalize u++ [x]=s at*
  simp (maxSteps:=9^9) (disch:=omega) [-List.map_replicate,-List.map_set,-List.getD_eq_getElem?_getD,-getElem?_pos,-getElem?_neg,om,I0,hl,hd,hd2,e1]
theorem I1 (s:af) (hs:s.length<1000000):ar cfg 116 [.str s,.str [10]] []=some (.bool (decide (s.getLast?=some 10)), []):=by refine ab Tl O6 ?_;simp (maxSteps:=9^9) (disch:=omega) [-List.map_replicate,-List.map_set,-List.getD_eq_getElem?_getD,-getElem?_pos,-getElem?_neg,om,MG,qW s hs]
theorem GI (u:af) (hs:u.length<900000):ar cfg 118 [.str (u++ [10]),.str [10]] []=some (.str u, []):=by
 have h:ar cfg 161 [.str (u++ [10]),.str [10]] []=some (.str u, []):=by
  refine ab Tm O7 ?_;have h1:=qW (u++ [10]) (by simp;omega);rw [show decide ((u++ [(10:UInt8)]).getLast?=some 10)=true by simp] at h1;have hl:(u++ [(10:UInt8)]).length=u.length+1:=by simp
  have ht:(u++ [(10:UInt8)]).take u.length=u:=List.take_left' rfl;generalize u++ [(10:UInt8)]=s at*
  simp (maxSteps:=9^9) (disch:=omega) [-List.map_replicate,-List.map_set,-List.getD_eq_getElem?_getD,-getElem?_pos,-getElem?_neg,om,MH,h1,hl,ht]
 refine ab Tn O8 ?_;simp (maxSteps:=9^9) (disch:=omega) [-List.map_replicate,-List.map_set,-List.getD_eq_getElem?_getD,-getElem?_pos,-getElem?_neg,om,MI,h]
theorem yn {c:UInt8}: ∀{p:List UInt8} (r:List UInt8),c∉p→Lib.indexByte (p++c::r) c=(p.length:Int)
 | [],r,_=>by simp [Lib.indexByte]
 | x::p,r,h=>by
  simp only [List.mem_cons,not_or] at h;have ih:=yn r h.2;have hx:(x==c)=false:=by simpa using Ne.symm h.1
  have hne:(((p.length:Int))== -1)=false:=by rw [beq_eq_false_iff_ne];omega
  simp only [List.cons_append,Lib.indexByte,hx,Bool.false_eq_true,if_false,ih,hne,List.length_cons];omega
theorem wa {c:UInt8}: ∀{r:List UInt8},2≤(splitB c r).length→ ∃p q,r=p++c::q∧c∉p
 | [],h=>by simp [splitB] at h
 | x::r,h=>by
  by_cases hx:x=c
  ·exact ⟨[],r,by simp [hx],by simp⟩
  ·have h2:2≤(splitB c r).length:=by
    simp only [splitB,if_neg hx] at h;split at h
    ·rename_i e;rw [e];simpa using h
    ·simp at h
   obtain ⟨p,q,h3,h4⟩:=wa h2;exact ⟨x::p,q,by rw [h3];rfl,by simp [Ne.symm hx,h4]⟩
theorem D7 {c:UInt8} {r:List UInt8} (h:(splitB c r).length=1):splitB c r= [r]:=by apply ya;intro hm;obtain ⟨p,q,rfl⟩:=List.append_of_mem hm;rw [iB] at h;simp at h
theorem Cf (P:List (List UInt8)) (k:Nat) (x:List UInt8):(P.map AV.str++List.replicate (k+1) (AV.str [])).set P.length (.str x)=(P++ [x]).map AV.str++List.replicate k (AV.str []):=by rw [List.replicate_succ,List.set_append_right _ _ (by simp)];simp
theorem GJ (s:List UInt8) (c:UInt8) (hs:s.length<100000000):ar cfg 117 [.str s,.str [c]] []=some (.ah none 1 ((splitB c s).map AV.str), []):=by
 have h1:ar cfg 160 [.str s,.str [c],.int .i64 0,.int .i64 (-1)] []=some (.ah none 1 ((splitB c s).map AV.str), []):=by
  refine ab To O9 ?_;have hc:=GG s c;have hN:=iB c s;have hle:s.count c≤s.length:=List.count_le_length;generalize s.count c=N at*
  have hmin:((N:Int)+1≤(s.length:Int)+1):=by omega
  simp (maxSteps:=9^9) (disch:=omega) [-List.map_replicate,-List.map_set,-List.getD_eq_getElem?_getD,-getElem?_pos,-getElem?_neg,om,MJ,hc]
  refine Wp.aA (fun (a:List (List UInt8)×List UInt8)=>N-a.1.length) (fun a=> [some (.str a.2),some (.str [c]),some (.int .i64 0),some (.int .i64 N),none,some (.ay 0 (N+1)),some (.int .i64 a.1.length),none,none,none,none,none,none,none,none,none,none,none,none])
   (fun a=> [.sl ⟨false,some 9,none⟩ 1 (a.1.map AV.str++List.replicate (N+1-a.1.length) (AV.str []))])
   (fun a=>a.1.length≤N∧splitB c s=a.1++splitB c a.2∧a.2.length≤s.length) ?_ ([],s) ⟨by simp,rfl,Nat.le_refl _⟩ (by simp) (by simp)
  rintro ⟨P,r⟩ ⟨hP,hsp,hrl⟩;simp only at hP hsp hrl⊢
  have hr:(splitB c r).length=N+1-P.length:=by have:=congrArg List.length hsp;rw [List.length_append] at this;omega
  by_cases hlt:P.length<N
  ·obtain ⟨p,q,rfl,hp⟩:=wa (by rw [hr];omega);have hi:=GF (p++c::q) c (by omega);rw [yn q hp] at hi;rw [vX q hp] at hsp;have hk:N+1-P.length=(N-P.length)+1:=by omega
   have hlen:(P.map AV.str++List.replicate (N+1-P.length) (AV.str [])).length=N+1:=by simp;omega
   have hget:(P.map AV.str++List.replicate (N+1-P.length) (AV.str []))[P.length]?=some (.str []):=by rw [List.getElem?_append_right (by simp),List.getElem?_replicate,if_pos (by simp;omega)]
   have hset:=Cf P (N-P.length) p;rw [←hk] at hset;have ht:(p++c::q).take p.length=p:=List.take_left' rfl
   have hd:((p++c::q).take (p++c::q).length).drop (p.length+1)=q:=by rw [List.take_length,List.drop_append,List.drop_of_length_le (by omega)];simp
   have hl:(p++c::q).length=p.length+1+q.length:=by simp;omega
   have hp2:p.length+1≤s.length:=by omega
   generalize P.map AV.str++List.replicate (N+1-P.length) (AV.str [])=L at*
   generalize hR:p++c::q=R at*
   rw [hl] at hd;simp (maxSteps:=9^9) (disch:=omega) [-List.map_replicate,-List.map_set,-List.getD_eq_getElem?_getD,-getElem?_pos,-getElem?_neg,om,hi,hlen,hget,hset,ht,hd,hl];refine ⟨P++ [p],q,⟨by simp;omega,by rw [hsp];simp,by omega⟩,by simp;omega,⟨rfl,by simp⟩,?_⟩;have e:N+1-(P++ [p]).length=N-P.length:=by simp
   rw [e];simp
  ·obtain rfl:P.length=N:=by omega
   have h1:=D7 (c:=c) (r:=r) (by rw [hr];omega);rw [h1] at hsp;have hset:=Cf P 0 r;have e:P.length+1-P.length=0+1:=by omega
   rw [e,hsp];have hlen:(P.map AV.str++List.replicate (0+1) (AV.str [])).length=P.length+1:=by simp
   have hget:(P.map AV.str++List.replicate (0+1) (AV.str []))[P.length]?=some (.str []):=by rw [List.getElem?_append_right (by simp),List.getElem?_replicate,if_pos (by simp)]
   generalize P.map AV.str++List.replicate (0+1) (AV.str [])=L at*
   rw [List.replicate_zero,List.append_nil] at hset;simp (maxSteps:=9^9) (disch:=omega) [-List.map_replicate,-List.map_set,-List.getD_eq_getElem?_getD,-getElem?_pos,-getElem?_neg,om,hlen,hget,hset]
   try exact List.take_of_length_le (by simp)
 refine ab Tp Pa ?_;simp (config:={maxSteps:=1000000}) (disch:=omega) [-List.map_replicate,-List.map_set,-List.getD_eq_getElem?_getD,-getElem?_pos,-getElem?_neg,wrap_i64,ny,jD,jE,iv,MK,h1]
theorem nY (s:af) (hs:s.length<190000): ∃(t:af) (q:Bool),ar cfg 121 [.str s] []=some (.aT [.str t,.bool q], [])∧aZ s=(if q=true then some t else none):=by
 have h:=Pb s hs;rw [GK] at h;cases hu:aZ s with
 | none=>rw [hu] at h;exact ⟨[],false,h,rfl⟩
 | some t=>rw [hu] at h;exact ⟨t,true,h,rfl⟩
def oJ:Option (Nat×af)→AV
 | some (n,t)=> .aT [.agg [.int .i64 n,.str [],.str t],.bool true]
 | none=> .aT [.agg [.int .i64 0,.str [],.str []],.bool false]
theorem Lh (line:af) (hl:line.length<190000):ar cfg 122 [.str line] []=some (oJ (mb aZ line), []):=by
 refine ab Tq Pc ?_;have h1:=D6 line (by omega);unfold GH at h1;unfold mb;cases hc:eP line with
 | none=>rw [hc] at h1;obtain ⟨v,b,h2,_,_⟩:=ur line (by omega);obtain ⟨t,q,h3,_⟩:=nY [] (by simp);simp (maxSteps:=9^9) (disch:=omega) [-List.map_replicate,-List.map_set,-List.getD_eq_getElem?_getD,-getElem?_pos,-getElem?_neg,om,tA,h1,h2,h3,ae,oJ]
 | some p=>
  obtain ⟨num,rest⟩:=p;rw [hc] at h1;obtain ⟨e1,_⟩:=fI hc;have hn:num.length<190000:=by rw [e1] at hl;simp at hl;omega
  have hr:rest.length<190000:=by rw [e1] at hl;simp at hl;omega
  obtain ⟨v,b,h2,e2,hv⟩:=ur num (by omega);obtain ⟨t,q,h3,e3⟩:=nY rest hr;simp only [e2,e3];clear hc e1 hl e3;cases b with
  | true=>simp (maxSteps:=9^9) (disch:=omega) [-List.map_replicate,-List.map_set,-List.getD_eq_getElem?_getD,-getElem?_pos,-getElem?_neg,om,tA,h1,h2,h3,ae,oJ]
  | false=>
   cases q with
   | false=>simp (maxSteps:=9^9) (disch:=omega) [-List.map_replicate,-List.map_set,-List.getD_eq_getElem?_getD,-getElem?_pos,-getElem?_neg,om,tA,h1,h2,h3,ae,oJ]
   | true=>
    have hne:num≠ []:=by rintro rfl;simp [nw] at e2
    match num,hne with
    | c::num',_=>
     by_cases g1:t= []
     ·subst g1;simp (maxSteps:=9^9) (disch:=omega) [-List.map_replicate,-List.map_set,-List.getD_eq_getElem?_getD,-getElem?_pos,-getElem?_neg,om,tA,h1,h2,h3,ae,oJ]
     by_cases g2:c=48
     ·subst g2;simp (maxSteps:=9^9) (disch:=omega) [-List.map_replicate,-List.map_set,-List.getD_eq_getElem?_getD,-getElem?_pos,-getElem?_neg,om,tA,h1,h2,h3,ae,oJ,List.getD_cons_zero,g1,aj]
     have g2': ¬ ((c.toNat:Int)=48):=fun h=>g2 (UInt8.toNat_inj.mp (by show _=48;omega));have w1:(t== [])=false:=by simpa using g1
     have hw:IntKind.i64.wrap (v:Int)=v:=wrap_i64 (by omega) (by omega);by_cases g3:64<v
     ·simp (maxSteps:=9^9) (disch:=omega) [-List.map_replicate,-List.map_set,-List.getD_eq_getElem?_getD,-getElem?_pos,-getElem?_neg,om,tA,h1,h2,h3,ae,oJ,List.getD_cons_zero,g1,g2,g2',g3,aj,w1,hw]
     ·simp (maxSteps:=9^9) (disch:=omega) [-List.map_replicate,-List.map_set,-List.getD_eq_getElem?_getD,-getElem?_pos,-getElem?_neg,om,tA,h1,h2,h3,ae,oJ,List.getD_cons_zero,g1,g2,g2',g3,aj,w1,hw]
theorem Fp (a b:Cell):ar cfg 44 [iC a,iC b] []=some (.int .i64 (js a b), []):=by
 refine ab V6 Ts ?_;have c1:=tP a.1 b.1;have c2:=tP a.2 b.2;have c3:=CL none (iU a.1 b.1) (iU a.2 b.2);have e:js a b=if iU a.1 b.1=0 then iU a.2 b.2 else iU a.1 b.1:=rfl;rw [e];unfold iC;generalize (if iU a.1 b.1=0 then iU a.2 b.2 else iU a.1 b.1)=r at*
 generalize iU a.1 b.1=r1 at*
 generalize iU a.2 b.2=r2 at*
 simp (maxSteps:=9^9) (disch:=omega) [-List.map_replicate,-List.map_set,-List.getD_eq_getElem?_getD,-getElem?_pos,-getElem?_neg,om,Tt,c1,c2,c3]
theorem Li (r:Cell×af) (x:Cell):ar cfg 115 [kr r,iC x] []=some (.int .i64 (js r.1 x), []):=by
 refine ab Tu Pd ?_;have c1:=Fp r.1 x;unfold kr;unfold iC at*
 simp (maxSteps:=9^9) (disch:=omega) [-List.map_replicate,-List.map_set,-List.getD_eq_getElem?_getD,-getElem?_pos,-getElem?_neg,om,ML,c1]
theorem zD {l:List (Cell×af)} (h:jr (l.map Prod.fst)): ∀(i j:Nat) (a b:Cell×af),i<j→l[i]?=some a→l[j]?=some b→dQ a.1 b.1=true:=by
 induction l with
 | nil=>intro i j a b _ h1;cases h1
 | cons x r ih=>
  intro i j a b hij h1 h2;cases i with
  | zero=>
   cases h1;cases j with
   | zero=>omega
   | succ j=>exact h.1 b.1 (List.mem_map.2 ⟨b,List.mem_of_getElem? (by simpa using h2),rfl⟩)
  | succ i=>
   cases j with
   | zero=>omega
   | succ j=>exact ih h.2 i j a b (by omega) (by simpa using h1) (by simpa using h2)
structure Cut (l:List (Cell×af)) (c:Cell) (i j:Nat):Prop where
 lo: ∀k r,k<i→l[k]?=some r→dQ r.1 c=true
 hi: ∀k r,j≤k→l[k]?=some r→ ¬ dQ r.1 c=true
theorem Cut.left {l:List (Cell×af)} {c:Cell} {i j h:Nat} (hc:Cut l c i j) (hi:jr (l.map Prod.fst)) {r:Cell×af} (hr:l[h]?=some r) (hb:dQ r.1 c=true):Cut l c (h+1) j:=⟨fun k q hk hq=>by
  by_cases e:k=h
  ·subst e;rw [hr] at hq;cases hq;exact hb
  ·exact eR (zD hi k h q r (by omega) hq hr) hb,hc.hi⟩
theorem Cut.right {l:List (Cell×af)} {c:Cell} {i j h:Nat} (hc:Cut l c i j) (hi:jr (l.map Prod.fst)) {r:Cell×af} (hr:l[h]?=some r) (hb: ¬ dQ r.1 c=true):Cut l c i h:=⟨hc.lo,fun k q hk hq=>by
  by_cases e:k=h
  ·subst e;rw [hr] at hq;cases hq;exact hb
  ·exact fun hq2=>hb (eR (zD hi h k r q (by omega) hr hq) hq2)⟩
theorem GL (nl:Option Bool) (z:Nat) (l:List (Cell×af)) (hz:l≠ []→z=3) (hl:l.length<1000000) (hi:jr (l.map Prod.fst)) (c:Cell):
  ∃i:Nat,ar cfg 114 [.ah nl z (aF l),iC c,.fn 115 [] []] []=some (.aT [.int .i64 i,.bool (aJ l c).isSome], [])∧ ∀t,aJ l c=some t→i<l.length∧ ∃r,l[i]?=some r∧r.2=t:=by
 obtain ⟨i0,hi0,hl0⟩: ∃i0,i0≤l.length∧Cut l c i0 i0:=by
  have: ∀n,n≤l.length→ ∃i0,i0≤l.length∧(∀k r,k<i0→l[k]?=some r→dQ r.1 c=true)∧(i0<l.length→n≤i0∨ ∃r,l[i0]?=some r∧ ¬ dQ r.1 c=true):=by
   intro n
   induction n with
   | zero=>exact fun _=>⟨0,by omega,fun k r hk=>by omega,fun _=> .inl (by omega)⟩
   | succ n ih=>
    intro hn;obtain ⟨i0,h1,h2,h3⟩:=ih (by omega);by_cases hlt:i0<l.length
    ·rcases h3 hlt with h4 | h4
     ·have hr:l[i0]?=some l[i0]:=List.getElem?_eq_getElem hlt;by_cases hb:dQ l[i0].1 c=true
      ·refine ⟨i0+1,by omega,fun k r hk hq=> ?_,fun _=> .inl (by omega)⟩;by_cases e:k=i0
       ·subst e;rw [hr] at hq;cases hq;exact hb
       ·exact h2 k r (by omega) hq
      ·exact ⟨i0,h1,h2,fun _=> .inr ⟨_,hr,hb⟩⟩
     ·exact ⟨i0,h1,h2,fun _=> .inr h4⟩
    ·exact ⟨i0,h1,h2,fun h=>absurd h hlt⟩
  obtain ⟨i0,h1,h2,h3⟩:=this l.length (Nat.le_refl _);refine ⟨i0,h1,h2,fun k r hk hq=> ?_⟩
  have hkl:k<l.length:=by
   rcases Nat.lt_or_ge k l.length with h | h
   ·exact h
   ·rw [List.getElem?_eq_none h] at hq;cases hq
  rcases h3 (by omega) with h4 | ⟨r0,h4,h5⟩
  ·omega
  ·by_cases e:k=i0
   ·subst e;rw [h4] at hq;cases hq;exact h5
   ·exact fun hb=>h5 (eR (zD hi i0 k r0 r (by omega) h4 hq) hb)
 have hat:=Fh l i0 hi hl0.lo hl0.hi;refine ⟨i0,?_,fun t ht=> ?_⟩
 case refine_2=>
  rw [ht] at hat;cases hr:l[i0]? with
  | none=>rw [hr] at hat;cases hat
  | some r=>
   rw [hr] at hat;simp only at hat;split at hat
   ·cases hat;refine ⟨?_,r,rfl,rfl⟩;rcases Nat.lt_or_ge i0 l.length with h | h
    ·exact h
    ·rw [List.getElem?_eq_none h] at hr;cases hr
   ·cases hat
 refine ab Tv Pe ?_;have hE: ∀k (h:k<l.length),(aF l)[k]?=some (.agg [.int .i64 l[k].1.1,.int .i64 l[k].1.2,.str l[k].2]):=fun k h=>get_map _ _ h;have hEl:(aF l).length=l.length:=by simp [aF]
 generalize aF l=E at*
 have hg1:=fun r=>Li r c;unfold kr at hg1;unfold iC at*
 simp (maxSteps:=9^9) (disch:=omega) [-List.map_replicate,-List.map_set,-List.getD_eq_getElem?_getD,-getElem?_pos,-getElem?_neg,om,MM,hEl];refine Wp.aA (fun (a:Nat×Nat)=>a.2-a.1) (fun a=> [some (.ah nl z E),none,some (.fn 115 [] []),some (.ptr 0 0),none,none,some (.int .i64 l.length),some (.int .i64 a.1),some (.int .i64 a.2),none,none,none,none,none]) (fun _=> [.var 28 [.int .i64 c.1,.int .i64 c.2]]) (fun a=>a.1≤i0∧i0≤a.2∧a.2≤l.length) ?_ (0,l.length) ⟨by simp,hi0,by simp⟩ (by simp) rfl;rintro ⟨i,j⟩ ⟨h1,h2,h3⟩;simp only at h1 h2 h3⊢;by_cases hij:i<j
 ·obtain ⟨h,hdef⟩: ∃h,h=(i+j) / 2:=⟨_,rfl⟩;have hh:h<l.length:=by omega
  have hgh:=hE h hh;obtain rfl:=hz (ne_of_lt hh);have hr:l[h]?=some l[h]:=List.getElem?_eq_getElem hh;have hgc:=hg1 l[h];have hlt:=iD l[h].1 c;have hd1:h<i0→dQ l[h].1 c=true:=fun q=>hl0.lo _ _ q hr;have hd2:i0≤h→ ¬ dQ l[h].1 c=true:=fun q=>hl0.hi _ _ q hr;generalize l[h]=r at*
  have w1:IntKind.u64.wrap ((i:Int)+(j:Int))=(i:Int)+(j:Int):=by show ((i:Int)+(j:Int))%18446744073709551616=_;omega
  have w2:IntKind.i64.wrap ((i:Int)+(j:Int))=(i:Int)+(j:Int):=wrap_i64 (by omega) (by omega)
  have w3:((i:Int)+(j:Int)).fdiv (2^min 1 IntKind.u64.bits)=(h:Int):=by show ((i:Int)+(j:Int)).fdiv 2=(h:Int);rw [Int.fdiv_eq_ediv_of_nonneg _ (by omega)];omega
  have w4:IntKind.i64.wrap (h:Int)=(h:Int):=wrap_i64 (by omega) (by omega);have b1:i≤h:=by omega
  have b2:h<j:=by omega
  clear hE hg1 hr hdef;obtain ⟨⟨r1,r2⟩,t⟩:=r;simp only at*
  generalize js (r1,r2) c=cc at*
  by_cases hcc:cc<0
  ·have hb:=hlt.1 hcc;simp (maxSteps:=9^9) (disch:=omega) [-List.map_replicate,-List.map_set,-List.getD_eq_getElem?_getD,-getElem?_pos,-getElem?_neg,om,hij,hgh,hEl,w1,w2,w3,w4,hgc,hcc];refine ⟨h+1,j,⟨?_,by omega,by omega⟩,by omega,by simp⟩;rcases Nat.lt_or_ge h i0 with q | q
   ·omega
   ·exact absurd hb (hd2 q)
  ·simp (maxSteps:=9^9) (disch:=omega) [-List.map_replicate,-List.map_set,-List.getD_eq_getElem?_getD,-getElem?_pos,-getElem?_neg,om,hij,hgh,hEl,w1,w2,w3,w4,hgc,hcc];refine ⟨i,h,⟨by omega,?_,by omega⟩,by omega,by simp⟩;rcases Nat.lt_or_ge h i0 with q | q
   ·exact absurd (hlt.2 (hd1 q)) hcc
   ·exact q
 ·obtain rfl:j=i0:=by omega
  obtain rfl:i=j:=by omega
  by_cases hlt:i<l.length
  ·have hgh:=hE i hlt;obtain rfl:=hz (ne_of_lt hlt);have hr:l[i]?=some l[i]:=List.getElem?_eq_getElem hlt;have hgc:=hg1 l[i];have hz0:=GM l[i].1 c;rw [hr] at hat;generalize l[i]=r at*
   clear hE hg1 hr;obtain ⟨⟨r1,r2⟩,t⟩:=r;simp only at*
   rw [hat];generalize js (r1,r2) c=cc at*
   by_cases hcc:cc=0
   ·rw [if_pos (hz0.1 hcc)];simp (maxSteps:=9^9) (disch:=omega) [-List.map_replicate,-List.map_set,-List.getD_eq_getElem?_getD,-getElem?_pos,-getElem?_neg,om,hlt,hgh,hEl,hgc,hcc]
   ·rw [if_neg (fun q=>hcc (hz0.2 q))];have hcc2:(cc==0)=false:=by simpa using hcc
    simp (maxSteps:=9^9) (disch:=omega) [-List.map_replicate,-List.map_set,-List.getD_eq_getElem?_getD,-getElem?_pos,-getElem?_neg,om,hlt,hgh,hEl,hgc,hcc,hcc2]
  ·rw [List.getElem?_eq_none (by omega)] at hat;rw [hat];simp (maxSteps:=9^9) (disch:=omega) [-List.map_replicate,-List.map_set,-List.getD_eq_getElem?_getD,-getElem?_pos,-getElem?_neg,om,hlt,hEl]
theorem I2 {B:List ad} {k:Nat} {nl:Option Bool} {z:Nat} {l:List (Cell×af)} {lk:Bool} (hB:ad.at B k= .var 102 [.ah nl z (aF l),.bool lk]) (hk:k<B.length) (hs:shut B.length B=true) (hz:l≠ []→z=3) (hl:l.length<1000000) (hi:jr (l.map Prod.fst)) (kd u:Int):
  ar cfg 63 [.ptr k 0,.int .i64 kd,.int .i64 u] B=some (.str ((aJ l (kd,u)).getD []),B.set k (.var 102 [.ah nl z (aF l),.bool (lk || (aJ l (kd,u)).isNone)])):=by
 refine ab V7 Tw ?_;obtain ⟨i,h1,h2⟩:=GL nl z l hz hl hi (kd,u);unfold iC at h1;simp only at h1;have hE: ∀k (h:k<l.length),(aF l)[k]?=some (.agg [.int .i64 l[k].1.1,.int .i64 l[k].1.2,.str l[k].2]):=fun k h=>get_map _ _ h;have hEl:(aF l).length=l.length:=by simp [aF]
 have hpl:=cT l;have hm:=shut_map (Nat.le_refl B.length) hs;have hks:=eE k hs (x:= .var 102 [.ah nl z (aF l),.bool true]) (by simp [shut,aw,AV.under]);have hm2:=shut_map (Nat.le_refl B.length) hks;cases hq:aJ l (kd,u) with
 | none=>
  rw [hq] at h1;generalize aF l=E at*
  have e1:(lk || (none:Option af).isNone)=true:=by simp
  rw [e1];simp (maxSteps:=9^9) (disch:=omega) [-List.map_replicate,-List.map_set,-List.getD_eq_getElem?_getD,-getElem?_pos,-getElem?_neg,om,Pf,hB,hk,h1,hm,hm2,hpl,ae]
 | some t=>
  rw [hq] at h1;obtain ⟨h3,r,h4,h5⟩:=h2 t hq;have hgi:=hE i h3;obtain rfl:=hz (ne_of_lt h3);have hri:l[i]=r:=by rw [List.getElem?_eq_getElem h3] at h4;cases h4;rfl
  rw [hri] at hgi
  have e:B.set k (.var 102 [.ah nl 3 (aF l),.bool (lk || (some t).isNone)])=B:=by
   have e1:(lk || (some t).isNone)=lk:=by simp
   rw [e1,←hB];apply List.ext_getElem?;intro i;by_cases hi:i=k
   ·subst hi;simp [ad.at,hk,List.getD_eq_getElem?_getD]
   ·rw [List.getElem?_set_ne (Ne.symm hi)]
  rw [e];generalize aF l=E at*
  clear h2 hE h4 hri e;subst h5;simp (maxSteps:=9^9) (disch:=omega) [-List.map_replicate,-List.map_set,-List.getD_eq_getElem?_getD,-getElem?_pos,-getElem?_neg,om,Pf,hB,hk,h1,hm,hgi,hpl,ae]
set_option maxHeartbeats 8000000
def I3 (f:Nat×af):AV:= .agg [.int .i64 f.1,.str [],.str f.2]
theorem GN (w:af):oM w [[102,111,110,100,115], [115,101,114,105,101,115], [102,105,108,101], [105,116,101,109]] 0+1=(jV w:Int):=by
 unfold jV;have t1:sc 1= [102,111,110,100,115]:=rfl;have t2:sc 2= [115,101,114,105,101,115]:=rfl;have t3:sc 3= [102,105,108,101]:=rfl;have t4:sc 4= [105,116,101,109]:=rfl;rw [t1,t2,t3,t4];simp only [oM,beq_iff_eq]
 repeat' split
 all_goals rfl
theorem I4 (w:af):jV w≤4:=by
 unfold jV
 repeat' split
 all_goals omega
def gm:List (Nat×af)→List af→List (Nat×af)×Bool
 | acc, []=>(acc,true)
 | acc,l::r=>match mb aZ l with
  | some (n,t)=>(match acc.getLast? with
   | some q=>if n≤q.1 then (acc,false) else gm (acc++ [(n,t)]) r
   | none=>gm (acc++ [(n,t)]) r)
  | none=>(acc,false)
theorem GO {l:af} {n:Nat} {t:af} (h:mb aZ l=some (n,t)):1≤n:=by
 unfold mb at h;split at h
 ·rename_i num rest hc;split at h
  ·rename_i n' t' hp hu;split at h
   ·cases h
   ·rename_i hn;cases h;exact (La hp (fun h0=>hn (.inr (.inl h0))) (by omega)).2
  ·cases h
 ·cases h
theorem yo: ∀(r:List af) (acc:List (Nat×af)),∃m,(gm acc r).1=acc++m
 | [],acc=>⟨[],by simp [gm]⟩
 | l::r,acc=>by
  unfold gm;cases mb aZ l with
  | none=>exact ⟨[],by simp⟩
  | some p=>
   obtain ⟨n,t⟩:=p;obtain ⟨m,hm⟩:=yo r (acc++ [(n,t)]);simp only;cases acc.getLast? with
   | none=>exact ⟨(n,t)::m,by simp only;rw [hm];simp⟩
   | some q=>
    simp only;split
    ·exact ⟨[],by simp⟩
    ·exact ⟨(n,t)::m,by rw [hm];simp⟩
theorem Cg: ∀(r:List af) (acc:List (Nat×af)),lU aZ (match acc.getLast? with | some q=>q.1 | none=>0) r=if (gm acc r).2=true then some ((gm acc r).1.drop acc.length) else none
 | [],acc=>by simp [lU,gm]
 | l::r,acc=>by
  unfold lU gm;cases hf:mb aZ l with
  | none=>simp
  | some p=>
   obtain ⟨n,t⟩:=p;have hp:=GO hf;have ih:=Cg r (acc++ [(n,t)]);rw [List.getLast?_concat] at ih;simp only at ih⊢;obtain ⟨m,hm⟩:=yo r (acc++ [(n,t)])
   have hstep:(lU aZ n r).map ((n,t):: ·)=if (gm (acc++ [(n,t)]) r).2=true then some ((gm (acc++ [(n,t)]) r).1.drop acc.length) else none:=by rw [ih,hm];cases (gm (acc++ [(n,t)]) r).2 <;> simp
   cases hq:acc.getLast? with
   | none=>simp only;rw [if_neg (by omega)];exact hstep
   | some q=>
    simp only;by_cases hn:n≤q.1
    ·rw [if_pos hn,if_pos hn];simp
    ·rw [if_neg hn,if_neg hn];exact hstep
theorem GP (v:af) (hv:v.length<900000) (hl: ∀p∈splitB 10 v.dropLast,p.length<190000):
  ∃(lev:Nat) (mark title:af) (facts:List (Nat×af)) (b:Bool),ar cfg 64 [.str v] []=some (.aT [.agg [.int .i64 0,.int .i64 0,.int .i64 lev,.str mark,.str title,.ah none 3 (facts.map I3)],.bool b], [])∧pB aZ v=(if b=true then some ⟨lev,title,mark,facts⟩ else none)∧(b=true→1≤lev∧lev≤4):=by
 have h1:=I1 v (by omega);unfold pB DZ;by_cases hlf:v.getLast?=some 10
 case neg=>
  rw [if_neg hlf];rw [show decide (v.getLast?=some 10)=false by simpa using hlf] at h1;refine ⟨0, [], [], [],false,ab Ch tB ?_,rfl,by simp⟩;simp (maxSteps:=9^9) (disch:=omega) [-List.map_replicate,-List.map_set,-List.getD_eq_getElem?_getD,-getElem?_pos,-getElem?_neg,om,tN,h1,ae]
 rw [if_pos hlf];rw [show decide (v.getLast?=some 10)=true by simpa using hlf] at h1
 obtain ⟨u,rfl⟩: ∃u,v=u++ [10]:=by
  rcases List.eq_nil_or_concat v with rfl | ⟨u,x,rfl⟩
  ·simp at hlf
  ·rw [List.concat_eq_append] at hlf⊢;simp at hlf;exact ⟨u,by rw [hlf]⟩
 rw [List.dropLast_concat] at hl⊢;have hul:u.length<900000:=by simp at hv;omega
 have h2:=GI u hul;have h3:=GJ u 10 (by omega)
 have hPl:(splitB 10 u).length<1000000:=by have h:=iB 10 u;have h2:u.count 10≤u.length:=List.count_le_length;omega
 generalize splitB 10 u=P at*
 generalize u++ [10]=v at*
 clear hlf hv hul
 match P,hl,hPl with
 | [],_,_=>refine ⟨0, [], [], [],false,ab Ch tB ?_,rfl,by simp⟩;simp (maxSteps:=9^9) (disch:=omega) [-List.map_replicate,-List.map_set,-List.getD_eq_getElem?_getD,-getElem?_pos,-getElem?_neg,om,tN,h1,h2,h3,ae]
 | [a],_,_=>refine ⟨0, [], [], [],false,ab Ch tB ?_,rfl,by simp⟩;simp (maxSteps:=9^9) (disch:=omega) [-List.map_replicate,-List.map_set,-List.getD_eq_getElem?_getD,-getElem?_pos,-getElem?_neg,om,tN,h1,h2,h3,ae]
 | a::b::r,hl,hPl=>
  have ha:=hl a (by simp);have hb:=hl b (by simp);have c1:=D6 a (by omega);have c2:=D6 b (by omega);unfold GH at c1 c2
  have htag: ∀w nl,ar cfg 107 [.ah nl 1 [.str [102,111,110,100,115],.str [115,101,114,105,101,115],.str [102,105,108,101],.str [105,116,101,109]],.str w] []=some (.int .i64 ((jV w:Int)-1), []):=fun w nl=>by
   have h:=kx nl 1 [[102,111,110,100,115], [115,101,114,105,101,115], [102,105,108,101], [105,116,101,109]] (fun _=>rfl) (by simp) w;have e:=GN w;rw [show oM w [[102,111,110,100,115], [115,101,114,105,101,115], [102,105,108,101], [105,116,101,109]] 0=(jV w:Int)-1 by omega] at h;exact h
  have ht4:=I4;cases hca:eP a with
  | none=>
   obtain ⟨t0,q0,u0,_⟩:=nY [] (by simp);have hd:yb aZ a=none:=by unfold yb;rw [hca]
   refine ⟨jV a, [], [], [],false,ab Ch tB ?_,by simp [pA,hd],by simp⟩;rw [hca] at c1;simp only at c1;have hT:=htag a;have hT4:=ht4 a;clear htag ht4 c2 hd;generalize jV a=T at*
   simp (maxSteps:=9^9) (disch:=omega) [-List.map_replicate,-List.map_set,-List.getD_eq_getElem?_getD,-getElem?_pos,-getElem?_neg,om,tN,h1,h2,h3,c1,hT,u0,eD,cr,ae]
  | some p=>
   obtain ⟨w,ra⟩:=p;rw [hca] at c1;simp only at c1;obtain ⟨e1,_⟩:=fI hca;have hra:ra.length<190000:=by rw [e1] at ha;simp at ha;omega
   obtain ⟨t,q,u1,u2⟩:=nY ra hra
   have hd:yb aZ a=if q=true∧jV w≠0∧t≠ [] then some (jV w,t) else none:=by
    unfold yb;rw [hca];simp only [u2];cases q with
    | false=>simp
    | true=>
     simp only [if_true];by_cases g1:jV w=0
     ·simp [g1]
     ·by_cases g2:t= []
      ·simp [g2]
      ·simp [g1,g2]
   have hT:=htag w;have hT4:=ht4 w;clear htag ht4 hca e1 u2;generalize jV w=T at*
   by_cases g:q=true∧T≠0∧t≠ []
   case neg=>
    rw [if_neg g] at hd;refine ⟨T, [], [], [],false,ab Ch tB ?_,by simp [pA,hd],by simp⟩;clear c2 hd;cases q with
    | false=>simp (maxSteps:=9^9) (disch:=omega) [-List.map_replicate,-List.map_set,-List.getD_eq_getElem?_getD,-getElem?_pos,-getElem?_neg,om,tN,h1,h2,h3,c1,hT,u1,eD,cr,ae]
    | true=>
     by_cases g1:T=0
     ·subst g1;simp (maxSteps:=9^9) (disch:=omega) [-List.map_replicate,-List.map_set,-List.getD_eq_getElem?_getD,-getElem?_pos,-getElem?_neg,om,tN,h1,h2,h3,c1,hT,u1,eD,cr,ae]
     ·have g2:t= []:=by
       by_cases g2:t= []
       ·exact g2
       ·exact absurd ⟨rfl,g1,g2⟩ g
      subst g2;simp (maxSteps:=9^9) (disch:=omega) [-List.map_replicate,-List.map_set,-List.getD_eq_getElem?_getD,-getElem?_pos,-getElem?_neg,om,tN,h1,h2,h3,c1,hT,u1,g1,eD,cr,ae]
   rw [if_pos g] at hd;obtain ⟨rfl,g1,g2⟩:=g;cases hcb:eP b with
   | none=>
    obtain ⟨t0,q0,u0,_⟩:=nY [] (by simp);have hm:yc aZ b=none:=by unfold yc;rw [hcb]
    rw [hcb] at c2;simp only at c2;refine ⟨T,t0,t, [],false,ab Ch tB ?_,by simp [pA,hd,hm],by simp⟩;clear hd hm hcb;simp (maxSteps:=9^9) (disch:=omega) [-List.map_replicate,-List.map_set,-List.getD_eq_getElem?_getD,-getElem?_pos,-getElem?_neg,om,tN,h1,h2,h3,c1,c2,hT,u1,u0,g1,g2,eD,cr,ae]
   | some p=>
    obtain ⟨w2,rb⟩:=p;rw [hcb] at c2;simp only at c2;obtain ⟨e1,_⟩:=fI hcb;have hrb:rb.length<190000:=by rw [e1] at hb;simp at hb;omega
    obtain ⟨m,q2,v1,v2⟩:=nY rb hrb
    have hm:yc aZ b=if q2=true∧w2=qS then some m else none:=by
     unfold yc;rw [hcb];simp only [v2];by_cases g3:w2=qS
     ·cases q2 <;> simp [g3]
     ·simp [g3]
    clear hcb e1 v2;by_cases g:q2=true∧w2=qS
    case neg=>
     rw [if_neg g] at hm;refine ⟨T,m,t, [],false,ab Ch tB ?_,by simp [pA,hd,hm],by simp⟩;clear hd hm;cases q2 with
     | false=>simp (maxSteps:=9^9) (disch:=omega) [-List.map_replicate,-List.map_set,-List.getD_eq_getElem?_getD,-getElem?_pos,-getElem?_neg,om,tN,h1,h2,h3,c1,c2,hT,u1,v1,g1,g2,eD,cr,ae]
     | true=>
      have g4: ¬ w2= [109,97,114,107]:=fun h=>g ⟨rfl,h⟩;have g5:(w2 != [109,97,114,107])=true:=by simpa using g4
      simp (maxSteps:=9^9) (disch:=omega) [-List.map_replicate,-List.map_set,-List.getD_eq_getElem?_getD,-getElem?_pos,-getElem?_neg,om,tN,h1,h2,h3,c1,c2,hT,u1,v1,g1,g2,g4,g5,eD,cr,ae]
    rw [if_pos g] at hm;obtain ⟨rfl,rfl⟩:=g;have hfr: ∀p∈r,p.length<190000:=fun p hp=>hl p (by simp [hp]);have hls:(ao (a::b::r)).length=r.length+2:=by simp
    have hdr:(ao (a::b::r)).drop 2=ao r:=rfl;have hT1:1≤T:=by omega
    suffices H: ∃(facts:List (Nat×af)) (ok:Bool),ar cfg 64 [.str v] []=some (.aT [.agg [.int .i64 0,.int .i64 0,.int .i64 T,.str m,.str t,.ah none 3 (facts.map I3)],.bool ok], [])∧lU aZ 0 r=if ok=true then some facts else none by
     obtain ⟨facts,ok,k1,k2⟩:=H;refine ⟨T,m,t,facts,ok,k1,?_,fun _=>⟨hT1,hT4⟩⟩;simp only [pA,hd,hm,k2];cases ok <;> rfl
    clear hd hm;have hbr:r.length<1000000:=by simp at hPl;omega
    rw [show qS= [109,97,114,107] from rfl] at c2;clear ha hb hl hra hrb;have hgi:=Cg r [];refine ⟨(gm [] r).1,(gm [] r).2,ab Ch tB ?_,by simpa using hgi⟩;clear hgi;have hE: ∀k (h:k<r.length),(ao r)[k]?=some (.str r[k]):=fun k h=>by simp [ao,h]
    have hrl:=iT r;generalize hG:gm [] r=G at*
    simp (maxSteps:=9^9) (disch:=omega) [-List.map_replicate,-List.map_set,-List.getD_eq_getElem?_getD,-getElem?_pos,-getElem?_neg,om,tN,h1,h2,h3,c1,c2,hT,u1,v1,g1,g2,hls,hdr,eD,cr,ae];clear h1 h2 h3 c1 c2 hT u1 v1 hls hdr
    refine Wp.aA (fun (a:Nat×List (Nat×af))=>r.length-a.1) (fun a=> [none,some (.ptr 0 0),none,some (.ptr 2 0),none,none,none,none,none,none,none,none,none,none,none,none,none,none,none,none,none,none,none,none,none,none,none,none,none,some (.ah none 1 (ao r)),some (.int .i64 r.length),some (.int .i64 a.1),none,none,none,none,none,none]) (fun a=> [.var 73 [.int .i64 0,.int .i64 0,.int .i64 0,.str [],.str [],.ay 1 0],.sl ⟨false,some 79,none⟩ 3 [],.var 73 [.int .i64 0,.int .i64 0,.int .i64 T,.str m,.str t,.ay 3 a.2.length],.sl ⟨false,some 79,none⟩ 3 (a.2.map I3),.sl ⟨false,some 9,none⟩ 1 [.str [102,111,110,100,115],.str [115,101,114,105,101,115],.str [102,105,108,101],.str [105,116,101,109]]])
     (fun a=>G=gm a.2 (r.drop a.1)∧a.1≤r.length∧a.2.length≤a.1) ?_ (0, []) ⟨by simpa using hG.symm,by simp,by simp⟩ (by simp [ao];exact List.take_of_length_le (by simp)) (by simp)
    rintro ⟨i,acc⟩ ⟨hi,hil,hal⟩;simp only at hi hil hal⊢;rw [hi];clear hi hG;by_cases q1:i<r.length
    ·have hg:=hE i q1;have hfa:=Lh r[i] (hfr _ (List.getElem_mem q1));rw [List.drop_eq_getElem_cons q1];simp only [gm];have hml:(acc.map I3).length=acc.length:=by simp
     generalize r[i]=line at*
     clear hE hfr;cases hf:mb aZ line with
     | none=>rw [hf] at hfa;unfold oJ at hfa;simp only at hfa⊢;simp (maxSteps:=9^9) (disch:=omega) [-List.map_replicate,-List.map_set,-List.getD_eq_getElem?_getD,-getElem?_pos,-getElem?_neg,om,q1,hg,hfa,ae,hml,hrl]
     | some p=>
      obtain ⟨n,x⟩:=p;rw [hf] at hfa;unfold oJ at hfa;simp only at hfa⊢;rcases List.eq_nil_or_concat acc with rfl | ⟨acc',q,rfl⟩
      ·simp only [List.getLast?_nil];simp (maxSteps:=9^9) (disch:=omega) [-List.map_replicate,-List.map_set,-List.getD_eq_getElem?_getD,-getElem?_pos,-getElem?_neg,om,q1,hg,hfa,ae,hrl];exact ⟨i+1, [(n,x)],⟨rfl,by omega,by simp⟩,by omega,by simp,by simp,by simp [I3]⟩
      ·rw [List.concat_eq_append] at*
       rw [List.getLast?_concat];simp only;have hgl:((acc'++ [q]).map I3)[acc'.length]?=some (.agg [.int .i64 q.1,.str [],.str q.2]):=by simp [I3]
       have hl2:(acc'++ [q]).length=acc'.length+1:=by simp
       have e1:((acc'.length:Int)+1-1).toNat=acc'.length:=by omega
       have e2:(0:Int)<(acc'.length:Int)+1:=by omega
       rw [hl2] at hml hal;generalize hac:acc'++ [q]=acc at*
       by_cases q2:n≤q.1
       ·rw [if_pos q2];simp (maxSteps:=9^9) (disch:=omega) [-List.map_replicate,-List.map_set,-List.getD_eq_getElem?_getD,-getElem?_pos,-getElem?_neg,om,q1,hg,hfa,ae,hml,hrl,hl2,hgl,e1,e2,q2]
       ·rw [if_neg q2];simp (maxSteps:=9^9) (disch:=omega) [-List.map_replicate,-List.map_set,-List.getD_eq_getElem?_getD,-getElem?_pos,-getElem?_neg,om,q1,hg,hfa,ae,hml,hrl,hl2,hgl,e1,e2,q2];exact ⟨i+1,acc++ [(n,x)],⟨rfl,by omega,by simp;omega⟩,by omega,by simp,by simp;omega,by simp [I3]⟩
    ·rw [List.drop_eq_nil_of_le (by omega)];simp (maxSteps:=9^9) (disch:=omega) [-List.map_replicate,-List.map_set,-List.getD_eq_getElem?_getD,-getElem?_pos,-getElem?_neg,om,q1,gm,ae,hrl]
def Ci (B:List ad) (k:Nat) (nl:Option Bool) (z:Nat) (l:List (Cell×af)) (lk:Bool):List ad:=B.set k (.var 102 [.ah nl z (aF l),.bool lk])
theorem jZ (B:List ad) (k:Nat) (nl:Option Bool) (z:Nat) (l:List (Cell×af)) (lk:Bool):(Ci B k nl z l lk).length=B.length:=by simp [Ci]
theorem wb {B:List ad} {k:Nat} {nl:Option Bool} {z:Nat} {l:List (Cell×af)} {lk:Bool} (hs:shut B.length B=true):shut B.length (Ci B k nl z l lk)=true:=eE k hs (by simp [shut,aw,AV.under])
structure Fl where
 b:Bool
def Q2 (x y:Bool):Prop:=x=y
theorem I5 {B:List ad} {k:Nat} {nl:Option Bool} {z:Nat} {l:List (Cell×af)} (hk:k<B.length) (hs:shut B.length B=true) (hz:l≠ []→z=3) (hl:l.length<1000000) (hi:jr (l.map Prod.fst)) (hv: ∀u,((aJ l (4,u)).getD []).length≤1000) (s:af) (hsl:s.length≤10000) (lk0:Bool):
  ar cfg 67 [.ptr k 0,.str s] (Ci B k nl z l lk0)=some (.str (aH (fun u=>aJ l (4,u)) s).1,Ci B k nl z l (lk0 || (aH (fun u=>aJ l (4,u)) s).2)):=by
 have hget: ∀(lk:Bool) (a:AV) (out:af) (u:Int),(a= .bS∨a= .ptr B.length 0)→ar cfg 63 [.ptr k 0,.int .i64 4,.int .i64 u] (bk (Ci B k nl z l lk) a out)=some (.str ((aJ l (4,u)).getD []),bk (Ci B k nl z l (lk || (aJ l (4,u)).isNone)) a out):=fun lk a out u ha=>by
  have hbl:=gp (bs:=Ci B k nl z l lk) (by rw [jZ];exact wb hs) (a:=a) (by rw [jZ];exact ha) out
  have h:=I2 (B:=bk (Ci B k nl z l lk) a out) (k:=k) (nl:=nl) (z:=z) (l:=l) (lk:=lk) (by
   unfold bk;rw [ff _ _ (by rw [jZ];exact hk)];unfold Ci;rw [Go.Am.bq _ _ _ hk,if_pos rfl]) (by unfold bk;simp [jZ];omega) hbl.sh hz hl hi 4 u
  rw [h];congr 2;unfold bk;rw [List.set_append_left _ _ (by rw [jZ];exact hk),jZ,jZ];unfold Ci;rw [List.set_set]
 refine ab V8 Tx ?_;have hBn: ∀lk,(Ci B k nl z l lk).length=B.length:=fun lk=>jZ ..
 have hsh: ∀lk,shut (Ci B k nl z l lk).length (Ci B k nl z l lk)=true:=fun lk=>by rw [hBn];exact wb hs
 have hm:=fun lk=>shut_map (Nat.le_refl _) (hsh lk);have hlk0: ∀e,shut B.length (Ci B k nl z l e)=true:=fun e=>wb hs;generalize hlook:(fun u=>aJ l (4,u))=look at*
 have hlk: ∀u,aJ l (4,u)=look u:=fun u=>by rw [←hlook]
 simp only [hlk] at hget hv;clear hlk hlook;generalize hK:Ci B k nl z l=K at*
 generalize hn0:B.length=n0 at*
 obtain ⟨f0,f1,f2,f3,s0,s1,s2,s3,b0,b1,b2,b3,tk⟩:=Nz (hBn lk0);simp (maxSteps:=9^9) (disch:=omega) [-List.map_replicate,-List.map_set,-List.getD_eq_getElem?_getD,-getElem?_pos,-getElem?_neg,om,Ty,hBn,f0,f1,f2,f3,s0,s1,s2,s3,b0,b1,b2,b3,tk];clear f0 f1 f2 f3 s0 s1 s2 s3 b0 b1 b2 b3 tk;refine Wp.aA (fun (a:Nat×af×AV×Fl)=>s.length-a.1) (fun a=> [some (.ptr k 0),some (.str s),none,some (.ptr n0 0),some (.int .i64 a.1),none,none,none,none,none,none,none]) (fun a=>bk (K a.2.2.2.b) a.2.2.1 a.2.1) (fun a=>(aH look s).1=a.2.1++(aH look (s.drop a.1)).1∧Q2 (lk0 || (aH look s).2) (a.2.2.2.b || (aH look (s.drop a.1)).2)∧a.1≤s.length∧a.2.1.length≤1000*a.1∧(a.2.2.1= .bS∨a.2.2.1= .ptr n0 0)) ?_ (0, [],.bS,⟨lk0⟩) ⟨by simp,rfl,by simp,by simp,.inl rfl⟩ (by simp) (by simp [bk,hBn]);rintro ⟨i,out,a,⟨lk⟩⟩ ⟨hi,hi2,hil,hol,ha⟩;simp only at hi hi2 hil hol ha⊢;have hi3:(lk0 || (aH look s).2)=(lk || (aH look (s.drop i)).2):=hi2;rw [hi,hi3];clear hi hi2 hi3;have hbl:=gp (hsh lk) (by rw [hBn];exact ha) out;rw [hBn] at hbl;have hBl: ∀lk a out,(bk (K lk) a out).length=n0+2:=fun lk a out=>by simp [bk,hBn]
 by_cases h1:i<s.length
 ·have hg:s[i]?=some (s.getD i 0):=by simp [List.getD_eq_getElem?_getD,h1]
  have hwb:=pK hbl (s.getD i 0) (by omega)
  have hst:gW (bk (K lk) a out) n0 (n0+1)=fun t=>bk (K lk) (.ptr n0 0) t:=by funext t;have:=iK (bs:=K lk) (a:=a) (s:=out) (t:=t);rw [hBn] at this;exact this
  rw [hst] at hwb;have hd:=Ac s h1;have htl:(s.take s.length).drop i=s.drop i:=by rw [List.take_length]
  have hne:s.drop i≠ []:=by rw [hd];simp
  have hu:=Ae (s.drop i) hne;rw [tv hne] at hu;unfold ot at hu;by_cases hp:(ak (s.drop i)).2=0
  ·have he:aH look (s.drop i)=(s.getD i 0::(aH look (s.drop (i+1))).1,(aH look (s.drop (i+1))).2):=by rw [hd];exact lV look _ _ (by rw [←hd];exact hp)
   rw [he];rw [hp] at hu;generalize (ak (s.drop i)).1=p1 at*
   generalize s.getD i 0=c at*
   have hk2:=hBl lk a out;have hk3:=hBl lk (.ptr n0 0) (out++ [c]);clear hd hp hget hbl hBl hst he;generalize hB2:bk (K lk) a out=B2 at*
   simp (maxSteps:=9^9) (disch:=omega) [-List.map_replicate,-List.map_set,-List.getD_eq_getElem?_getD,-getElem?_pos,-getElem?_neg,om,h1,hg,aj,hu,htl,hwb,hk2,hk3];exact ⟨i+1,out++ [c],.ptr n0 0,⟨lk⟩,⟨by simp,rfl,by omega,by simp;omega,.inr rfl⟩,by omega,by simp,rfl⟩
  ·obtain ⟨q1,q2,q3,q4,q5⟩:=(di (s.drop i)).resolve_left (fun h=>hp (by rw [h]));have he:=kq look (s.drop i) hp;have hw:=hget lk a out (ak (s.drop i)).1 ha;have hnx:=hv (ak (s.drop i)).1;have hbl2:=gp (hsh (lk || (look (ak (s.drop i)).1).isNone)) (by rw [hBn];exact ha) out;rw [hBn] at hbl2;have hws:=gG hbl2 ((look (ak (s.drop i)).1).getD []) (by omega) (by omega)
   have hst2:gW (bk (K (lk || (look (ak (s.drop i)).1).isNone)) a out) n0 (n0+1)=fun t=>bk (K (lk || (look (ak (s.drop i)).1).isNone)) (.ptr n0 0) t:=by funext t;have:=iK (bs:=K (lk || (look (ak (s.drop i)).1).isNone)) (a:=a) (s:=out) (t:=t);rw [hBn] at this;exact this
   rw [hst2] at hws;obtain ⟨n,hn⟩: ∃n:Nat,(ak (s.drop i)).2=n:=⟨(ak (s.drop i)).2.toNat,by omega⟩;rw [hn] at hu he q3 q4;rw [Int.toNat_natCast,List.drop_drop] at he;have q4':i+n≤s.length:=by simp at q4;omega
   have q3':0<n:=by omega
   have he2:aH look (s.drop i)=((look (ak (s.drop i)).1).getD []++(aH look (s.drop (i+n))).1,((look (ak (s.drop i)).1).isNone || (aH look (s.drop (i+n))).2)):=by rw [he];cases look (ak (s.drop i)).1 <;> simp
   rw [he2];generalize (look (ak (s.drop i)).1).getD []=x at*
   generalize (look (ak (s.drop i)).1).isNone=no at*
   generalize (ak (s.drop i)).1=p1 at*
   have hk2:=hBl lk a out;have hk3:=hBl (lk || no) (.ptr n0 0) (out++x);have hk4:=hBl (lk || no) a out;clear hd hp hget hbl hbl2 hBl hst hst2 he he2 hwb q1 q2 q3 q4 q5 hn;generalize hB2:bk (K lk) a out=B2 at*
   generalize hB3:bk (K (lk || no)) a out=B3 at*
   simp (maxSteps:=9^9) (disch:=omega) [-List.map_replicate,-List.map_set,-List.getD_eq_getElem?_getD,-getElem?_pos,-getElem?_neg,om,h1,hu,htl,hw,hws,hk2,hk3,hk4,q3'];exact ⟨i+n,out++x,.ptr n0 0,⟨lk || no⟩,⟨by simp,by simp [Q2,Bool.or_assoc],by omega,by simp;omega,.inr rfl⟩,by omega,by simp,rfl⟩
 ·rw [List.drop_eq_nil_of_le (by omega),jW,List.append_nil,Bool.or_false];have hfin:(bk (K lk) a out).take n0=K lk:=by unfold bk;rw [←hBn lk];exact List.take_left' rfl
  by_cases h0:out= []
  ·subst h0;have hst:=sC hbl;have hfs:((bk (K lk) a []).set (n0+1) (.sl ⟨false,none,none⟩ 1 [])).take n0=K lk:=by unfold bk;rw [←hBn lk,cK];exact List.take_left' rfl
   have hk2:=hBl lk a [];have hmm:=hm lk;rw [hBn] at hmm;generalize bk (K lk) a []=B2 at*
   clear hget hsh hm hlk0 hBl;simp (maxSteps:=9^9) (disch:=omega) [-List.map_replicate,-List.map_set,-List.getD_eq_getElem?_getD,-getElem?_pos,-getElem?_neg,om,h1,hst,hfs,hmm,hk2,hBn]
  ·have hst:=oO hbl (by omega) h0;have hfs:((bk (K lk) a out).set (n0+1) (.sl ⟨false,none,none⟩ 1 (out.map aj))).take n0=K lk:=by unfold bk;rw [←hBn lk,cK];exact List.take_left' rfl
   have hk2:=hBl lk a out;have hmm:=hm lk;rw [hBn] at hmm;generalize bk (K lk) a out=B2 at*
   clear hget hsh hm hlk0 hBl;simp (maxSteps:=9^9) (disch:=omega) [-List.map_replicate,-List.map_set,-List.getD_eq_getElem?_getD,-getElem?_pos,-getElem?_neg,om,h1,hst,hfs,hmm,hk2,hBn]
end Go.Proofs.YtfnkchadeaedlaaGreatDoor
