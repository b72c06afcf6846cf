/-
 depend.find, depend.word. depend.text: the text of a unit. depend.value, depend.Value: the value of a cell. The map of cells (a set): keys of two numbers. A range over the map of cells: where each birth is found, and what sorting the reads gives. depend.Reads: the reads of the section of a unit. Strings at one byte: Index, Cut at a blank, HasSuffix and TrimSuffix at a line feed, Split at a byte. depend.fact: the fact of a line. depend.compare, the search among reads, known.get. depend.sheet: what the text of a unit says. known.expand: a text with the citations of reads.
-/
import Derived.Test.YtfnkchadeaedlaaGreatDoorAdM
import Derived.Test.YtfnkchadeaedlaaGreatDoorEscM
import Derived.Test.YtfnkchadeaedlaaGreatDoorIrs
import Derived.Test.YtfnkchadeaedlaaGreatDoorStrM
import Derived.Test.YtfnkchadeaedlaaGreatDoorCatM
import Derived.Lib.Index
set_option linter.all false
namespace Go.Proofs.YtfnkchadeaedlaaGreatDoor
open Go.Am
set_option maxRecDepth 10000
set_option maxHeartbeats 4000000
theorem ansFindD1 (s:Sh) (u:Int) (B:List Box) (hB:shut B.length B=true) (hu:Box.at B 1= .var 3 [.int .i64 u]):ansF cfg 176 [shA s,.ptr 1 0] B=some (.bool (s.unit==u),B):=by
 refine ans_of_wp fn176 low176 ?_
 have hm:=shut_map (Nat.le_refl _) hB
 have h1:1<B.length:=by
  rcases Nat.lt_or_ge 1 B.length with h | h
  ·exact h
  ·have:Box.at B 1= .dead:=by simp [Box.at,List.getD_eq_getElem?_getD,List.getElem?_eq_none h]
   rw [this] at hu;cases hu
 have a1: ∀l,Box.at (B++l) 1= .var 3 [.int .i64 u]:=fun l=>by rw [at_app_l _ _ h1,hu]
 unfold shA
 simp (maxSteps:=9^9) (disch:=omega) [-List.map_replicate,-List.map_set,-List.getD_eq_getElem?_getD,-getElem?_pos,-getElem?_neg,om,ir176,a1,hm]
 try exact List.take_left' (by simp)
theorem ansFindD (c:Ct) (hc:c.ok) (u:Int):ansF cfg 134 [ctA c,.int .i64 u] []=some (.int .i64 (numOpt (idxU c.shs u)), []):=by
 refine ans_of_wp fn134 low134 ?_
 have h:=ansIdxSh c.sn c.sz c.shs hc.sz hc.sl 176 ⟨rfl,rfl,rfl,rfl⟩ 1 [.var 26 (ctC c),.var 3 [.int .i64 u]] u (fun s=>ansFindD1 s u _ (by simp [shut,underAll,AV.under,ctC]) rfl) (by simp) (by simp [shut,underAll,AV.under,ctC])
 unfold ctA ctC at*
 generalize strA c.langs=L1 at*
 generalize c.labs.map lbA=L2 at*
 generalize c.shs.map shA=L3 at*
 simp (maxSteps:=9^9) (disch:=omega) [-List.map_replicate,-List.map_set,-List.getD_eq_getElem?_getD,-getElem?_pos,-getElem?_neg,om,ir134,h]
theorem tags_fields:Lib.fields [102,111,110,100,115,32,115,101,114,105,101,115,32,102,105,108,101,32,105,116,101,109]= [[102,111,110,100,115], [115,101,114,105,101,115], [102,105,108,101], [105,116,101,109]]:=by decide+kernel
theorem ansWord (lev:Int) (h1:1≤lev) (h4:lev≤4):ansF cfg 66 [.int .i64 lev] []=some (.str (tagS lev), []):=by
 refine ans_of_wp fn66 low66 ?_
 have h:lev=1∨lev=2∨lev=3∨lev=4:=by omega
 rcases h with rfl | rfl | rfl | rfl
 ·simp (maxSteps:=9^9) (disch:=omega) [-List.map_replicate,-List.map_set,-List.getD_eq_getElem?_getD,-getElem?_pos,-getElem?_neg,om,ir66,fieldsG,tags_fields,tagS]
 ·simp (maxSteps:=9^9) (disch:=omega) [-List.map_replicate,-List.map_set,-List.getD_eq_getElem?_getD,-getElem?_pos,-getElem?_neg,om,ir66,fieldsG,tags_fields,tagS]
 ·simp (maxSteps:=9^9) (disch:=omega) [-List.map_replicate,-List.map_set,-List.getD_eq_getElem?_getD,-getElem?_pos,-getElem?_neg,om,ir66,fieldsG,tags_fields,tagS]
 ·simp (maxSteps:=9^9) (disch:=omega) [-List.map_replicate,-List.map_set,-List.getD_eq_getElem?_getD,-getElem?_pos,-getElem?_neg,om,ir66,fieldsG,tags_fields,tagS]
theorem bldBs_bld2 {bs l:List Box} (hs:shut bs.length bs=true) (hl: ∀m,shut m l=true) {a:AV} (ha:a= .nilp∨a= .ptr bs.length 0) (s:Str):Bld (bldBs bs a s++l) bs.length (bs.length+1) a s:=by
 unfold bldBs
 refine ⟨?_,?_,by omega,ha,by simp,by simp,?_⟩
 ·rw [List.append_assoc,at_app_r0];rfl
 ·rw [List.append_assoc,at_app_r];rfl
 ·rw [shut_app,shut_app,shut_le (by simp) hs,hl]
  rcases ha with rfl | rfl <;> simp [shut,underAll,AV.under]
theorem bldBs_set2 {bs l:List Box} {a:AV} {s t:Str}:bldSet (bldBs bs a s++l) bs.length (bs.length+1) t=bldBs bs (.ptr bs.length 0) t++l:=by
 unfold bldSet bldBs
 rw [List.append_assoc,set_app_r0,set_app_r,List.append_assoc];rfl
theorem ansText (c:Ct) (hc:c.ok) (u:Int) (lang:Str) (hr:rightB c lang=true):ansF cfg 82 [ctA c,.int .i64 u,.str lang] []=some (.str (match sheetU c u with
  | some s=>txtI Lib.itoa esc (tagS s.level) s.title s.mark (chooseP (preferP c.langs lang) s.facts)
  | none=> []), []):=by
 have h1:=ansFindD c hc u
 obtain ⟨nl,z,h2,h2z⟩:=ansChoose c hc u lang
 have hch:chosenP c u lang=chooseP (preferP c.langs lang) (factsU c u):=by unfold chosenP;rw [if_pos hr]
 rw [hch] at h2 h2z
 have hk:chkC c=0:=by unfold rightB at hr;simp at hr;exact hr.1
 have hok:=chkC_ok hk
 refine ans_of_wp fn82 low82 ?_
 cases hx:idxU c.shs u with
 | none=>
  have hsU:sheetU c u=none:=by unfold sheetU;rw [hx]
  rw [hx] at h1
  simp only [hsU]
  unfold ctA ctC at*
  generalize strA c.langs=L1 at*
  generalize c.labs.map lbA=L2 at*
  generalize c.shs.map shA=L3 at*
  simp (maxSteps:=9^9) (disch:=omega) [-List.map_replicate,-List.map_set,-List.getD_eq_getElem?_getD,-getElem?_pos,-getElem?_neg,om,ir82,h1,numOpt]
 | some i=>
  rw [hx] at h1
  have hi:=idxU_lt hx
  have hgo:c.shs[i]?=some c.shs[i]:=List.getElem?_eq_getElem hi
  have hsU:sheetU c u=some c.shs[i]:=by unfold sheetU;rw [hx];exact hgo
  have hfU:factsU c u=c.shs[i].facts:=by unfold factsU;rw [hsU]
  rw [hfU] at h2 h2z
  have hsz:=hc.sz (ne_of_lt hi)
  have hg:(c.shs.map shA)[i]?=some (.agg [.int .i64 c.shs[i].unit,.int .i64 c.shs[i].par,.int .i64 c.shs[i].level,.str c.shs[i].mark,.str c.shs[i].title,.lst c.shs[i].fn c.shs[i].fz (c.shs[i].facts.map fcA)]):=get_map _ _ hi
  have hEl:(c.shs.map shA).length=c.shs.length:=by simp
  have hso:=hok.shs _ (List.getElem_mem hi)
  have hil:i<1000000:=by have:=hc.sl;omega
  simp only [hsU]
  have hw:=ansWord c.shs[i].level hso.l1 hso.l2
  have ht:=ansEscP c.shs[i].title (by have:=hso.tlen;omega)
  have hm:=ansEscP c.shs[i].mark (by have:=hso.mark;omega)
  have htl:=esc_length c.shs[i].title
  have hml:=esc_length c.shs[i].mark
  have htl2:=hso.tlen
  have hml2:=hso.mark
  have htg:(tagS c.shs[i].level).length≤6:=by
   unfold tagS
   repeat' split
   all_goals simp
  unfold ctA ctC at*
  generalize c.shs[i]=x at*
  generalize strA c.langs=L1 at*
  generalize c.labs.map lbA=L2 at*
  generalize c.shs.map shA=L3 at*
  rw [hsz] at*
  obtain ⟨Y1,hY1⟩: ∃Y,Y=tagS x.level++32::(esc x.title++ [10]):=⟨_,rfl⟩
  obtain ⟨Y2,hY2⟩: ∃Y,Y=Y1++([109,97,114,107,32]++(esc x.mark++ [10])):=⟨_,rfl⟩
  have hY1l:Y1.length≤264:=by rw [hY1];simp;omega
  have hbs:shut 2 [.var 26 [.lst c.ln c.lz L1,.lst c.bn c.bz L2,.lst c.sn 6 L3],.var 73 [.int .i64 x.unit,.int .i64 x.par,.int .i64 x.level,.str x.mark,.str x.title,.lst x.fn x.fz (x.facts.map fcA)]]=true:=by simp [shut,underAll,AV.under]
  have hw1:=ansWriteStr (bldBs_bld (bs:= [.var 26 [.lst c.ln c.lz L1,.lst c.bn c.bz L2,.lst c.sn 6 L3],.var 73 [.int .i64 x.unit,.int .i64 x.par,.int .i64 x.level,.str x.mark,.str x.title,.lst x.fn x.fz (x.facts.map fcA)]]) hbs (a:= .nilp) (.inl rfl) []) (tagS x.level++32::(esc x.title++ [10])) (by simp) (by simp;omega)
  have hw2:=ansWriteStr (bldBs_bld (bs:= [.var 26 [.lst c.ln c.lz L1,.lst c.bn c.bz L2,.lst c.sn 6 L3],.var 73 [.int .i64 x.unit,.int .i64 x.par,.int .i64 x.level,.str x.mark,.str x.title,.lst x.fn x.fz (x.facts.map fcA)]]) hbs (a:= .ptr 2 0) (.inr rfl) Y1) ([109,97,114,107,32]++(esc x.mark++ [10])) (by omega) (by simp;omega)
  rw [bldBs_set,List.nil_append] at hw1
  replace hw1:ansF cfg 126 [.ptr 2 0,.str (tagS x.level++32::(esc x.title++ [10]))] (bldBs [.var 26 [.lst c.ln c.lz L1,.lst c.bn c.bz L2,.lst c.sn 6 L3],.var 73 [.int .i64 x.unit,.int .i64 x.par,.int .i64 x.level,.str x.mark,.str x.title,.lst x.fn x.fz (x.facts.map fcA)]] .nilp [])=some (.tup [.int .i64 ((tagS x.level++32::(esc x.title++ [10])).length:Nat),.ifc false],bldBs [.var 26 [.lst c.ln c.lz L1,.lst c.bn c.bz L2,.lst c.sn 6 L3],.var 73 [.int .i64 x.unit,.int .i64 x.par,.int .i64 x.level,.str x.mark,.str x.title,.lst x.fn x.fz (x.facts.map fcA)]] (.ptr 2 0) Y1):=by rw [hY1];exact hw1
  rw [bldBs_set,←hY2] at hw2
  have hY2l:Y2.length≤1000:=by rw [hY2];simp;omega
  simp only [bldBs,List.cons_append,List.nil_append,List.length_nil,List.map_nil,List.length_cons,Nat.zero_add,Nat.reduceAdd] at hw1 hw2
  simp (maxSteps:=9^9) (disch:=omega) [-List.map_replicate,-List.map_set,-List.getD_eq_getElem?_getD,-getElem?_pos,-getElem?_neg,om,ir82,h1,h2,numOpt,hg,hEl,hi,splice,hw,ht,hm,hw1,hw2]
  have hCHl:(chooseP (preferP c.langs lang) x.facts).length≤32:=Nat.le_trans (chooseP_len _ _) hso.flen
  have hE: ∀k (h:k<(chooseP (preferP c.langs lang) x.facts).length),((chooseP (preferP c.langs lang) x.facts).map fcA)[k]?=some (.agg [.int .i64 (chooseP (preferP c.langs lang) x.facts)[k].el,.str (chooseP (preferP c.langs lang) x.facts)[k].lang,.str (chooseP (preferP c.langs lang) x.facts)[k].text]):=fun k h=>get_map _ _ h
  have hF: ∀k (h:k<(chooseP (preferP c.langs lang) x.facts).length),FcOk c.langs (chooseP (preferP c.langs lang) x.facts)[k]:=fun k h=>hso.facts _ (chooseP_mem (List.getElem_mem h))
  have hEl2:((chooseP (preferP c.langs lang) x.facts).map fcA).length=(chooseP (preferP c.langs lang) x.facts).length:=by simp
  have hT:txtI Lib.itoa esc (tagS x.level) x.title x.mark (chooseP (preferP c.langs lang) x.facts)=Y2++(chooseP (preferP c.langs lang) x.facts).flatMap fun f=>Lib.itoa f.el++ [32]++esc f.text++ [10]:=by rw [hY2,hY1];simp [txtI,markS]
  have hY2n:Y2≠ []:=by rw [hY2];simp
  generalize chooseP (preferP c.langs lang) x.facts=CH at*
  generalize hTT:txtI Lib.itoa esc (tagS x.level) x.title x.mark CH=TT at*
  generalize CH.map fcA=CA at*
  clear hw1 hw2 hY1 hY2 hg h1 h2 hw ht hm hTT
  refine Wp.loopM (fun (a:Nat×Str)=>CH.length-a.1) (fun a=> [none,none,none,none,none,none,none,some (.ptr 2 0),none,none,none,none,none,none,none,some (.lst nl z CA),some (.int .i64 CH.length),some (.int .i64 a.1),none,none,none,none,none]) (fun a=> [.var 26 [.lst c.ln c.lz L1,.lst c.bn c.bz L2,.lst c.sn 6 L3],.var 73 [.int .i64 x.unit,.int .i64 x.par,.int .i64 x.level,.str x.mark,.str x.title,.lst x.fn x.fz (x.facts.map fcA)],.var 159 [.ptr 2 0,.osl 3 a.2.length],.sl ⟨false,some 5,none⟩ 1 (a.2.map ofByte)])
   (fun a=>(TT=a.2++(CH.drop a.1).flatMap fun f=>Lib.itoa f.el++ [32]++esc f.text++ [10])∧a.1≤CH.length∧a.2.length≤1000+20000*a.1∧a.2≠ []) ?_ (0,Y2) ⟨by simpa using hT,by simp,by simp;omega,hY2n⟩ (by simp) (by simp)
  rintro ⟨k,out⟩ ⟨hk1,hkl,hol,hon⟩
  simp only at hk1 hkl hol hon⊢
  rw [hk1]
  by_cases h3:k<CH.length
  ·have hgk:=hE k h3
   have hfk:=hF k h3
   obtain rfl:=h2z (ne_of_lt h3)
   rw [List.drop_eq_getElem_cons h3,List.flatMap_cons] at hk1⊢
   clear hE hF
   generalize CH[k]=f at*
   have hel:=ansEscP f.text (by have:=hfk.len;omega)
   have hetl:=esc_length f.text
   have hfl:=hfk.len
   have hitl:=Lib.itoa_length_le f.el (by have:=hfk.el1;omega) (by have:=hfk.el2;omega)
   have hid1: -9223372036854775808≤f.el:=by have:=hfk.el1;omega
   have hid2:f.el≤9223372036854775807:=by have:=hfk.el2;omega
   obtain ⟨Y3,hY3⟩: ∃Y,Y=out++(Lib.itoa f.el++32::(esc f.text++ [10])):=⟨_,rfl⟩
   have hw3:=ansWriteStr (bldBs_bld2 (bs:= [.var 26 [.lst c.ln c.lz L1,.lst c.bn c.bz L2,.lst c.sn 6 L3],.var 73 [.int .i64 x.unit,.int .i64 x.par,.int .i64 x.level,.str x.mark,.str x.title,.lst x.fn x.fz (x.facts.map fcA)]]) (l:= [.var 79 [.int .i64 f.el,.str f.lang,.str f.text]]) hbs (fun m=>rfl) (a:= .ptr 2 0) (.inr rfl) out) (Lib.itoa f.el++32::(esc f.text++ [10])) (by omega) (by simp;omega)
   rw [bldBs_set2,←hY3] at hw3
   have hY3l:Y3.length≤1000+20000*(k+1):=by rw [hY3];simp;omega
   have hY3n:Y3≠ []:=by rw [hY3];simp
   have hk2:out++((Lib.itoa f.el++ [32]++esc f.text++ [10])++(CH.drop (k+1)).flatMap fun f=>Lib.itoa f.el++ [32]++esc f.text++ [10])=Y3++(CH.drop (k+1)).flatMap fun f=>Lib.itoa f.el++ [32]++esc f.text++ [10]:=by rw [hY3];simp
   rw [hk2] at hk1⊢
   rw [←hk1]
   simp only [bldBs,List.cons_append,List.nil_append,List.length_nil,List.length_cons,Nat.zero_add,Nat.reduceAdd] at hw3
   generalize hit:Lib.itoa f.el=it at*
   clear hY3 hk2
   simp (maxSteps:=9^9) (disch:=omega) [-List.map_replicate,-List.map_set,-List.getD_eq_getElem?_getD,-getElem?_pos,-getElem?_neg,om,h3,hgk,splice,itoaG,hid1,hid2,hit,hel,hw3]
   exact ⟨k+1,Y3,⟨by rw [hk1];simp,by omega,by omega,hY3n⟩,by omega,by omega,rfl,rfl⟩
  ·rw [List.drop_eq_nil_of_le (by omega),List.flatMap_nil,List.append_nil] at hk1⊢
   have hst:=ansStringB (bldBs_bld (bs:= [.var 26 [.lst c.ln c.lz L1,.lst c.bn c.bz L2,.lst c.sn 6 L3],.var 73 [.int .i64 x.unit,.int .i64 x.par,.int .i64 x.level,.str x.mark,.str x.title,.lst x.fn x.fz (x.facts.map fcA)]]) hbs (a:= .ptr 2 0) (.inr rfl) out) (by omega) hon
   simp only [bldBs,List.cons_append,List.nil_append,List.length_nil,List.length_cons,Nat.zero_add,Nat.reduceAdd] at hst
   simp (maxSteps:=9^9) (disch:=omega) [-List.map_replicate,-List.map_set,-List.getD_eq_getElem?_getD,-getElem?_pos,-getElem?_neg,om,h3,hst]
theorem ansValue1 (c:Ct) (hc:c.ok) (root:Int) (lang:Str) (x:Int×Int) (hr:rightB c lang=true):ansF cfg 41 [ctA c,.int .i64 root,.str lang,.agg [.int .i64 x.1,.int .i64 x.2]] []=some (.str (valI Lib.itoa esc c lang root x), []):=by
 have hk:chkC c=0:=by unfold rightB at hr;simp at hr;exact hr.1
 have h1:=ansNumber c hc root x.2
 have h2:=ansText c hc x.2 lang hr
 have h3:=ansNameC c hc x.2 lang
 have h4:=ansCiteC c hc x.2
 rw [if_pos hk] at h1 h4
 have h3e:(if x.2<1∨64<x.2∨rightB c lang=false then [] else nameP (preferP c.langs lang) c.labs x.2 (elemS Lib.itoa x.2))=(if x.2<1∨64<x.2 then [] else nameP (preferP c.langs lang) c.labs x.2 (elemS Lib.itoa x.2)):=by rw [hr];simp
 rw [h3e] at h3
 refine ans_of_wp fn41 low41 ?_
 unfold valI
 generalize hV2:(match sheetU c x.2 with
  | some s=>txtI Lib.itoa esc (tagS s.level) s.title s.mark (chooseP (preferP c.langs lang) s.facts)
  | none=>([]:Str))=V2 at*
 generalize (if x.2<1∨64<x.2 then ([]:Str) else nameP (preferP c.langs lang) c.labs x.2 (elemS Lib.itoa x.2))=V3 at*
 generalize numberP Lib.itoa c root x.2=V1 at*
 generalize citeS c.shs x.2=V4 at*
 clear h3e
 unfold ctA ctC at*
 generalize strA c.langs=L1 at*
 generalize c.labs.map lbA=L2 at*
 generalize c.shs.map shA=L3 at*
 obtain ⟨k,u⟩:=x
 simp only at*
 by_cases e1:k=1
 ·simp (maxSteps:=9^9) (disch:=omega) [-List.map_replicate,-List.map_set,-List.getD_eq_getElem?_getD,-getElem?_pos,-getElem?_neg,om,ir41,e1,h1]
 by_cases e2:k=2
 ·simp (maxSteps:=9^9) (disch:=omega) [-List.map_replicate,-List.map_set,-List.getD_eq_getElem?_getD,-getElem?_pos,-getElem?_neg,om,ir41,e2,h2]
  first | (cases sheetU c u <;> rfl) | (rw [←hV2];cases sheetU c u <;> rfl) | rfl
 by_cases e3:k=3
 ·simp (maxSteps:=9^9) (disch:=omega) [-List.map_replicate,-List.map_set,-List.getD_eq_getElem?_getD,-getElem?_pos,-getElem?_neg,om,ir41,e3,h3]
 by_cases e4:k=4
 ·simp (maxSteps:=9^9) (disch:=omega) [-List.map_replicate,-List.map_set,-List.getD_eq_getElem?_getD,-getElem?_pos,-getElem?_neg,om,ir41,e4,h4]
 simp (maxSteps:=9^9) (disch:=omega) [-List.map_replicate,-List.map_set,-List.getD_eq_getElem?_getD,-getElem?_pos,-getElem?_neg,om,ir41,e1,e2,e3,e4]
theorem ansValueC (c:Ct) (hc:c.ok) (root:Int) (lang:Str) (x:Int×Int):ansF cfg 16 [ctA c,.int .i64 root,.str lang,.agg [.int .i64 x.1,.int .i64 x.2]] []=some (.str (if rightB c lang=true then valI Lib.itoa esc c lang root x else []), []):=by
 refine ans_of_wp fn16 low16 ?_
 have h1:=ansRight c hc lang
 cases hr:rightB c lang with
 | true=>
  have h2:=ansValue1 c hc root lang x hr
  rw [hr] at h1
  unfold ctA ctC at*
  generalize strA c.langs=L1 at*
  generalize c.labs.map lbA=L2 at*
  generalize c.shs.map shA=L3 at*
  simp (maxSteps:=9^9) (disch:=omega) [-List.map_replicate,-List.map_set,-List.getD_eq_getElem?_getD,-getElem?_pos,-getElem?_neg,om,ir16,h1,h2]
 | false=>
  rw [hr] at h1
  unfold ctA ctC at*
  generalize strA c.langs=L1 at*
  generalize c.labs.map lbA=L2 at*
  generalize c.shs.map shA=L3 at*
  simp (maxSteps:=9^9) (disch:=omega) [-List.map_replicate,-List.map_set,-List.getD_eq_getElem?_getD,-getElem?_pos,-getElem?_neg,om,ir16,h1]
def clA (z:Cell):AV:= .agg [.int .i64 z.1,.int .i64 z.2]
def enC (e:Cell×Nat):AV×AV×Nat:=(clA e.1,.bool true,e.2)
def findC (z:Cell):List (Cell×Nat)→Nat→Option (Nat×Cell×Nat)
 | [],_=>none
 | e::r,i=>if e.1=z then some (i,e) else findC z r (i+1)
theorem findA_C (z:Cell): ∀(m:List (Cell×Nat)) (i:Nat),findA (eqRec cfg 20 28) (clA z) (m.map enC) i=some ((findC z m i).map fun p=>(p.1,enC p.2))
 | [],i=>rfl
 | e::r,i=>by
  have ih:=findA_C z r (i+1)
  have he:eqRec cfg 20 28 (clA z) (enC e).1=some (z.1==e.1.1&&z.2==e.1.2):=by simp (config:={maxSteps:=1000000}) (disch:=omega) [-List.map_replicate,-List.map_set,-List.getD_eq_getElem?_getD,-getElem?_pos,-getElem?_neg,wrap_i64,le_strLim,le_sliceLim,le_buildLim,le_sliceLimI,enC,clA]
  simp only [List.map_cons,findA,he,findC]
  by_cases hs:e.1=z
  ·subst hs;simp
  ·have hs2:(z.1==e.1.1&&z.2==e.1.2)=false:=by
    cases h:(z.1==e.1.1&&z.2==e.1.2) with
    | false=>rfl
    | true=>simp at h;exact absurd (Prod.ext h.1.symm h.2.symm) hs
   simp only [hs2,if_neg hs];exact ih
theorem findC_spec (z:Cell): ∀(m:List (Cell×Nat)) (i j:Nat) (e:Cell×Nat),findC z m i=some (j,e)→i≤j∧m[j-i]?=some e∧e.1=z
 | [],i,j,e,h=>by cases h
 | x::r,i,j,e,h=>by
  simp only [findC] at h
  split at h
  ·rename_i hs
   cases h
   exact ⟨Nat.le_refl _,by simp,hs⟩
  ·obtain ⟨h1,h2,h3⟩:=findC_spec z r (i+1) j e h
   refine ⟨by omega,?_,h3⟩
   rw [show j-i=(j-(i+1))+1 by omega]
   simpa using h2
def putC (m:List (Cell×Nat)) (clock:Nat) (z:Cell):List (Cell×Nat):=match findC z m 0 with
 | some _=>m
 | none=>m++ [(z,clock)]
def tickC (m:List (Cell×Nat)) (clock:Nat) (z:Cell):Nat:=match findC z m 0 with
 | some _=>clock
 | none=>clock+1
theorem updC {bs:List Box} {k clock:Nat} {m:List (Cell×Nat)} (h:Box.at bs k= .mp (m.map enC) clock) (z:Cell):mapUpdateA cfg (cfg.ti 82) (.mapv k) (clA z) (.bool true) bs=some (.tup [],.upd k (.mp ((putC m clock z).map enC) (tickC m clock z))):=by
 have hf:=findA_C z m 0
 unfold putC tickC
 cases hq:findC z m 0 with
 | none=>rw [hq] at hf;unfold clA at*;simp [mapUpdateA,keyFine,keyFields,partT,keyAV,cellAV,valOk,h,hf,-eqRec,enC,clA]
 | some p=>
  obtain ⟨j,e⟩:=p
  obtain ⟨_,hj,he⟩:=findC_spec z m 0 j e hq
  rw [hq] at hf
  subst he
  have hset:(m.map enC).set j (clA e.1,.bool true,e.2)=m.map enC:=by
   apply List.ext_getElem?
   intro i
   by_cases hi:j=i
   ·subst hi
    simp only [Nat.sub_zero] at hj
    have hl:j<m.length:=by
     rcases Nat.lt_or_ge j m.length with h' | h'
     ·exact h'
     ·rw [List.getElem?_eq_none h'] at hj;cases hj
    rw [List.getElem?_set_self (by simpa using hl),List.getElem?_map,hj];rfl
   ·rw [List.getElem?_set_ne hi]
  unfold clA at*
  simp [mapUpdateA,keyFine,keyFields,partT,keyAV,cellAV,valOk,h,hf,-eqRec,enC,clA,sameKey,sameCell,sameCells,hset]
theorem findC_none (z:Cell): ∀(m:List (Cell×Nat)) (i:Nat),findC z m i=none→ ∀e∈m,e.1≠z
 | [],_,_,_,h=>by cases h
 | x::r,i,h,e,he=>by
  simp only [findC] at h
  split at h
  ·cases h
  ·rename_i hs
   rcases List.mem_cons.mp he with rfl | he
   ·exact hs
   ·exact findC_none z r (i+1) h e he
structure MpOk (m:List (Cell×Nat)) (clock:Nat):Prop where
 keys:(m.map Prod.fst).Nodup
 born:(m.map Prod.snd).Nodup
 lt: ∀e∈m,e.2<clock
theorem putC_ok {m:List (Cell×Nat)} {clock:Nat} (h:MpOk m clock) (z:Cell):MpOk (putC m clock z) (tickC m clock z)∧ ∀y,y∈(putC m clock z).map Prod.fst↔y∈m.map Prod.fst∨y=z:=by
 unfold putC tickC
 cases hq:findC z m 0 with
 | some p=>
  obtain ⟨j,e⟩:=p
  obtain ⟨_,hj,he⟩:=findC_spec z m 0 j e hq
  refine ⟨h,fun y=>⟨.inl,fun hy=> ?_⟩⟩
  rcases hy with hy | rfl
  ·exact hy
  ·exact List.mem_map.mpr ⟨e,List.mem_of_getElem? hj,he⟩
 | none=>
  have hn:=findC_none z m 0 hq
  refine ⟨⟨?_,?_,?_⟩,fun y=>by simp⟩
  ·simp only [List.map_append,List.map_cons,List.map_nil]
   refine List.nodup_append.mpr ⟨h.keys,by simp,fun a ha b hb=> ?_⟩
   obtain ⟨e,he,rfl⟩:=List.mem_map.mp ha
   simp at hb;subst hb
   exact hn e he
  ·simp only [List.map_append,List.map_cons,List.map_nil]
   refine List.nodup_append.mpr ⟨h.born,by simp,fun a ha b hb=> ?_⟩
   obtain ⟨e,he,rfl⟩:=List.mem_map.mp ha
   simp at hb;subst hb
   have:=h.lt e he
   omega
  ·intro e he
   rcases List.mem_append.mp he with he | he
   ·exact Nat.lt_succ_of_lt (h.lt e he)
   ·simp at he;subst he;simp
def rdsA (l:List (Cell×Str)):List AV:=l.map rdA
theorem plain_rdsA: ∀l:List (Cell×Str),plainAll (rdsA l)=true
 | []=>rfl
 | x::r=>by simp [rdsA,rdA,plainAll,AV.plain];exact plain_rdsA r
theorem nodup_inj {α β:Type} {f:α→β}: ∀{M:List α} {a b:α},(M.map f).Nodup→a∈M→b∈M→f a=f b→a=b
 | x::r,a,b,hn,ha,hb,h=>by
  rw [List.map_cons,List.nodup_cons] at hn
  rcases List.mem_cons.1 ha with rfl | ha'
  ·rcases List.mem_cons.1 hb with rfl | hb'
   ·rfl
   ·exact absurd (h▸List.mem_map.mpr ⟨b,hb',rfl⟩) hn.1
  ·rcases List.mem_cons.1 hb with rfl | hb'
   ·exact absurd (h▸List.mem_map.mpr ⟨a,ha',rfl⟩) hn.1
   ·exact nodup_inj hn.2 ha' hb' h
theorem bornC: ∀(M:List (Cell×Nat)) (i:Nat) (e:Cell×Nat),e∈M→(M.map Prod.snd).Nodup→ ∃j,bornA (e.2:Int) (M.map enC) i=some (j,enC e)
 | x::r,i,e,he,hn=>by
  have hn2:=hn
  rw [List.map_cons,List.nodup_cons] at hn2
  simp only [List.map_cons,bornA]
  by_cases hx:x.2=e.2
  ·have hxe:=nodup_inj hn (List.mem_cons_self ..) he hx
   subst hxe
   exact ⟨i,by simp [enC]⟩
  ·have he:e∈r:=by
    rcases List.mem_cons.1 he with h | h
    ·exact absurd (by rw [h]) hx
    ·exact h
   obtain ⟨j,hj⟩:=bornC r (i+1) e he hn2.2
   refine ⟨j,?_⟩
   rw [if_neg (by simp only [enC];omega)]
   exact hj
theorem sub_length {α β:Type} [DecidableEq α] {f:α→β}: ∀{l M:List α},(l.map f).Nodup→(∀e∈l,e∈M)→l.length≤M.length
 | [],M,_,_=>by simp
 | x::r,M,hn,h=>by
  rw [List.map_cons,List.nodup_cons] at hn
  have hx:=h x (List.mem_cons_self ..)
  have h2:=sub_length (l:=r) (M:=M.erase x) hn.2 fun e he=>(List.mem_erase_of_ne (by
   rintro rfl
   exact hn.1 (List.mem_map.mpr ⟨e,he,rfl⟩))).2 (h e (List.mem_cons_of_mem _ he))
  rw [List.length_erase_of_mem hx] at h2
  have:0<M.length:=List.length_pos_of_mem hx
  simp only [List.length_cons];omega
theorem sort_reads {M:List (Cell×Nat)} {clock:Nat} (h:MpOk M clock) {S:List Cell} (hS:IncC S) (hM: ∀z,z∈M.map Prod.fst↔z∈S) (val:Cell→Str) {l:List (Cell×Nat)} (hl: ∀e∈l,e∈M) (hn:(l.map Prod.snd).Nodup) (hall: ∀e∈M,(l.map Prod.snd).contains e.2=true):
  ((l.map fun e=>(e.1,val e.1)).map Prod.fst).Nodup∧sortC (l.map fun e=>(e.1,val e.1))=S.map fun z=>(z,val z):=by
 have hmem: ∀e∈M,e∈l:=fun e he=>by
  have h1:=hall e he
  rw [List.contains_iff_mem] at h1
  obtain ⟨e',h2,h3⟩:=List.mem_map.1 h1
  have:=nodup_inj h.born (hl _ h2) he h3
  rwa [←this]
 have hk:(l.map Prod.fst).Nodup:=by
  unfold List.Nodup at hn⊢
  rw [List.pairwise_map] at hn⊢
  refine List.Pairwise.imp_of_mem (fun {a b} ha hb hab hf=> ?_) hn
  exact hab (by rw [nodup_inj h.keys (hl _ ha) (hl _ hb) hf])
 have he:(l.map fun e=>(e.1,val e.1)).map Prod.fst=l.map Prod.fst:=by simp
 rw [he]
 refine ⟨hk,?_⟩
 have hp:(sortC (l.map fun e=>(e.1,val e.1))).Perm (l.map fun e=>(e.1,val e.1)):=by unfold sortC;exact List.mergeSort_perm _ _
 refine sorted_reads hS (fun r hr=> ?_) (fun z=> ?_) ?_ ?_
 ·obtain ⟨e,_,rfl⟩:=List.mem_map.1 (hp.mem_iff.1 hr);rfl
 ·rw [←hM,(hp.map Prod.fst).mem_iff,he]
  constructor
  ·intro hz
   obtain ⟨e,h1,rfl⟩:=List.mem_map.1 hz
   exact List.mem_map.mpr ⟨e,hl _ h1,rfl⟩
  ·intro hz
   obtain ⟨e,h1,rfl⟩:=List.mem_map.1 hz
   exact List.mem_map.mpr ⟨e,hmem _ h1,rfl⟩
 ·rw [(hp.map Prod.fst).nodup_iff,he];exact hk
 ·rw [List.pairwise_map]
  unfold sortC
  have hs:=List.pairwise_mergeSort (le:=fun x y:Cell×Str=> !decide (cmpC y.1 x.1<0)) (fun a b c h1 h2=>by
   simp only [Bool.not_eq_true',decide_eq_false_iff_not,cmpC_lt] at h1 h2⊢
   rw [befC_is] at*;omega) (fun a b=>by
   simp only [Bool.or_eq_true,Bool.not_eq_true',decide_eq_false_iff_not,cmpC_lt]
   rw [befC_is,befC_is];omega) (l.map fun e=>(e.1,val e.1))
  refine hs.imp fun {a b} hab=> ?_
  simp only [Bool.not_eq_true',decide_eq_false_iff_not,cmpC_lt] at hab
  exact hab
set_option maxHeartbeats 8000000
def citeTo (t:Str) (j:Nat):List Cell:=(List.range j).filterMap fun i=>if (pieceR (t.drop i)).2=0 then none else some (4,(pieceR (t.drop i)).1)
theorem citeTo_succ (t:Str) (j:Nat) (z:Cell):z∈citeTo t (j+1)↔z∈citeTo t j∨((pieceR (t.drop j)).2≠0∧z=(4,(pieceR (t.drop j)).1)):=by
 unfold citeTo
 rw [List.range_succ,List.filterMap_append,List.mem_append]
 by_cases h:(pieceR (t.drop j)).2=0
 ·simp [h]
 ·simp [h]
theorem putC_len (m:List (Cell×Nat)) (c:Nat) (z:Cell):(putC m c z).length≤m.length+1:=by
 unfold putC
 split <;> simp
theorem fv_C (n:Nat):forgetVal n∘enC=enC:=by
 funext x
 simp [forgetVal,enC,forget,clA]
theorem mpU_C (n:Nat) (m:List (Cell×Nat)):mpUnder n (m.map enC)=true:=by
 apply mpUnder_map
 intro x;simp [enC,AV.under]
theorem itoa_dec2 (n:Int) (h1:1≤n) (h2:n≤64):Lib.itoa n=dec2 n.toNat:=by
 obtain ⟨k,rfl⟩:=Int.eq_ofNat_of_zero_le (show 0≤n by omega)
 unfold Lib.itoa dec2
 rw [if_neg (by omega)]
 simp only [Int.toNat_natCast,Int.natAbs_natCast]
 by_cases h:k<10
 ·rw [if_pos h,Lib.decDigits,dif_pos h]
 ·rw [if_neg h,Lib.decDigits,dif_neg h,Lib.decDigits,dif_pos (by omega)];rfl
def InFacts (u:Int) (CH:List Fc) (k:Nat) (M:List (Cell×Nat)):Prop:= ∀y,y∈M.map Prod.fst↔y∈(CH.take k).flatMap factCells∨y=(1,u)∨y=(2,u)
def InText (M1:List (Cell×Nat)) (t:Str) (j:Nat) (M:List (Cell×Nat)):Prop:= ∀y,y∈M.map Prod.fst↔y∈M1.map Prod.fst∨y∈citeTo t j
theorem InText.start (M1:List (Cell×Nat)) (t:Str):InText M1 t 0 M1:=fun y=>by simp [citeTo]
theorem InText.skip {M1 M:List (Cell×Nat)} {t:Str} {j:Nat} (h:InText M1 t j M) (h0:(pieceR (t.drop j)).2=0):InText M1 t (j+1) M:=fun y=>by
 rw [h y,citeTo_succ]
 constructor
 ·rintro (q | q)
  ·exact .inl q
  ·exact .inr (.inl q)
 ·rintro (q | q | q)
  ·exact .inl q
  ·exact .inr q
  ·exact absurd h0 q.1
theorem InText.put {M1 M M':List (Cell×Nat)} {t:Str} {j:Nat} (h:InText M1 t j M) (h0:(pieceR (t.drop j)).2≠0) (hm: ∀y,y∈M'.map Prod.fst↔y∈M.map Prod.fst∨y=(4,(pieceR (t.drop j)).1)):InText M1 t (j+1) M':=fun y=>by
 rw [hm y,h y,citeTo_succ]
 constructor
 ·rintro ((q | q) | q)
  ·exact .inl q
  ·exact .inr (.inl q)
  ·exact .inr (.inr ⟨h0,q⟩)
 ·rintro (q | q | q)
  ·exact .inl (.inl q)
  ·exact .inl (.inr q)
  ·exact .inr q.2
theorem InFacts.next {u:Int} {CH:List Fc} {k:Nat} (hk:k<CH.length) {M M1 M2:List (Cell×Nat)} (h:InFacts u CH k M) (h1: ∀y,y∈M1.map Prod.fst↔y∈M.map Prod.fst∨y=(3,CH[k].el)) (h2:InText M1 CH[k].text CH[k].text.length M2):InFacts u CH (k+1) M2:=fun y=>by
 have hc:citeTo CH[k].text CH[k].text.length=citeCells CH[k].text:=rfl
 rw [h2 y,h1 y,h y,hc,take_get CH hk,List.flatMap_append,List.mem_append]
 have:y∈ [CH[k]].flatMap factCells↔y=(3,CH[k].el)∨y∈citeCells CH[k].text:=by simp [factCells]
 rw [this]
 constructor
 ·rintro (((q | q | q) | q) | q)
  ·exact .inl (.inl q)
  ·exact .inr (.inl q)
  ·exact .inr (.inr q)
  ·exact .inl (.inr (.inl q))
  ·exact .inl (.inr (.inr q))
 ·rintro ((q | q | q) | q | q)
  ·exact .inl (.inl (.inl q))
  ·exact .inl (.inr q)
  ·exact .inr q
  ·exact .inl (.inl (.inr (.inl q)))
  ·exact .inl (.inl (.inr (.inr q)))
theorem ansReads0 (c:Ct) (hc:c.ok) (root u:Int) (lang:Str) (h0:compE c root lang=0) (h1:numberP Lib.itoa c root u≠ []):
  ansF cfg 12 [ctA c,.int .i64 root,.str lang,.int .i64 u] []=some (.tup [.lst none 3 (((cellsOf u (chosenP c u lang)).map fun z=>(z,valI Lib.itoa esc c lang root z)).map rdA),.int .i64 0], []):=by
 have hr:=comp_right h0
 have hk:chkC c=0:=by unfold rightB at hr;simp at hr;exact hr.1
 have hok:=chkC_ok hk
 have w1:=ansCompile c hc root lang
 have w2:=ansNumber c hc root u
 rw [if_pos hk] at w2
 obtain ⟨nl,z,w3,hz⟩:=ansChoose c hc u lang
 have wv: ∀x:Cell,_:=fun x=>ansValue1 c hc root lang x hr
 rw [h0,if_pos rfl] at w1
 have hF: ∀f∈chosenP c u lang,FcOk c.langs f:=by
  intro f hf
  unfold chosenP at hf
  rw [if_pos hr] at hf
  have hf:=chooseP_mem hf
  unfold factsU at hf
  cases hs:sheetU c u with
  | none=>rw [hs] at hf;cases hf
  | some s=>
   rw [hs] at hf
   obtain ⟨_,_,_,_,hm⟩:=sheetU_some hs
   exact (hok.shs s hm).facts f hf
 have hFl:(chosenP c u lang).length≤32:=by
  unfold chosenP
  rw [if_pos hr]
  refine Nat.le_trans (chooseP_len _ _) ?_
  unfold factsU
  cases hs:sheetU c u with
  | none=>simp
  | some s=>
   obtain ⟨_,_,_,_,hm⟩:=sheetU_some hs
   exact (hok.shs s hm).flen
 have hS:=cellsOf_inc u (chosenP c u lang)
 have hM: ∀z,z∈cellsOf u (chosenP c u lang)↔_:=fun z=>cellsOf_mem (z:=z)
 generalize cellsOf u (chosenP c u lang)=S at*
 generalize hval:valI Lib.itoa esc c lang root=val at*
 refine ans_of_wp fn12 low12 ?_
 have hE: ∀k (h:k<(chosenP c u lang).length),((chosenP c u lang).map fcA)[k]?=some (.agg [.int .i64 (chosenP c u lang)[k].el,.str (chosenP c u lang)[k].lang,.str (chosenP c u lang)[k].text]):=fun k h=>get_map _ _ h
 have hEl:((chosenP c u lang).map fcA).length=(chosenP c u lang).length:=by simp
 generalize chosenP c u lang=CH at*
 generalize CH.map fcA=CA at*
 generalize numberP Lib.itoa c root u=nm at*
 have hnm:decide (nm≠ [])=true:=by simpa using h1
 rw [hnm] at w2
 unfold aidA at w1
 generalize (aidP Lib.itoa c root lang).map secA=AS at*
 clear hk hok h0 h1 hr hnm hval
 have u0: ∀x y (M:List (Cell×Nat)) ck l z1,mapUpdateA cfg (cfg.ti 82) (.mapv 2) (.agg [.int .i64 z1,.int .i64 u]) (.bool true) (x::y:: .mp (M.map enC) ck::l)=some (.tup [],.upd 2 (.mp ((putC M ck (z1,u)).map enC) (tickC M ck (z1,u)))):=fun x y M ck l z1=>updC (by rfl) (z1,u)
 have u1: ∀x y (M:List (Cell×Nat)) ck l z1 z2,mapUpdateA cfg (cfg.ti 82) (.mapv 2) (.agg [.int .i64 z1,.int .i64 z2]) (.bool true) (x::y:: .mp (M.map enC) ck::l)=some (.tup [],.upd 2 (.mp ((putC M ck (z1,z2)).map enC) (tickC M ck (z1,z2)))):=fun x y M ck l z1 z2=>updC (by rfl) (z1,z2)
 have u2: ∀x y ck l z1 z2,mapUpdateA cfg (cfg.ti 82) (.mapv 2) (.agg [.int .i64 z1,.int .i64 z2]) (.bool true) (x::y:: .mp [] ck::l)=some (.tup [],.upd 2 (.mp ((putC [] ck (z1,z2)).map enC) (tickC [] ck (z1,z2)))):=fun x y ck l z1 z2=>updC (m:= []) (by rfl) (z1,z2)
 simp only [ti82] at u1 u2
 clear u0
 unfold ctA ctC at*
 generalize strA c.langs=L1 at*
 generalize c.labs.map lbA=L2 at*
 generalize c.shs.map shA=L3 at*
 have m0:MpOk [] 0:=⟨by simp,by simp,by simp⟩
 have i1:=putC_ok (putC_ok m0 (1,u)).1 (2,u)
 have i2:=putC_ok (putC_ok m0 (2,u)).1 (1,u)
 have i3: ∀y,y∈(putC (putC [] 0 (1,u)) (tickC [] 0 (1,u)) (2,u)).map Prod.fst↔y=(1,u)∨y=(2,u):=fun y=>by
  rw [i1.2,(putC_ok m0 (1,u)).2];simp
 have i4: ∀y,y∈(putC (putC [] 0 (2,u)) (tickC [] 0 (2,u)) (1,u)).map Prod.fst↔y=(1,u)∨y=(2,u):=fun y=>by
  rw [i2.2,(putC_ok m0 (2,u)).2];simp [or_comm]
 have i5:(putC (putC [] 0 (1,u)) (tickC [] 0 (1,u)) (2,u)).length≤2:=by
  have:=putC_len (putC [] 0 (1,u)) (tickC [] 0 (1,u)) (2,u)
  have:=putC_len [] 0 (1,u)
  simp at this;omega
 have i6:(putC (putC [] 0 (2,u)) (tickC [] 0 (2,u)) (1,u)).length≤2:=by
  have:=putC_len (putC [] 0 (2,u)) (tickC [] 0 (2,u)) (1,u)
  have:=putC_len [] 0 (2,u)
  simp at this;omega
 replace i1:=i1.1
 replace i2:=i2.1
 clear m0
 simp (maxSteps:=9^9) (disch:=omega) [-List.map_replicate,-List.map_set,-List.getD_eq_getElem?_getD,-getElem?_pos,-getElem?_neg,om,ir12,w1,w2,w3,hEl,splice,makeMapA,u1,u2,fv_C,mpU_C]
 refine ⟨?_,?_⟩
 case' refine_1=>
  generalize putC (putC [] 0 (1,u)) (tickC [] 0 (1,u)) (2,u)=M0 at*
  generalize tickC (putC [] 0 (1,u)) (tickC [] 0 (1,u)) (2,u)=ck0 at*
  clear i2 i4 i6
  rename MpOk M0 ck0=>j1
  rename (∀y,y∈M0.map Prod.fst↔y=(1,u)∨y=(2,u))=>j2
  rename M0.length≤2=>j3
 case' refine_2=>
  generalize putC (putC [] 0 (2,u)) (tickC [] 0 (2,u)) (1,u)=M0 at*
  generalize tickC (putC [] 0 (2,u)) (tickC [] 0 (2,u)) (1,u)=ck0 at*
  clear i1 i3 i5
  rename MpOk M0 ck0=>j1
  rename (∀y,y∈M0.map Prod.fst↔y=(1,u)∨y=(2,u))=>j2
  rename M0.length≤2=>j3
 all_goals
  clear w1 w2 w3
  refine Wp.loopM (fun (a:Nat×List (Cell×Nat)×Nat)=>CH.length-a.1) (fun a=> [none,some (.int .i64 root),some (.str lang),none,some (.ptr 0 0),none,none,none,none,none,some (.mapv 2),none,none,none,none,none,none,none,none,none,none,none,none,none,some (.lst nl z CA),some (.int .i64 CH.length),some (.int .i64 a.1),none,none,none,none,none,none,none,none,none,none,none,none,none,none,none,none,none,none]) (fun a=> [.var 26 [.lst c.ln c.lz L1,.lst c.bn c.bz L2,.lst c.sn c.sz L3],.var 41 [.int .i64 root,.str lang,.lst none 3 AS],.mp (a.2.1.map enC) a.2.2])
   (fun a=>MpOk a.2.1 a.2.2∧InFacts u CH a.1 a.2.1∧a.2.1.length≤2+5000*a.1∧a.1≤CH.length) ?_ (0,M0,ck0) ⟨j1,fun y=>by rw [j2 y];simp,by simpa using j3,by simp⟩ (by simp) rfl
  rintro ⟨k,M,ck⟩ ⟨q1,q2,q3,q4⟩
  simp only at q1 q2 q3 q4⊢
  by_cases h3:k<CH.length
  ·have hgk:=hE k h3
   have hfk:=hF _ (List.getElem_mem h3)
   obtain rfl:=hz (ne_of_lt h3)
   have hnx:=fun M1 M2=>InFacts.next (M1:=M1) (M2:=M2) h3 q2
   clear hE
   generalize CH[k]=f at*
   obtain ⟨p1,p2⟩:=putC_ok q1 (3,f.el)
   have p3:=putC_len M ck (3,f.el)
   simp (maxSteps:=9^9) (disch:=omega) [-List.map_replicate,-List.map_set,-List.getD_eq_getElem?_getD,-getElem?_pos,-getElem?_neg,om,h3,hgk,splice,u1,fv_C,mpU_C]
   generalize putC M ck (3,f.el)=M1 at*
   generalize tickC M ck (3,f.el)=ck1 at*
   refine Wp.loopM (fun (a:Nat×List (Cell×Nat)×Nat)=>f.text.length-a.1) (fun a=> [none,some (.int .i64 root),some (.str lang),none,some (.ptr 0 0),none,none,none,none,none,some (.mapv 2),some (.ptr 3 0),none,none,none,none,none,none,none,none,none,none,none,none,some (.lst nl 3 CA),some (.int .i64 CH.length),some (.int .i64 k),none,none,none,some (.int .i64 f.text.length),some (.int .i64 a.1),none,none,none,none,none,none,none,none,none,none,none,none,none]) (fun a=> [.var 26 [.lst c.ln c.lz L1,.lst c.bn c.bz L2,.lst c.sn c.sz L3],.var 41 [.int .i64 root,.str lang,.lst none 3 AS],.mp (a.2.1.map enC) a.2.2,.var 79 [.int .i64 f.el,.str f.lang,.str f.text]])
    (fun a=>MpOk a.2.1 a.2.2∧InText M1 f.text a.1 a.2.1∧a.2.1.length≤M1.length+a.1∧a.1≤f.text.length) ?_ (0,M1,ck1) ⟨p1,InText.start _ _,by simp,by simp⟩ (by simp) rfl
   rintro ⟨j,M2,ck2⟩ ⟨r1,r2,r3,r4⟩
   simp only at r1 r2 r3 r4⊢
   have hfl:=hfk.len
   by_cases h4:j<f.text.length
   ·have hne:f.text.drop j≠ []:=by simp;omega
    have hct:=ansCited (f.text.drop j) hne
    rw [pieceD_same hne] at hct
    unfold pcA at hct
    have htl:(f.text.take f.text.length).drop j=f.text.drop j:=by rw [List.take_length]
    by_cases h5:(pieceR (f.text.drop j)).2=0
    ·have r5:=r2.skip h5
     rw [h5] at hct
     generalize (pieceR (f.text.drop j)).1=pu at*
     clear q2 hnx p2 r2
     simp (maxSteps:=9^9) (disch:=omega) [-List.map_replicate,-List.map_set,-List.getD_eq_getElem?_getD,-getElem?_pos,-getElem?_neg,om,h4,hct,htl,fv_C,mpU_C]
     exact ⟨j+1,M2,ck2,⟨r1,r5,by omega,by omega⟩,by omega,by simp,rfl,rfl⟩
    ·obtain ⟨t1,t2,t3,t4,t5⟩:=(pieceR_pos (f.text.drop j)).resolve_left (fun h=>h5 (by rw [h]))
     have h6:0<(pieceR (f.text.drop j)).2:=by omega
     obtain ⟨o1,o2⟩:=putC_ok r1 (4,(pieceR (f.text.drop j)).1)
     have r5:=r2.put h5 o2
     have o3:=putC_len M2 ck2 (4,(pieceR (f.text.drop j)).1)
     generalize (pieceR (f.text.drop j)).1=pu at*
     generalize (pieceR (f.text.drop j)).2=pn at*
     clear q2 hnx p2 r2 o2
     simp (maxSteps:=9^9) (disch:=omega) [-List.map_replicate,-List.map_set,-List.getD_eq_getElem?_getD,-getElem?_pos,-getElem?_neg,om,h4,hct,htl,h6,splice,u1,fv_C,mpU_C]
     exact ⟨j+1,putC M2 ck2 (4,pu),tickC M2 ck2 (4,pu),⟨o1,r5,by omega,by omega⟩,by omega,by simp,rfl,rfl⟩
   ·obtain rfl:j=f.text.length:=by omega
    have r5:=hnx M1 M2 p2 r2
    clear q2 hnx p2 r2
    simp (maxSteps:=9^9) (disch:=omega) [-List.map_replicate,-List.map_set,-List.getD_eq_getElem?_getD,-getElem?_pos,-getElem?_neg,om,fv_C,mpU_C]
    exact ⟨k+1,M2,ck2,⟨r1,r5,by omega,by omega⟩,by omega,by simp,rfl,rfl⟩
  ·obtain rfl:k=CH.length:=by omega
   have hKS: ∀z,z∈M.map Prod.fst↔z∈S:=fun z=>by
    rw [hM z]
    have:=q2 z
    rwa [List.take_length] at this
   obtain ⟨e1,he1⟩: ∃e,e∈M:=by
    have:((1,u):Cell)∈M.map Prod.fst:=(hKS _).2 ((hM _).2 (.inr (.inl rfl)))
    obtain ⟨e,he,_⟩:=List.mem_map.1 this
    exact ⟨e,he⟩
   have hsr:=fun l=>sort_reads q1 hS hKS val (l:=l)
   have hb:=fun e he=>bornC M 0 e he q1.born
   clear hE hF q2 hM hKS hS q1
   simp (maxSteps:=9^9) (disch:=omega) [-List.map_replicate,-List.map_set,-List.getD_eq_getElem?_getD,-getElem?_pos,-getElem?_neg,om,fv_C,mpU_C,rangeA]
   refine Wp.loopM (fun (l:List (Cell×Nat))=>M.length-l.length) (fun l=> [none,some (.int .i64 root),some (.str lang),none,some (.ptr 0 0),none,none,none,none,none,none,none,none,none,none,some (.osl 4 l.length),none,none,none,none,none,none,none,none,none,none,none,none,none,none,none,none,none,none,none,none,some (.itv 3),none,none,none,none,none,none,none,none]) (fun l=> [.var 26 [.lst c.ln c.lz L1,.lst c.bn c.bz L2,.lst c.sn c.sz L3],.var 41 [.int .i64 root,.str lang,.lst none 3 AS],.mp (M.map enC) ck,.iter (.map 2 (l.map Prod.snd) ck),.sl ⟨false,some 57,none⟩ 3 (l.map fun e=>rdA (e.1,val e.1))])
    (fun l=>(∀e∈l,e∈M)∧(l.map Prod.snd).Nodup) ?_ [] ⟨by simp,by simp⟩ (by simp) (by simp)
   rintro l ⟨l1,l2⟩
   have hll:l.length≤M.length:=sub_length l2 l1
   simp only [Wp_seq]
   refine Wp.nxt (i:=3) (m:=2) (clock:=ck) (seen:=l.map Prod.snd) (es:=M.map enC) rfl rfl rfl ?_ ?_
   ·intro hall
    have hall2: ∀e∈M,(l.map Prod.snd).contains e.2=true:=fun e he=>hall (enC e) (List.mem_map.mpr ⟨e,he,rfl⟩)
    obtain ⟨s1,s2⟩:=hsr l l1 l2 hall2
    have hl0:l≠ []:=by
     rintro rfl
     have:=hall2 e1 he1
     simp at this
    clear hall hall2 hsr hb
    have hrd:=rdsOf_map (l.map fun e=>(e.1,val e.1))
    rw [List.map_map] at hrd
    have hmm:(rdA∘fun e:Cell×Nat=>(e.1,val e.1))=fun e=>rdA (e.1,val e.1):=rfl
    rw [hmm] at hrd
    have hrl:(l.map fun e=>(e.1,val e.1)).length=l.length:=by simp
    have hrn:(l.map fun e=>(e.1,val e.1))≠ []:=by simpa using hl0
    have hEE:(l.map fun e=>rdA (e.1,val e.1)).length=l.length:=by simp
    have hSl:(S.map fun z=>(z,val z)).length=l.length:=by rw [←s2];simp [sortC]
    generalize hR:(l.map fun e=>(e.1,val e.1))=R at*
    generalize hS2:(S.map fun z=>(z,val z))=S2 at*
    generalize (l.map fun e=>rdA (e.1,val e.1))=EE at*
    have hg:sortRdG [.osl 4 l.length,.fn 43 [] []] [.var 26 [.lst c.ln c.lz L1,.lst c.bn c.bz L2,.lst c.sn c.sz L3],.var 41 [.int .i64 root,.str lang,.lst none 3 AS],.mp (M.map enC) ck,.iter (.map 2 (l.map Prod.snd) ck),.sl ⟨false,some 57,none⟩ 3 EE]=some (.tup [], [.var 26 [.lst c.ln c.lz L1,.lst c.bn c.bz L2,.lst c.sn c.sz L3],.var 41 [.int .i64 root,.str lang,.lst none 3 AS],.mp (M.map enC) ck,.iter (.map 2 (l.map Prod.snd) ck),.sl ⟨false,some 57,none⟩ 3 (S2.map rdA)]):=by
     have hm1:l.length<1000000:=by omega
     simp [sortRdG,Box.at,hrd,hrl,hrn,hm1,s1,s2]
    clear hrd hmm s1 s2 hR
    have hSm:(S2.map rdA).length=l.length:=by rw [List.length_map];exact hSl
    generalize hS3:S2.map rdA=S3 at*
    simp (maxSteps:=9^9) (disch:=omega) [-List.map_replicate,-List.map_set,-List.getD_eq_getElem?_getD,-getElem?_pos,-getElem?_neg,om,fv_C,mpU_C,hg,hEE,hSm]
    rw [←hS3,←hS2,List.map_map]
   ·intro e he hn
    obtain ⟨e0,he0,rfl⟩:=List.mem_map.1 he
    obtain ⟨j,hj⟩:=hb e0 he0
    have hv:=wv e0.1
    clear hsr hb he wv
    obtain ⟨⟨z1,z2⟩,n⟩:=e0
    replace hj:bornA (n:Int) (M.map enC) 0=some (j,(.agg [.int .i64 z1,.int .i64 z2],.bool true,n)):=hj
    simp only at hv
    have hEE:(l.map fun e=>rdA (e.1,val e.1)).length=l.length:=by simp
    simp (maxSteps:=9^9) (disch:=omega) [-List.map_replicate,-List.map_set,-List.getD_eq_getElem?_getD,-getElem?_pos,-getElem?_neg,om,fv_C,mpU_C,enC,clA,entryA,hj,hv,hEE,splice]
    have hsub: ∀e∈l++ [((z1,z2),n)],e∈M:=fun e hm=>by
     rcases List.mem_append.1 hm with hm | hm
     ·exact l1 _ hm
     ·rw [List.mem_singleton] at hm;rw [hm];exact he0
    have hnd:((l++ [((z1,z2),n)]).map Prod.snd).Nodup:=by
     rw [List.map_append]
     refine List.nodup_append.mpr ⟨l2,by simp,fun a ha b hb=> ?_⟩
     simp only [List.map_cons,List.map_nil,List.mem_singleton] at hb
     rintro rfl
     have hn2:(l.map Prod.snd).contains n=false:=hn
     rw [hb] at ha
     rw [←List.contains_iff_mem,hn2] at ha
     cases ha
    have hle:=sub_length hnd hsub
    rw [List.length_append,List.length_singleton] at hle
    refine ⟨l++ [((z1,z2),n)],⟨fun a b q hm=>hsub _ hm,hnd⟩,?_,by simp,by simp,by simp [rdA]⟩
    rw [List.length_append,List.length_singleton];omega
theorem ansReads (c:Ct) (hc:c.ok) (root u:Int) (lang:Str): ∃nl z,ansF cfg 12 [ctA c,.int .i64 root,.str lang,.int .i64 u] []=some (.tup [.lst nl z (rdsA (readsQ Lib.itoa esc c root lang u).1),.int .i64 (readsQ Lib.itoa esc c root lang u).2], [])∧((readsQ Lib.itoa esc c root lang u).1≠ []→z=3):=by
 unfold readsQ
 by_cases h0:compE c root lang=0
 ·rw [if_neg (by simpa using h0)]
  by_cases h1:numberP Lib.itoa c root u= []
  ·rw [if_pos h1]
   refine ⟨some true,0,?_,by simp⟩
   have hr:=comp_right h0
   have hk:chkC c=0:=by unfold rightB at hr;simp at hr;exact hr.1
   have w1:=ansCompile c hc root lang
   have w2:=ansNumber c hc root u
   rw [if_pos hk,h1] at w2
   rw [h0,if_pos rfl] at w1
   refine ans_of_wp fn12 low12 ?_
   unfold aidA at w1
   generalize (aidP Lib.itoa c root lang).map secA=AS at*
   unfold ctA ctC at*
   generalize strA c.langs=L1 at*
   generalize c.labs.map lbA=L2 at*
   generalize c.shs.map shA=L3 at*
   simp (maxSteps:=9^9) (disch:=omega) [-List.map_replicate,-List.map_set,-List.getD_eq_getElem?_getD,-getElem?_pos,-getElem?_neg,om,ir12,w1,w2,splice,rdsA]
  ·rw [if_neg h1]
   have hr:=comp_right h0
   have hk:chkC c=0:=by unfold rightB at hr;simp at hr;exact hr.1
   have hq:(fun z=>(z,valQ Lib.itoa esc c lang root z))=fun z=>(z,valI Lib.itoa esc c lang root z):=by
    funext z
    unfold valQ
    rw [if_pos hr,valI_is itoa_dec2 (chkC_ok hk)]
   rw [hq]
   exact ⟨none,3,ansReads0 c hc root u lang h0 h1,fun _=>rfl⟩
 ·rw [if_pos h0]
  refine ⟨some true,0,?_,by simp⟩
  have w1:=ansCompile c hc root lang
  rw [if_neg h0] at w1
  refine ans_of_wp fn12 low12 ?_
  unfold aid0 at w1
  generalize compE c root lang=e at*
  unfold ctA ctC at*
  generalize strA c.langs=L1 at*
  generalize c.labs.map lbA=L2 at*
  generalize c.shs.map shA=L3 at*
  simp (maxSteps:=9^9) (disch:=omega) [-List.map_replicate,-List.map_set,-List.getD_eq_getElem?_getD,-getElem?_pos,-getElem?_neg,om,ir12,w1,h0,splice,rdsA]
set_option maxHeartbeats 4000000
theorem index_one (c:UInt8): ∀s:Str,Lib.index s [c]=Lib.indexByte s c
 | []=>rfl
 | b::l=>by
  simp only [Lib.index,Lib.indexByte,index_one c l,List.isPrefixOf,Bool.and_true]
  by_cases h:b=c
  ·subst h;simp
  ·simp [h,Ne.symm h]
theorem ansIndexB (s:Str) (c:UInt8) (h2:s.length<100000000):ansF cfg 125 [.str s,.str [c]] []=some (.int .i64 (Lib.indexByte s c), []):=by
 have hi:s.length<4294967281:=by omega
 refine ans_of_wp fn125 low125 ?_
 simp (maxSteps:=9^9) (disch:=omega) [-List.map_replicate,-List.map_set,-List.getD_eq_getElem?_getD,-getElem?_pos,-getElem?_neg,om,ir125,findG,hi,index_one]
theorem ansCountB (s:Str) (c:UInt8):ansF cfg 65 [.str s,.str [c]] []=some (.int .i64 (s.count c), []):=by
 refine ans_of_wp fn65 low65 ?_
 simp (maxSteps:=9^9) (disch:=omega) [-List.map_replicate,-List.map_set,-List.getD_eq_getElem?_getD,-getElem?_pos,-getElem?_neg,om,ir65,countG,Lib.countByte]
def cutA (s:Str):AV:=match cutB s with
 | some (a,b)=> .tup [.str a,.str b,.bool true]
 | none=> .tup [.str s,.str [],.bool false]
theorem indexByte_cut: ∀s:Str,Lib.indexByte s 32=(match cutB s with
   | some (a,_)=>(a.length:Int)
   | none=> -1)
 | []=>rfl
 | c::r=>by
  have ih:=indexByte_cut r
  simp only [Lib.indexByte,cutB]
  by_cases h:c=32
  ·subst h;simp
  ·have h':(c==32)=false:=by simpa using h
   rw [if_neg h,h',ih]
   cases cutB r with
   | none=>rfl
   | some p=>
    have hne:(((p.1.length:Int))== -1)=false:=by rw [beq_eq_false_iff_ne];omega
    simp [hne]
theorem ansCut (s:Str) (hs:s.length<1000000):ansF cfg 119 [.str s,.str [32]] []=some (cutA s, []):=by
 have h:ansF cfg 162 [.str s,.str [32]] []=some (cutA s, []):=by
  have hi:s.length<4294967281:=by omega
  refine ans_of_wp fn162 low162 ?_
  have hx:=index_one 32 s
  rw [indexByte_cut] at hx
  unfold cutA
  cases hc:cutB s with
  | none=>
   rw [hc] at hx
   simp (maxSteps:=9^9) (disch:=omega) [-List.map_replicate,-List.map_set,-List.getD_eq_getElem?_getD,-getElem?_pos,-getElem?_neg,om,ir162,findG,hi,hx]
  | some p=>
   obtain ⟨a,b⟩:=p
   rw [hc] at hx
   simp only at hx
   obtain ⟨h1,_⟩:=cutB_some hc
   have ht:s.take a.length=a:=by rw [h1];exact List.take_left' rfl
   have hl:s.length=a.length+1+b.length:=by rw [h1];simp;omega
   have hd:(s.take s.length).drop (a.length+1)=b:=by rw [List.take_length,h1,List.drop_append,List.drop_of_length_le (by omega)];simp
   rw [hl] at hd hi
   clear h1 hc
   simp (maxSteps:=9^9) (disch:=omega) [-List.map_replicate,-List.map_set,-List.getD_eq_getElem?_getD,-getElem?_pos,-getElem?_neg,om,ir162,findG,hi,hx,ht,hd,hl]
 refine ans_of_wp fn119 low119 ?_
 unfold cutA at h⊢
 cases hc:cutB s with
 | none=>
  rw [hc] at h
  simp (maxSteps:=9^9) (disch:=omega) [-List.map_replicate,-List.map_set,-List.getD_eq_getElem?_getD,-getElem?_pos,-getElem?_neg,om,ir119,h]
 | some p=>
  rw [hc] at h
  simp (maxSteps:=9^9) (disch:=omega) [-List.map_replicate,-List.map_set,-List.getD_eq_getElem?_getD,-getElem?_pos,-getElem?_neg,om,ir119,h]
theorem hasSuffix_lf (s:Str) (hs:s.length<1000000):ansF cfg 159 [.str s,.str [10]] []=some (.bool (decide (s.getLast?=some 10)), []):=by
 refine ans_of_wp fn159 low159 ?_
 rcases List.eq_nil_or_concat s with rfl | ⟨u,x,rfl⟩
 ·simp (maxSteps:=9^9) (disch:=omega) [-List.map_replicate,-List.map_set,-List.getD_eq_getElem?_getD,-getElem?_pos,-getElem?_neg,om,ir159]
 ·have hl:(u++ [x]).length=u.length+1:=by simp
  have hd:((u++ [x]).take (u.length+1)).drop u.length= [x]:=by rw [List.take_of_length_le (by simp),List.drop_left' rfl]
  have hd2:(u++ [x]).drop u.length= [x]:=List.drop_left' rfl
  have hg:decide ((u++ [x]).getLast?=some 10)=(x==10):=by simp;rfl
  have e1:((u.length:Int)+1-1).toNat=u.length:=by omega
  rw [List.concat_eq_append] at*
  rw [hg]
  generalize u++ [x]=s at*
  simp (maxSteps:=9^9) (disch:=omega) [-List.map_replicate,-List.map_set,-List.getD_eq_getElem?_getD,-getElem?_pos,-getElem?_neg,om,ir159,hl,hd,hd2,e1]
theorem ansHasLf (s:Str) (hs:s.length<1000000):ansF cfg 116 [.str s,.str [10]] []=some (.bool (decide (s.getLast?=some 10)), []):=by
 refine ans_of_wp fn116 low116 ?_
 simp (maxSteps:=9^9) (disch:=omega) [-List.map_replicate,-List.map_set,-List.getD_eq_getElem?_getD,-getElem?_pos,-getElem?_neg,om,ir116,hasSuffix_lf s hs]
theorem ansTrimLf (u:Str) (hs:u.length<900000):ansF cfg 118 [.str (u++ [10]),.str [10]] []=some (.str u, []):=by
 have h:ansF cfg 161 [.str (u++ [10]),.str [10]] []=some (.str u, []):=by
  refine ans_of_wp fn161 low161 ?_
  have h1:=hasSuffix_lf (u++ [10]) (by simp;omega)
  rw [show decide ((u++ [(10:UInt8)]).getLast?=some 10)=true by simp] at h1
  have hl:(u++ [(10:UInt8)]).length=u.length+1:=by simp
  have ht:(u++ [(10:UInt8)]).take u.length=u:=List.take_left' rfl
  generalize u++ [(10:UInt8)]=s at*
  simp (maxSteps:=9^9) (disch:=omega) [-List.map_replicate,-List.map_set,-List.getD_eq_getElem?_getD,-getElem?_pos,-getElem?_neg,om,ir161,h1,hl,ht]
 refine ans_of_wp fn118 low118 ?_
 simp (maxSteps:=9^9) (disch:=omega) [-List.map_replicate,-List.map_set,-List.getD_eq_getElem?_getD,-getElem?_pos,-getElem?_neg,om,ir118,h]
theorem index_app {c:UInt8}: ∀{p:List UInt8} (r:List UInt8),c∉p→Lib.indexByte (p++c::r) c=(p.length:Int)
 | [],r,_=>by simp [Lib.indexByte]
 | x::p,r,h=>by
  simp only [List.mem_cons,not_or] at h
  have ih:=index_app r h.2
  have hx:(x==c)=false:=by simpa using Ne.symm h.1
  have hne:(((p.length:Int))== -1)=false:=by
   rw [beq_eq_false_iff_ne];omega
  simp only [List.cons_append,Lib.indexByte,hx,Bool.false_eq_true,if_false,ih,hne,List.length_cons]
  omega
theorem splitB_two {c:UInt8}: ∀{r:List UInt8},2≤(splitB c r).length→ ∃p q,r=p++c::q∧c∉p
 | [],h=>by simp [splitB] at h
 | x::r,h=>by
  by_cases hx:x=c
  ·exact ⟨[],r,by simp [hx],by simp⟩
  ·have h2:2≤(splitB c r).length:=by
    simp only [splitB,if_neg hx] at h
    split at h
    ·rename_i e;rw [e];simpa using h
    ·simp at h
   obtain ⟨p,q,h3,h4⟩:=splitB_two h2
   exact ⟨x::p,q,by rw [h3];rfl,by simp [Ne.symm hx,h4]⟩
theorem splitB_one {c:UInt8} {r:List UInt8} (h:(splitB c r).length=1):splitB c r= [r]:=by
 apply splitB_no
 intro hm
 obtain ⟨p,q,rfl⟩:=List.append_of_mem hm
 rw [splitB_count] at h
 simp at h
theorem strs_set (P:List (List UInt8)) (k:Nat) (x:List UInt8):(P.map AV.str++List.replicate (k+1) (AV.str [])).set P.length (.str x)=(P++ [x]).map AV.str++List.replicate k (AV.str []):=by
 rw [List.replicate_succ,List.set_append_right _ _ (by simp)]
 simp
theorem ansSplitB (s:List UInt8) (c:UInt8) (hs:s.length<100000000):ansF cfg 117 [.str s,.str [c]] []=some (.lst none 1 ((splitB c s).map AV.str), []):=by
 have h1:ansF cfg 160 [.str s,.str [c],.int .i64 0,.int .i64 (-1)] []=some (.lst none 1 ((splitB c s).map AV.str), []):=by
  refine ans_of_wp fn160 low160 ?_
  have hc:=ansCountB s c
  have hN:=splitB_count c s
  have hle:s.count c≤s.length:=List.count_le_length
  generalize s.count c=N at*
  have hmin:((N:Int)+1≤(s.length:Int)+1):=by omega
  simp (maxSteps:=9^9) (disch:=omega) [-List.map_replicate,-List.map_set,-List.getD_eq_getElem?_getD,-getElem?_pos,-getElem?_neg,om,ir160,hc]
  refine Wp.loopM (fun (a:List (List UInt8)×List UInt8)=>N-a.1.length) (fun a=> [some (.str a.2),some (.str [c]),some (.int .i64 0),some (.int .i64 N),none,some (.osl 0 (N+1)),some (.int .i64 a.1.length),none,none,none,none,none,none,none,none,none,none,none,none])
   (fun a=> [.sl ⟨false,some 9,none⟩ 1 (a.1.map AV.str++List.replicate (N+1-a.1.length) (AV.str []))])
   (fun a=>a.1.length≤N∧splitB c s=a.1++splitB c a.2∧a.2.length≤s.length) ?_ ([],s) ⟨by simp,rfl,Nat.le_refl _⟩ (by simp) (by simp)
  rintro ⟨P,r⟩ ⟨hP,hsp,hrl⟩
  simp only at hP hsp hrl⊢
  have hr:(splitB c r).length=N+1-P.length:=by
   have:=congrArg List.length hsp
   rw [List.length_append] at this
   omega
  by_cases hlt:P.length<N
  ·obtain ⟨p,q,rfl,hp⟩:=splitB_two (by rw [hr];omega)
   have hi:=ansIndexB (p++c::q) c (by omega)
   rw [index_app q hp] at hi
   rw [splitB_app q hp] at hsp
   have hk:N+1-P.length=(N-P.length)+1:=by omega
   have hlen:(P.map AV.str++List.replicate (N+1-P.length) (AV.str [])).length=N+1:=by simp;omega
   have hget:(P.map AV.str++List.replicate (N+1-P.length) (AV.str []))[P.length]?=some (.str []):=by
    rw [List.getElem?_append_right (by simp),List.getElem?_replicate,if_pos (by simp;omega)]
   have hset:=strs_set P (N-P.length) p
   rw [←hk] at hset
   have ht:(p++c::q).take p.length=p:=List.take_left' rfl
   have hd:((p++c::q).take (p++c::q).length).drop (p.length+1)=q:=by
    rw [List.take_length,List.drop_append,List.drop_of_length_le (by omega)]
    simp
   have hl:(p++c::q).length=p.length+1+q.length:=by simp;omega
   have hp2:p.length+1≤s.length:=by omega
   generalize P.map AV.str++List.replicate (N+1-P.length) (AV.str [])=L at*
   generalize hR:p++c::q=R at*
   rw [hl] at hd
   simp (maxSteps:=9^9) (disch:=omega) [-List.map_replicate,-List.map_set,-List.getD_eq_getElem?_getD,-getElem?_pos,-getElem?_neg,om,hi,hlen,hget,hset,ht,hd,hl]
   refine ⟨P++ [p],q,⟨by simp;omega,by rw [hsp];simp,by omega⟩,by simp;omega,⟨rfl,by simp⟩,?_⟩
   have e:N+1-(P++ [p]).length=N-P.length:=by simp
   rw [e]
   simp
  ·obtain rfl:P.length=N:=by omega
   have h1:=splitB_one (c:=c) (r:=r) (by rw [hr];omega)
   rw [h1] at hsp
   have hset:=strs_set P 0 r
   have e:P.length+1-P.length=0+1:=by omega
   rw [e,hsp]
   have hlen:(P.map AV.str++List.replicate (0+1) (AV.str [])).length=P.length+1:=by simp
   have hget:(P.map AV.str++List.replicate (0+1) (AV.str []))[P.length]?=some (.str []):=by
    rw [List.getElem?_append_right (by simp),List.getElem?_replicate,if_pos (by simp)]
   generalize P.map AV.str++List.replicate (0+1) (AV.str [])=L at*
   rw [List.replicate_zero,List.append_nil] at hset
   simp (maxSteps:=9^9) (disch:=omega) [-List.map_replicate,-List.map_set,-List.getD_eq_getElem?_getD,-getElem?_pos,-getElem?_neg,om,hlen,hget,hset]
   try exact List.take_of_length_le (by simp)
 refine ans_of_wp fn117 low117 ?_
 simp (config:={maxSteps:=1000000}) (disch:=omega) [-List.map_replicate,-List.map_set,-List.getD_eq_getElem?_getD,-getElem?_pos,-getElem?_neg,wrap_i64,le_strLim,le_sliceLim,le_buildLim,le_sliceLimI,ir117,h1]
theorem ansUnP2 (s:Str) (hs:s.length<190000): ∃(t:Str) (q:Bool),ansF cfg 121 [.str s] []=some (.tup [.str t,.bool q], [])∧unesc s=(if q=true then some t else none):=by
 have h:=ansUnP s hs
 rw [unescA_eq] at h
 cases hu:unesc s with
 | none=>rw [hu] at h;exact ⟨[],false,h,rfl⟩
 | some t=>rw [hu] at h;exact ⟨t,true,h,rfl⟩
def factA:Option (Nat×Str)→AV
 | some (n,t)=> .tup [.agg [.int .i64 n,.str [],.str t],.bool true]
 | none=> .tup [.agg [.int .i64 0,.str [],.str []],.bool false]
theorem ansFact (line:Str) (hl:line.length<190000):ansF cfg 122 [.str line] []=some (factA (factP unesc line), []):=by
 refine ans_of_wp fn122 low122 ?_
 have h1:=ansCut line (by omega)
 unfold cutA at h1
 unfold factP
 cases hc:cutB line with
 | none=>
  rw [hc] at h1
  obtain ⟨v,b,h2,_,_⟩:=ansParse16 line (by omega)
  obtain ⟨t,q,h3,_⟩:=ansUnP2 [] (by simp)
  simp (maxSteps:=9^9) (disch:=omega) [-List.map_replicate,-List.map_set,-List.getD_eq_getElem?_getD,-getElem?_pos,-getElem?_neg,om,ir122,h1,h2,h3,splice,factA]
 | some p=>
  obtain ⟨num,rest⟩:=p
  rw [hc] at h1
  obtain ⟨e1,_⟩:=cutB_some hc
  have hn:num.length<190000:=by rw [e1] at hl;simp at hl;omega
  have hr:rest.length<190000:=by rw [e1] at hl;simp at hl;omega
  obtain ⟨v,b,h2,e2,hv⟩:=ansParse16 num (by omega)
  obtain ⟨t,q,h3,e3⟩:=ansUnP2 rest hr
  simp only [e2,e3]
  clear hc e1 hl e3
  cases b with
  | true=>simp (maxSteps:=9^9) (disch:=omega) [-List.map_replicate,-List.map_set,-List.getD_eq_getElem?_getD,-getElem?_pos,-getElem?_neg,om,ir122,h1,h2,h3,splice,factA]
  | false=>
   cases q with
   | false=>simp (maxSteps:=9^9) (disch:=omega) [-List.map_replicate,-List.map_set,-List.getD_eq_getElem?_getD,-getElem?_pos,-getElem?_neg,om,ir122,h1,h2,h3,splice,factA]
   | true=>
    have hne:num≠ []:=by rintro rfl;simp [parse16] at e2
    match num,hne with
    | c::num',_=>
     by_cases g1:t= []
     ·subst g1;simp (maxSteps:=9^9) (disch:=omega) [-List.map_replicate,-List.map_set,-List.getD_eq_getElem?_getD,-getElem?_pos,-getElem?_neg,om,ir122,h1,h2,h3,splice,factA]
     by_cases g2:c=48
     ·subst g2;simp (maxSteps:=9^9) (disch:=omega) [-List.map_replicate,-List.map_set,-List.getD_eq_getElem?_getD,-getElem?_pos,-getElem?_neg,om,ir122,h1,h2,h3,splice,factA,List.getD_cons_zero,g1,ofByte]
     have g2': ¬ ((c.toNat:Int)=48):=fun h=>g2 (UInt8.toNat_inj.mp (by show _=48;omega))
     have w1:(t== [])=false:=by simpa using g1
     have hw:IntKind.i64.wrap (v:Int)=v:=wrap_i64 (by omega) (by omega)
     by_cases g3:64<v
     ·simp (maxSteps:=9^9) (disch:=omega) [-List.map_replicate,-List.map_set,-List.getD_eq_getElem?_getD,-getElem?_pos,-getElem?_neg,om,ir122,h1,h2,h3,splice,factA,List.getD_cons_zero,g1,g2,g2',g3,ofByte,w1,hw]
     ·simp (maxSteps:=9^9) (disch:=omega) [-List.map_replicate,-List.map_set,-List.getD_eq_getElem?_getD,-getElem?_pos,-getElem?_neg,om,ir122,h1,h2,h3,splice,factA,List.getD_cons_zero,g1,g2,g2',g3,ofByte,w1,hw]
theorem ansCmpC (a b:Cell):ansF cfg 44 [clA a,clA b] []=some (.int .i64 (cmpC a b), []):=by
 refine ans_of_wp fn44 low44 ?_
 have c1:=ansCmpI a.1 b.1
 have c2:=ansCmpI a.2 b.2
 have c3:=ansOr2 none (cmpI a.1 b.1) (cmpI a.2 b.2)
 have e:cmpC a b=if cmpI a.1 b.1=0 then cmpI a.2 b.2 else cmpI a.1 b.1:=rfl
 rw [e]
 unfold clA
 generalize (if cmpI a.1 b.1=0 then cmpI a.2 b.2 else cmpI a.1 b.1)=r at*
 generalize cmpI a.1 b.1=r1 at*
 generalize cmpI a.2 b.2=r2 at*
 simp (maxSteps:=9^9) (disch:=omega) [-List.map_replicate,-List.map_set,-List.getD_eq_getElem?_getD,-getElem?_pos,-getElem?_neg,om,ir44,c1,c2,c3]
theorem ansGet1 (r:Cell×Str) (x:Cell):ansF cfg 115 [rdA r,clA x] []=some (.int .i64 (cmpC r.1 x), []):=by
 refine ans_of_wp fn115 low115 ?_
 have c1:=ansCmpC r.1 x
 unfold rdA
 unfold clA at*
 simp (maxSteps:=9^9) (disch:=omega) [-List.map_replicate,-List.map_set,-List.getD_eq_getElem?_getD,-getElem?_pos,-getElem?_neg,om,ir115,c1]
theorem inc_get {l:List (Cell×Str)} (h:IncC (l.map Prod.fst)): ∀(i j:Nat) (a b:Cell×Str),i<j→l[i]?=some a→l[j]?=some b→befC a.1 b.1=true:=by
 induction l with
 | nil=>intro i j a b _ h1;cases h1
 | cons x r ih=>
  intro i j a b hij h1 h2
  cases i with
  | zero=>
   cases h1
   cases j with
   | zero=>omega
   | succ j=>exact h.1 b.1 (List.mem_map.2 ⟨b,List.mem_of_getElem? (by simpa using h2),rfl⟩)
  | succ i=>
   cases j with
   | zero=>omega
   | succ j=>exact ih h.2 i j a b (by omega) (by simpa using h1) (by simpa using h2)
structure Cut (l:List (Cell×Str)) (c:Cell) (i j:Nat):Prop where
 lo: ∀k r,k<i→l[k]?=some r→befC r.1 c=true
 hi: ∀k r,j≤k→l[k]?=some r→ ¬ befC r.1 c=true
theorem Cut.left {l:List (Cell×Str)} {c:Cell} {i j h:Nat} (hc:Cut l c i j) (hi:IncC (l.map Prod.fst)) {r:Cell×Str} (hr:l[h]?=some r) (hb:befC r.1 c=true):Cut l c (h+1) j:=⟨fun k q hk hq=>by
  by_cases e:k=h
  ·subst e;rw [hr] at hq;cases hq;exact hb
  ·exact befC_trans (inc_get hi k h q r (by omega) hq hr) hb,hc.hi⟩
theorem Cut.right {l:List (Cell×Str)} {c:Cell} {i j h:Nat} (hc:Cut l c i j) (hi:IncC (l.map Prod.fst)) {r:Cell×Str} (hr:l[h]?=some r) (hb: ¬ befC r.1 c=true):Cut l c i h:=⟨hc.lo,fun k q hk hq=>by
  by_cases e:k=h
  ·subst e;rw [hr] at hq;cases hq;exact hb
  ·exact fun hq2=>hb (befC_trans (inc_get hi h k r q (by omega) hr hq) hq2)⟩
theorem ansSearch (nl:Option Bool) (z:Nat) (l:List (Cell×Str)) (hz:l≠ []→z=3) (hl:l.length<1000000) (hi:IncC (l.map Prod.fst)) (c:Cell):
  ∃i:Nat,ansF cfg 114 [.lst nl z (rdsA l),clA c,.fn 115 [] []] []=some (.tup [.int .i64 i,.bool (lookC l c).isSome], [])∧ ∀t,lookC l c=some t→i<l.length∧ ∃r,l[i]?=some r∧r.2=t:=by
 obtain ⟨i0,hi0,hl0⟩: ∃i0,i0≤l.length∧Cut l c i0 i0:=by
  have: ∀n,n≤l.length→ ∃i0,i0≤l.length∧(∀k r,k<i0→l[k]?=some r→befC r.1 c=true)∧(i0<l.length→n≤i0∨ ∃r,l[i0]?=some r∧ ¬ befC r.1 c=true):=by
   intro n
   induction n with
   | zero=>exact fun _=>⟨0,by omega,fun k r hk=>by omega,fun _=> .inl (by omega)⟩
   | succ n ih=>
    intro hn
    obtain ⟨i0,h1,h2,h3⟩:=ih (by omega)
    by_cases hlt:i0<l.length
    ·rcases h3 hlt with h4 | h4
     ·have hr:l[i0]?=some l[i0]:=List.getElem?_eq_getElem hlt
      by_cases hb:befC l[i0].1 c=true
      ·refine ⟨i0+1,by omega,fun k r hk hq=> ?_,fun _=> .inl (by omega)⟩
       by_cases e:k=i0
       ·subst e;rw [hr] at hq;cases hq;exact hb
       ·exact h2 k r (by omega) hq
      ·exact ⟨i0,h1,h2,fun _=> .inr ⟨_,hr,hb⟩⟩
     ·exact ⟨i0,h1,h2,fun _=> .inr h4⟩
    ·exact ⟨i0,h1,h2,fun h=>absurd h hlt⟩
  obtain ⟨i0,h1,h2,h3⟩:=this l.length (Nat.le_refl _)
  refine ⟨i0,h1,h2,fun k r hk hq=> ?_⟩
  have hkl:k<l.length:=by
   rcases Nat.lt_or_ge k l.length with h | h
   ·exact h
   ·rw [List.getElem?_eq_none h] at hq;cases hq
  rcases h3 (by omega) with h4 | ⟨r0,h4,h5⟩
  ·omega
  ·by_cases e:k=i0
   ·subst e;rw [h4] at hq;cases hq;exact h5
   ·exact fun hb=>h5 (befC_trans (inc_get hi i0 k r0 r (by omega) h4 hq) hb)
 have hat:=look_at l i0 hi hl0.lo hl0.hi
 refine ⟨i0,?_,fun t ht=> ?_⟩
 case refine_2=>
  rw [ht] at hat
  cases hr:l[i0]? with
  | none=>rw [hr] at hat;cases hat
  | some r=>
   rw [hr] at hat
   simp only at hat
   split at hat
   ·cases hat
    refine ⟨?_,r,rfl,rfl⟩
    rcases Nat.lt_or_ge i0 l.length with h | h
    ·exact h
    ·rw [List.getElem?_eq_none h] at hr;cases hr
   ·cases hat
 refine ans_of_wp fn114 low114 ?_
 have hE: ∀k (h:k<l.length),(rdsA l)[k]?=some (.agg [.int .i64 l[k].1.1,.int .i64 l[k].1.2,.str l[k].2]):=fun k h=>get_map _ _ h
 have hEl:(rdsA l).length=l.length:=by simp [rdsA]
 generalize rdsA l=E at*
 have hg1:=fun r=>ansGet1 r c
 unfold rdA at hg1
 unfold clA at*
 simp (maxSteps:=9^9) (disch:=omega) [-List.map_replicate,-List.map_set,-List.getD_eq_getElem?_getD,-getElem?_pos,-getElem?_neg,om,ir114,hEl]
 refine Wp.loopM (fun (a:Nat×Nat)=>a.2-a.1) (fun a=> [some (.lst nl z E),none,some (.fn 115 [] []),some (.ptr 0 0),none,none,some (.int .i64 l.length),some (.int .i64 a.1),some (.int .i64 a.2),none,none,none,none,none]) (fun _=> [.var 28 [.int .i64 c.1,.int .i64 c.2]]) (fun a=>a.1≤i0∧i0≤a.2∧a.2≤l.length) ?_ (0,l.length) ⟨by simp,hi0,by simp⟩ (by simp) rfl
 rintro ⟨i,j⟩ ⟨h1,h2,h3⟩
 simp only at h1 h2 h3⊢
 by_cases hij:i<j
 ·obtain ⟨h,hdef⟩: ∃h,h=(i+j) / 2:=⟨_,rfl⟩
  have hh:h<l.length:=by omega
  have hgh:=hE h hh
  obtain rfl:=hz (ne_of_lt hh)
  have hr:l[h]?=some l[h]:=List.getElem?_eq_getElem hh
  have hgc:=hg1 l[h]
  have hlt:=cmpC_lt l[h].1 c
  have hd1:h<i0→befC l[h].1 c=true:=fun q=>hl0.lo _ _ q hr
  have hd2:i0≤h→ ¬ befC l[h].1 c=true:=fun q=>hl0.hi _ _ q hr
  generalize l[h]=r at*
  have w1:IntKind.u64.wrap ((i:Int)+(j:Int))=(i:Int)+(j:Int):=by show ((i:Int)+(j:Int))%18446744073709551616=_;omega
  have w2:IntKind.i64.wrap ((i:Int)+(j:Int))=(i:Int)+(j:Int):=wrap_i64 (by omega) (by omega)
  have w3:((i:Int)+(j:Int)).fdiv (2^min 1 IntKind.u64.bits)=(h:Int):=by
   show ((i:Int)+(j:Int)).fdiv 2=(h:Int)
   rw [Int.fdiv_eq_ediv_of_nonneg _ (by omega)];omega
  have w4:IntKind.i64.wrap (h:Int)=(h:Int):=wrap_i64 (by omega) (by omega)
  have b1:i≤h:=by omega
  have b2:h<j:=by omega
  clear hE hg1 hr hdef
  obtain ⟨⟨r1,r2⟩,t⟩:=r
  simp only at*
  generalize cmpC (r1,r2) c=cc at*
  by_cases hcc:cc<0
  ·have hb:=hlt.1 hcc
   simp (maxSteps:=9^9) (disch:=omega) [-List.map_replicate,-List.map_set,-List.getD_eq_getElem?_getD,-getElem?_pos,-getElem?_neg,om,hij,hgh,hEl,w1,w2,w3,w4,hgc,hcc]
   refine ⟨h+1,j,⟨?_,by omega,by omega⟩,by omega,by simp⟩
   rcases Nat.lt_or_ge h i0 with q | q
   ·omega
   ·exact absurd hb (hd2 q)
  ·simp (maxSteps:=9^9) (disch:=omega) [-List.map_replicate,-List.map_set,-List.getD_eq_getElem?_getD,-getElem?_pos,-getElem?_neg,om,hij,hgh,hEl,w1,w2,w3,w4,hgc,hcc]
   refine ⟨i,h,⟨by omega,?_,by omega⟩,by omega,by simp⟩
   rcases Nat.lt_or_ge h i0 with q | q
   ·exact absurd (hlt.2 (hd1 q)) hcc
   ·exact q
 ·obtain rfl:j=i0:=by omega
  obtain rfl:i=j:=by omega
  by_cases hlt:i<l.length
  ·have hgh:=hE i hlt
   obtain rfl:=hz (ne_of_lt hlt)
   have hr:l[i]?=some l[i]:=List.getElem?_eq_getElem hlt
   have hgc:=hg1 l[i]
   have hz0:=cmpC_zero l[i].1 c
   rw [hr] at hat
   generalize l[i]=r at*
   clear hE hg1 hr
   obtain ⟨⟨r1,r2⟩,t⟩:=r
   simp only at*
   rw [hat]
   generalize cmpC (r1,r2) c=cc at*
   by_cases hcc:cc=0
   ·rw [if_pos (hz0.1 hcc)]
    simp (maxSteps:=9^9) (disch:=omega) [-List.map_replicate,-List.map_set,-List.getD_eq_getElem?_getD,-getElem?_pos,-getElem?_neg,om,hlt,hgh,hEl,hgc,hcc]
   ·rw [if_neg (fun q=>hcc (hz0.2 q))]
    have hcc2:(cc==0)=false:=by simpa using hcc
    simp (maxSteps:=9^9) (disch:=omega) [-List.map_replicate,-List.map_set,-List.getD_eq_getElem?_getD,-getElem?_pos,-getElem?_neg,om,hlt,hgh,hEl,hgc,hcc,hcc2]
  ·rw [List.getElem?_eq_none (by omega)] at hat
   rw [hat]
   simp (maxSteps:=9^9) (disch:=omega) [-List.map_replicate,-List.map_set,-List.getD_eq_getElem?_getD,-getElem?_pos,-getElem?_neg,om,hlt,hEl]
theorem ansGet {B:List Box} {k:Nat} {nl:Option Bool} {z:Nat} {l:List (Cell×Str)} {lk:Bool} (hB:Box.at B k= .var 102 [.lst nl z (rdsA l),.bool lk]) (hk:k<B.length) (hs:shut B.length B=true) (hz:l≠ []→z=3) (hl:l.length<1000000) (hi:IncC (l.map Prod.fst)) (kd u:Int):
  ansF cfg 63 [.ptr k 0,.int .i64 kd,.int .i64 u] B=some (.str ((lookC l (kd,u)).getD []),B.set k (.var 102 [.lst nl z (rdsA l),.bool (lk || (lookC l (kd,u)).isNone)])):=by
 refine ans_of_wp fn63 low63 ?_
 obtain ⟨i,h1,h2⟩:=ansSearch nl z l hz hl hi (kd,u)
 unfold clA at h1
 simp only at h1
 have hE: ∀k (h:k<l.length),(rdsA l)[k]?=some (.agg [.int .i64 l[k].1.1,.int .i64 l[k].1.2,.str l[k].2]):=fun k h=>get_map _ _ h
 have hEl:(rdsA l).length=l.length:=by simp [rdsA]
 have hpl:=plain_rdsA l
 have hm:=shut_map (Nat.le_refl B.length) hs
 have hks:=shut_set k hs (x:= .var 102 [.lst nl z (rdsA l),.bool true]) (by simp [shut,underAll,AV.under])
 have hm2:=shut_map (Nat.le_refl B.length) hks
 cases hq:lookC l (kd,u) with
 | none=>
  rw [hq] at h1
  generalize rdsA l=E at*
  have e1:(lk || (none:Option Str).isNone)=true:=by simp
  rw [e1]
  simp (maxSteps:=9^9) (disch:=omega) [-List.map_replicate,-List.map_set,-List.getD_eq_getElem?_getD,-getElem?_pos,-getElem?_neg,om,ir63,hB,hk,h1,hm,hm2,hpl,splice]
 | some t=>
  rw [hq] at h1
  obtain ⟨h3,r,h4,h5⟩:=h2 t hq
  have hgi:=hE i h3
  obtain rfl:=hz (ne_of_lt h3)
  have hri:l[i]=r:=by rw [List.getElem?_eq_getElem h3] at h4;cases h4;rfl
  rw [hri] at hgi
  have e:B.set k (.var 102 [.lst nl 3 (rdsA l),.bool (lk || (some t).isNone)])=B:=by
   have e1:(lk || (some t).isNone)=lk:=by simp
   rw [e1,←hB]
   apply List.ext_getElem?
   intro i
   by_cases hi:i=k
   ·subst hi;simp [Box.at,hk,List.getD_eq_getElem?_getD]
   ·rw [List.getElem?_set_ne (Ne.symm hi)]
  rw [e]
  generalize rdsA l=E at*
  clear h2 hE h4 hri e
  subst h5
  simp (maxSteps:=9^9) (disch:=omega) [-List.map_replicate,-List.map_set,-List.getD_eq_getElem?_getD,-getElem?_pos,-getElem?_neg,om,ir63,hB,hk,h1,hm,hgi,hpl,splice]
set_option maxHeartbeats 8000000
def pfA (f:Nat×Str):AV:= .agg [.int .i64 f.1,.str [],.str f.2]
theorem tagIx_idx (w:Str):idxS w [[102,111,110,100,115], [115,101,114,105,101,115], [102,105,108,101], [105,116,101,109]] 0+1=(tagIx w:Int):=by
 unfold tagIx
 have t1:tagN 1= [102,111,110,100,115]:=rfl
 have t2:tagN 2= [115,101,114,105,101,115]:=rfl
 have t3:tagN 3= [102,105,108,101]:=rfl
 have t4:tagN 4= [105,116,101,109]:=rfl
 rw [t1,t2,t3,t4]
 simp only [idxS,beq_iff_eq]
 repeat' split
 all_goals rfl
theorem tagIx_le (w:Str):tagIx w≤4:=by
 unfold tagIx
 repeat' split
 all_goals omega
def shtGo:List (Nat×Str)→List Str→List (Nat×Str)×Bool
 | acc, []=>(acc,true)
 | acc,l::r=>match factP unesc l with
  | some (n,t)=>(match acc.getLast? with
   | some q=>if n≤q.1 then (acc,false) else shtGo (acc++ [(n,t)]) r
   | none=>shtGo (acc++ [(n,t)]) r)
  | none=>(acc,false)
theorem factP_pos {l:Str} {n:Nat} {t:Str} (h:factP unesc l=some (n,t)):1≤n:=by
 unfold factP at h
 split at h
 ·rename_i num rest hc
  split at h
  ·rename_i n' t' hp hu
   split at h
   ·cases h
   ·rename_i hn
    cases h
    exact (dec2_of hp (fun h0=>hn (.inr (.inl h0))) (by omega)).2
  ·cases h
 ·cases h
theorem shtGo_pre: ∀(r:List Str) (acc:List (Nat×Str)),∃m,(shtGo acc r).1=acc++m
 | [],acc=>⟨[],by simp [shtGo]⟩
 | l::r,acc=>by
  unfold shtGo
  cases factP unesc l with
  | none=>exact ⟨[],by simp⟩
  | some p=>
   obtain ⟨n,t⟩:=p
   obtain ⟨m,hm⟩:=shtGo_pre r (acc++ [(n,t)])
   simp only
   cases acc.getLast? with
   | none=>exact ⟨(n,t)::m,by simp only;rw [hm];simp⟩
   | some q=>
    simp only
    split
    ·exact ⟨[],by simp⟩
    ·exact ⟨(n,t)::m,by rw [hm];simp⟩
theorem shtGo_is: ∀(r:List Str) (acc:List (Nat×Str)),factsP unesc (match acc.getLast? with | some q=>q.1 | none=>0) r=if (shtGo acc r).2=true then some ((shtGo acc r).1.drop acc.length) else none
 | [],acc=>by simp [factsP,shtGo]
 | l::r,acc=>by
  unfold factsP shtGo
  cases hf:factP unesc l with
  | none=>simp
  | some p=>
   obtain ⟨n,t⟩:=p
   have hp:=factP_pos hf
   have ih:=shtGo_is r (acc++ [(n,t)])
   rw [List.getLast?_concat] at ih
   simp only at ih⊢
   obtain ⟨m,hm⟩:=shtGo_pre r (acc++ [(n,t)])
   have hstep:(factsP unesc n r).map ((n,t):: ·)=if (shtGo (acc++ [(n,t)]) r).2=true then some ((shtGo (acc++ [(n,t)]) r).1.drop acc.length) else none:=by
    rw [ih,hm]
    cases (shtGo (acc++ [(n,t)]) r).2 <;> simp
   cases hq:acc.getLast? with
   | none=>
    simp only
    rw [if_neg (by omega)]
    exact hstep
   | some q=>
    simp only
    by_cases hn:n≤q.1
    ·rw [if_pos hn,if_pos hn];simp
    ·rw [if_neg hn,if_neg hn];exact hstep
theorem ansSheetD (v:Str) (hv:v.length<900000) (hl: ∀p∈splitB 10 v.dropLast,p.length<190000):
  ∃(lev:Nat) (mark title:Str) (facts:List (Nat×Str)) (b:Bool),ansF cfg 64 [.str v] []=some (.tup [.agg [.int .i64 0,.int .i64 0,.int .i64 lev,.str mark,.str title,.lst none 3 (facts.map pfA)],.bool b], [])∧sheetP unesc v=(if b=true then some ⟨lev,title,mark,facts⟩ else none)∧(b=true→1≤lev∧lev≤4):=by
 have h1:=ansHasLf v (by omega)
 unfold sheetP linesP
 by_cases hlf:v.getLast?=some 10
 case neg=>
  rw [if_neg hlf]
  rw [show decide (v.getLast?=some 10)=false by simpa using hlf] at h1
  refine ⟨0, [], [], [],false,ans_of_wp fn64 low64 ?_,rfl,by simp⟩
  simp (maxSteps:=9^9) (disch:=omega) [-List.map_replicate,-List.map_set,-List.getD_eq_getElem?_getD,-getElem?_pos,-getElem?_neg,om,ir64,h1,splice]
 rw [if_pos hlf]
 rw [show decide (v.getLast?=some 10)=true by simpa using hlf] at h1
 obtain ⟨u,rfl⟩: ∃u,v=u++ [10]:=by
  rcases List.eq_nil_or_concat v with rfl | ⟨u,x,rfl⟩
  ·simp at hlf
  ·rw [List.concat_eq_append] at hlf⊢
   simp at hlf
   exact ⟨u,by rw [hlf]⟩
 rw [List.dropLast_concat] at hl⊢
 have hul:u.length<900000:=by simp at hv;omega
 have h2:=ansTrimLf u hul
 have h3:=ansSplitB u 10 (by omega)
 have hPl:(splitB 10 u).length<1000000:=by
  have h:=splitB_count 10 u
  have h2:u.count 10≤u.length:=List.count_le_length
  omega
 generalize splitB 10 u=P at*
 generalize u++ [10]=v at*
 clear hlf hv hul
 match P,hl,hPl with
 | [],_,_=>
  refine ⟨0, [], [], [],false,ans_of_wp fn64 low64 ?_,rfl,by simp⟩
  simp (maxSteps:=9^9) (disch:=omega) [-List.map_replicate,-List.map_set,-List.getD_eq_getElem?_getD,-getElem?_pos,-getElem?_neg,om,ir64,h1,h2,h3,splice]
 | [a],_,_=>
  refine ⟨0, [], [], [],false,ans_of_wp fn64 low64 ?_,rfl,by simp⟩
  simp (maxSteps:=9^9) (disch:=omega) [-List.map_replicate,-List.map_set,-List.getD_eq_getElem?_getD,-getElem?_pos,-getElem?_neg,om,ir64,h1,h2,h3,splice]
 | a::b::r,hl,hPl=>
  have ha:=hl a (by simp)
  have hb:=hl b (by simp)
  have c1:=ansCut a (by omega)
  have c2:=ansCut b (by omega)
  unfold cutA at c1 c2
  have htag: ∀w nl,ansF cfg 107 [.lst nl 1 [.str [102,111,110,100,115],.str [115,101,114,105,101,115],.str [102,105,108,101],.str [105,116,101,109]],.str w] []=some (.int .i64 ((tagIx w:Int)-1), []):=fun w nl=>by
   have h:=ansIndexS nl 1 [[102,111,110,100,115], [115,101,114,105,101,115], [102,105,108,101], [105,116,101,109]] (fun _=>rfl) (by simp) w
   have e:=tagIx_idx w
   rw [show idxS w [[102,111,110,100,115], [115,101,114,105,101,115], [102,105,108,101], [105,116,101,109]] 0=(tagIx w:Int)-1 by omega] at h
   exact h
  have ht4:=tagIx_le
  cases hca:cutB a with
  | none=>
   obtain ⟨t0,q0,u0,_⟩:=ansUnP2 [] (by simp)
   have hd:headP unesc a=none:=by unfold headP;rw [hca]
   refine ⟨tagIx a, [], [], [],false,ans_of_wp fn64 low64 ?_,by simp [sheetL,hd],by simp⟩
   rw [hca] at c1
   simp only at c1
   have hT:=htag a
   have hT4:=ht4 a
   clear htag ht4 c2 hd
   generalize tagIx a=T at*
   simp (maxSteps:=9^9) (disch:=omega) [-List.map_replicate,-List.map_set,-List.getD_eq_getElem?_getD,-getElem?_pos,-getElem?_neg,om,ir64,h1,h2,h3,c1,hT,u0,fieldsG,tags_fields,splice]
  | some p=>
   obtain ⟨w,ra⟩:=p
   rw [hca] at c1
   simp only at c1
   obtain ⟨e1,_⟩:=cutB_some hca
   have hra:ra.length<190000:=by rw [e1] at ha;simp at ha;omega
   obtain ⟨t,q,u1,u2⟩:=ansUnP2 ra hra
   have hd:headP unesc a=if q=true∧tagIx w≠0∧t≠ [] then some (tagIx w,t) else none:=by
    unfold headP
    rw [hca]
    simp only [u2]
    cases q with
    | false=>simp
    | true=>
     simp only [if_true]
     by_cases g1:tagIx w=0
     ·simp [g1]
     ·by_cases g2:t= []
      ·simp [g2]
      ·simp [g1,g2]
   have hT:=htag w
   have hT4:=ht4 w
   clear htag ht4 hca e1 u2
   generalize tagIx w=T at*
   by_cases g:q=true∧T≠0∧t≠ []
   case neg=>
    rw [if_neg g] at hd
    refine ⟨T, [], [], [],false,ans_of_wp fn64 low64 ?_,by simp [sheetL,hd],by simp⟩
    clear c2 hd
    cases q with
    | false=>simp (maxSteps:=9^9) (disch:=omega) [-List.map_replicate,-List.map_set,-List.getD_eq_getElem?_getD,-getElem?_pos,-getElem?_neg,om,ir64,h1,h2,h3,c1,hT,u1,fieldsG,tags_fields,splice]
    | true=>
     by_cases g1:T=0
     ·subst g1
      simp (maxSteps:=9^9) (disch:=omega) [-List.map_replicate,-List.map_set,-List.getD_eq_getElem?_getD,-getElem?_pos,-getElem?_neg,om,ir64,h1,h2,h3,c1,hT,u1,fieldsG,tags_fields,splice]
     ·have g2:t= []:=by
       by_cases g2:t= []
       ·exact g2
       ·exact absurd ⟨rfl,g1,g2⟩ g
      subst g2
      simp (maxSteps:=9^9) (disch:=omega) [-List.map_replicate,-List.map_set,-List.getD_eq_getElem?_getD,-getElem?_pos,-getElem?_neg,om,ir64,h1,h2,h3,c1,hT,u1,g1,fieldsG,tags_fields,splice]
   rw [if_pos g] at hd
   obtain ⟨rfl,g1,g2⟩:=g
   cases hcb:cutB b with
   | none=>
    obtain ⟨t0,q0,u0,_⟩:=ansUnP2 [] (by simp)
    have hm:markP unesc b=none:=by unfold markP;rw [hcb]
    rw [hcb] at c2
    simp only at c2
    refine ⟨T,t0,t, [],false,ans_of_wp fn64 low64 ?_,by simp [sheetL,hd,hm],by simp⟩
    clear hd hm hcb
    simp (maxSteps:=9^9) (disch:=omega) [-List.map_replicate,-List.map_set,-List.getD_eq_getElem?_getD,-getElem?_pos,-getElem?_neg,om,ir64,h1,h2,h3,c1,c2,hT,u1,u0,g1,g2,fieldsG,tags_fields,splice]
   | some p=>
    obtain ⟨w2,rb⟩:=p
    rw [hcb] at c2
    simp only at c2
    obtain ⟨e1,_⟩:=cutB_some hcb
    have hrb:rb.length<190000:=by rw [e1] at hb;simp at hb;omega
    obtain ⟨m,q2,v1,v2⟩:=ansUnP2 rb hrb
    have hm:markP unesc b=if q2=true∧w2=markS then some m else none:=by
     unfold markP
     rw [hcb]
     simp only [v2]
     by_cases g3:w2=markS
     ·cases q2 <;> simp [g3]
     ·simp [g3]
    clear hcb e1 v2
    by_cases g:q2=true∧w2=markS
    case neg=>
     rw [if_neg g] at hm
     refine ⟨T,m,t, [],false,ans_of_wp fn64 low64 ?_,by simp [sheetL,hd,hm],by simp⟩
     clear hd hm
     cases q2 with
     | false=>simp (maxSteps:=9^9) (disch:=omega) [-List.map_replicate,-List.map_set,-List.getD_eq_getElem?_getD,-getElem?_pos,-getElem?_neg,om,ir64,h1,h2,h3,c1,c2,hT,u1,v1,g1,g2,fieldsG,tags_fields,splice]
     | true=>
      have g4: ¬ w2= [109,97,114,107]:=fun h=>g ⟨rfl,h⟩
      have g5:(w2 != [109,97,114,107])=true:=by simpa using g4
      simp (maxSteps:=9^9) (disch:=omega) [-List.map_replicate,-List.map_set,-List.getD_eq_getElem?_getD,-getElem?_pos,-getElem?_neg,om,ir64,h1,h2,h3,c1,c2,hT,u1,v1,g1,g2,g4,g5,fieldsG,tags_fields,splice]
    rw [if_pos g] at hm
    obtain ⟨rfl,rfl⟩:=g
    have hfr: ∀p∈r,p.length<190000:=fun p hp=>hl p (by simp [hp])
    have hls:(strA (a::b::r)).length=r.length+2:=by simp
    have hdr:(strA (a::b::r)).drop 2=strA r:=rfl
    have hT1:1≤T:=by omega
    suffices H: ∃(facts:List (Nat×Str)) (ok:Bool),ansF cfg 64 [.str v] []=some (.tup [.agg [.int .i64 0,.int .i64 0,.int .i64 T,.str m,.str t,.lst none 3 (facts.map pfA)],.bool ok], [])∧factsP unesc 0 r=if ok=true then some facts else none by
     obtain ⟨facts,ok,k1,k2⟩:=H
     refine ⟨T,m,t,facts,ok,k1,?_,fun _=>⟨hT1,hT4⟩⟩
     simp only [sheetL,hd,hm,k2]
     cases ok <;> rfl
    clear hd hm
    have hbr:r.length<1000000:=by simp at hPl;omega
    rw [show markS= [109,97,114,107] from rfl] at c2
    clear ha hb hl hra hrb
    have hgi:=shtGo_is r []
    refine ⟨(shtGo [] r).1,(shtGo [] r).2,ans_of_wp fn64 low64 ?_,by simpa using hgi⟩
    clear hgi
    have hE: ∀k (h:k<r.length),(strA r)[k]?=some (.str r[k]):=fun k h=>by simp [strA,h]
    have hrl:=strA_len r
    generalize hG:shtGo [] r=G at*
    simp (maxSteps:=9^9) (disch:=omega) [-List.map_replicate,-List.map_set,-List.getD_eq_getElem?_getD,-getElem?_pos,-getElem?_neg,om,ir64,h1,h2,h3,c1,c2,hT,u1,v1,g1,g2,hls,hdr,fieldsG,tags_fields,splice]
    clear h1 h2 h3 c1 c2 hT u1 v1 hls hdr
    refine Wp.loopM (fun (a:Nat×List (Nat×Str))=>r.length-a.1) (fun a=> [none,some (.ptr 0 0),none,some (.ptr 2 0),none,none,none,none,none,none,none,none,none,none,none,none,none,none,none,none,none,none,none,none,none,none,none,none,none,some (.lst none 1 (strA r)),some (.int .i64 r.length),some (.int .i64 a.1),none,none,none,none,none,none]) (fun a=> [.var 73 [.int .i64 0,.int .i64 0,.int .i64 0,.str [],.str [],.osl 1 0],.sl ⟨false,some 79,none⟩ 3 [],.var 73 [.int .i64 0,.int .i64 0,.int .i64 T,.str m,.str t,.osl 3 a.2.length],.sl ⟨false,some 79,none⟩ 3 (a.2.map pfA),.sl ⟨false,some 9,none⟩ 1 [.str [102,111,110,100,115],.str [115,101,114,105,101,115],.str [102,105,108,101],.str [105,116,101,109]]])
     (fun a=>G=shtGo a.2 (r.drop a.1)∧a.1≤r.length∧a.2.length≤a.1) ?_ (0, []) ⟨by simpa using hG.symm,by simp,by simp⟩ (by simp [strA];exact List.take_of_length_le (by simp)) (by simp)
    rintro ⟨i,acc⟩ ⟨hi,hil,hal⟩
    simp only at hi hil hal⊢
    rw [hi]
    clear hi hG
    by_cases q1:i<r.length
    ·have hg:=hE i q1
     have hfa:=ansFact r[i] (hfr _ (List.getElem_mem q1))
     rw [List.drop_eq_getElem_cons q1]
     simp only [shtGo]
     have hml:(acc.map pfA).length=acc.length:=by simp
     generalize r[i]=line at*
     clear hE hfr
     cases hf:factP unesc line with
     | none=>
      rw [hf] at hfa
      unfold factA at hfa
      simp only at hfa⊢
      simp (maxSteps:=9^9) (disch:=omega) [-List.map_replicate,-List.map_set,-List.getD_eq_getElem?_getD,-getElem?_pos,-getElem?_neg,om,q1,hg,hfa,splice,hml,hrl]
     | some p=>
      obtain ⟨n,x⟩:=p
      rw [hf] at hfa
      unfold factA at hfa
      simp only at hfa⊢
      rcases List.eq_nil_or_concat acc with rfl | ⟨acc',q,rfl⟩
      ·simp only [List.getLast?_nil]
       simp (maxSteps:=9^9) (disch:=omega) [-List.map_replicate,-List.map_set,-List.getD_eq_getElem?_getD,-getElem?_pos,-getElem?_neg,om,q1,hg,hfa,splice,hrl]
       exact ⟨i+1, [(n,x)],⟨rfl,by omega,by simp⟩,by omega,by simp,by simp,by simp [pfA]⟩
      ·rw [List.concat_eq_append] at*
       rw [List.getLast?_concat]
       simp only
       have hgl:((acc'++ [q]).map pfA)[acc'.length]?=some (.agg [.int .i64 q.1,.str [],.str q.2]):=by simp [pfA]
       have hl2:(acc'++ [q]).length=acc'.length+1:=by simp
       have e1:((acc'.length:Int)+1-1).toNat=acc'.length:=by omega
       have e2:(0:Int)<(acc'.length:Int)+1:=by omega
       rw [hl2] at hml hal
       generalize hac:acc'++ [q]=acc at*
       by_cases q2:n≤q.1
       ·rw [if_pos q2]
        simp (maxSteps:=9^9) (disch:=omega) [-List.map_replicate,-List.map_set,-List.getD_eq_getElem?_getD,-getElem?_pos,-getElem?_neg,om,q1,hg,hfa,splice,hml,hrl,hl2,hgl,e1,e2,q2]
       ·rw [if_neg q2]
        simp (maxSteps:=9^9) (disch:=omega) [-List.map_replicate,-List.map_set,-List.getD_eq_getElem?_getD,-getElem?_pos,-getElem?_neg,om,q1,hg,hfa,splice,hml,hrl,hl2,hgl,e1,e2,q2]
        exact ⟨i+1,acc++ [(n,x)],⟨rfl,by omega,by simp;omega⟩,by omega,by simp,by simp;omega,by simp [pfA]⟩
    ·rw [List.drop_eq_nil_of_le (by omega)]
     simp (maxSteps:=9^9) (disch:=omega) [-List.map_replicate,-List.map_set,-List.getD_eq_getElem?_getD,-getElem?_pos,-getElem?_neg,om,q1,shtGo,splice,hrl]
def knB (B:List Box) (k:Nat) (nl:Option Bool) (z:Nat) (l:List (Cell×Str)) (lk:Bool):List Box:=B.set k (.var 102 [.lst nl z (rdsA l),.bool lk])
theorem knB_len (B:List Box) (k:Nat) (nl:Option Bool) (z:Nat) (l:List (Cell×Str)) (lk:Bool):(knB B k nl z l lk).length=B.length:=by simp [knB]
theorem knB_shut {B:List Box} {k:Nat} {nl:Option Bool} {z:Nat} {l:List (Cell×Str)} {lk:Bool} (hs:shut B.length B=true):shut B.length (knB B k nl z l lk)=true:=shut_set k hs (by simp [shut,underAll,AV.under])
structure Fl where
 b:Bool
def flE (x y:Bool):Prop:=x=y
theorem ansKnown {B:List Box} {k:Nat} {nl:Option Bool} {z:Nat} {l:List (Cell×Str)} (hk:k<B.length) (hs:shut B.length B=true) (hz:l≠ []→z=3) (hl:l.length<1000000) (hi:IncC (l.map Prod.fst)) (hv: ∀u,((lookC l (4,u)).getD []).length≤1000) (s:Str) (hsl:s.length≤10000) (lk0:Bool):
  ansF cfg 67 [.ptr k 0,.str s] (knB B k nl z l lk0)=some (.str (expandF (fun u=>lookC l (4,u)) s).1,knB B k nl z l (lk0 || (expandF (fun u=>lookC l (4,u)) s).2)):=by
 have hget: ∀(lk:Bool) (a:AV) (out:Str) (u:Int),(a= .nilp∨a= .ptr B.length 0)→ansF cfg 63 [.ptr k 0,.int .i64 4,.int .i64 u] (bldBs (knB B k nl z l lk) a out)=some (.str ((lookC l (4,u)).getD []),bldBs (knB B k nl z l (lk || (lookC l (4,u)).isNone)) a out):=fun lk a out u ha=>by
  have hbl:=bldBs_bld (bs:=knB B k nl z l lk) (by rw [knB_len];exact knB_shut hs) (a:=a) (by rw [knB_len];exact ha) out
  have h:=ansGet (B:=bldBs (knB B k nl z l lk) a out) (k:=k) (nl:=nl) (z:=z) (l:=l) (lk:=lk) (by
   unfold bldBs
   rw [at_app_l _ _ (by rw [knB_len];exact hk)]
   unfold knB
   rw [Go.Am.at_set _ _ _ hk,if_pos rfl]) (by unfold bldBs;simp [knB_len];omega) hbl.sh hz hl hi 4 u
  rw [h]
  congr 2
  unfold bldBs
  rw [List.set_append_left _ _ (by rw [knB_len];exact hk),knB_len,knB_len]
  unfold knB
  rw [List.set_set]
 refine ans_of_wp fn67 low67 ?_
 have hBn: ∀lk,(knB B k nl z l lk).length=B.length:=fun lk=>knB_len ..
 have hsh: ∀lk,shut (knB B k nl z l lk).length (knB B k nl z l lk)=true:=fun lk=>by rw [hBn];exact knB_shut hs
 have hm:=fun lk=>shut_map (Nat.le_refl _) (hsh lk)
 have hlk0: ∀e,shut B.length (knB B k nl z l e)=true:=fun e=>knB_shut hs
 generalize hlook:(fun u=>lookC l (4,u))=look at*
 have hlk: ∀u,lookC l (4,u)=look u:=fun u=>by rw [←hlook]
 simp only [hlk] at hget hv
 clear hlk hlook
 generalize hK:knB B k nl z l=K at*
 generalize hn0:B.length=n0 at*
 obtain ⟨f0,f1,f2,f3,s0,s1,s2,s3,b0,b1,b2,b3,tk⟩:=farN (hBn lk0)
 simp (maxSteps:=9^9) (disch:=omega) [-List.map_replicate,-List.map_set,-List.getD_eq_getElem?_getD,-getElem?_pos,-getElem?_neg,om,ir67,hBn,f0,f1,f2,f3,s0,s1,s2,s3,b0,b1,b2,b3,tk]
 clear f0 f1 f2 f3 s0 s1 s2 s3 b0 b1 b2 b3 tk
 refine Wp.loopM (fun (a:Nat×Str×AV×Fl)=>s.length-a.1) (fun a=> [some (.ptr k 0),some (.str s),none,some (.ptr n0 0),some (.int .i64 a.1),none,none,none,none,none,none,none]) (fun a=>bldBs (K a.2.2.2.b) a.2.2.1 a.2.1) (fun a=>(expandF look s).1=a.2.1++(expandF look (s.drop a.1)).1∧flE (lk0 || (expandF look s).2) (a.2.2.2.b || (expandF look (s.drop a.1)).2)∧a.1≤s.length∧a.2.1.length≤1000*a.1∧(a.2.2.1= .nilp∨a.2.2.1= .ptr n0 0)) ?_ (0, [],.nilp,⟨lk0⟩) ⟨by simp,rfl,by simp,by simp,.inl rfl⟩ (by simp) (by simp [bldBs,hBn])
 rintro ⟨i,out,a,⟨lk⟩⟩ ⟨hi,hi2,hil,hol,ha⟩
 simp only at hi hi2 hil hol ha⊢
 have hi3:(lk0 || (expandF look s).2)=(lk || (expandF look (s.drop i)).2):=hi2
 rw [hi,hi3]
 clear hi hi2 hi3
 have hbl:=bldBs_bld (hsh lk) (by rw [hBn];exact ha) out
 rw [hBn] at hbl
 have hBl: ∀lk a out,(bldBs (K lk) a out).length=n0+2:=fun lk a out=>by simp [bldBs,hBn]
 by_cases h1:i<s.length
 ·have hg:s[i]?=some (s.getD i 0):=by simp [List.getD_eq_getElem?_getD,h1]
  have hwb:=ansWriteByte hbl (s.getD i 0) (by omega)
  have hst:bldSet (bldBs (K lk) a out) n0 (n0+1)=fun t=>bldBs (K lk) (.ptr n0 0) t:=by
   funext t
   have:=bldBs_set (bs:=K lk) (a:=a) (s:=out) (t:=t)
   rw [hBn] at this;exact this
  rw [hst] at hwb
  have hd:=dropB s h1
  have htl:(s.take s.length).drop i=s.drop i:=by rw [List.take_length]
  have hne:s.drop i≠ []:=by rw [hd];simp
  have hu:=ansCited (s.drop i) hne
  rw [pieceD_same hne] at hu
  unfold pcA at hu
  by_cases hp:(pieceR (s.drop i)).2=0
  ·have he:expandF look (s.drop i)=(s.getD i 0::(expandF look (s.drop (i+1))).1,(expandF look (s.drop (i+1))).2):=by
    rw [hd];exact expandF_byte look _ _ (by rw [←hd];exact hp)
   rw [he]
   rw [hp] at hu
   generalize (pieceR (s.drop i)).1=p1 at*
   generalize s.getD i 0=c at*
   have hk2:=hBl lk a out
   have hk3:=hBl lk (.ptr n0 0) (out++ [c])
   clear hd hp hget hbl hBl hst he
   generalize hB2:bldBs (K lk) a out=B2 at*
   simp (maxSteps:=9^9) (disch:=omega) [-List.map_replicate,-List.map_set,-List.getD_eq_getElem?_getD,-getElem?_pos,-getElem?_neg,om,h1,hg,ofByte,hu,htl,hwb,hk2,hk3]
   exact ⟨i+1,out++ [c],.ptr n0 0,⟨lk⟩,⟨by simp,rfl,by omega,by simp;omega,.inr rfl⟩,by omega,by simp,rfl⟩
  ·obtain ⟨q1,q2,q3,q4,q5⟩:=(pieceR_pos (s.drop i)).resolve_left (fun h=>hp (by rw [h]))
   have he:=expandF_piece look (s.drop i) hp
   have hw:=hget lk a out (pieceR (s.drop i)).1 ha
   have hnx:=hv (pieceR (s.drop i)).1
   have hbl2:=bldBs_bld (hsh (lk || (look (pieceR (s.drop i)).1).isNone)) (by rw [hBn];exact ha) out
   rw [hBn] at hbl2
   have hws:=ansWriteStr hbl2 ((look (pieceR (s.drop i)).1).getD []) (by omega) (by omega)
   have hst2:bldSet (bldBs (K (lk || (look (pieceR (s.drop i)).1).isNone)) a out) n0 (n0+1)=fun t=>bldBs (K (lk || (look (pieceR (s.drop i)).1).isNone)) (.ptr n0 0) t:=by
    funext t
    have:=bldBs_set (bs:=K (lk || (look (pieceR (s.drop i)).1).isNone)) (a:=a) (s:=out) (t:=t)
    rw [hBn] at this;exact this
   rw [hst2] at hws
   obtain ⟨n,hn⟩: ∃n:Nat,(pieceR (s.drop i)).2=n:=⟨(pieceR (s.drop i)).2.toNat,by omega⟩
   rw [hn] at hu he q3 q4
   rw [Int.toNat_natCast,List.drop_drop] at he
   have q4':i+n≤s.length:=by simp at q4;omega
   have q3':0<n:=by omega
   have he2:expandF look (s.drop i)=((look (pieceR (s.drop i)).1).getD []++(expandF look (s.drop (i+n))).1,((look (pieceR (s.drop i)).1).isNone || (expandF look (s.drop (i+n))).2)):=by
    rw [he]
    cases look (pieceR (s.drop i)).1 <;> simp
   rw [he2]
   generalize (look (pieceR (s.drop i)).1).getD []=x at*
   generalize (look (pieceR (s.drop i)).1).isNone=no at*
   generalize (pieceR (s.drop i)).1=p1 at*
   have hk2:=hBl lk a out
   have hk3:=hBl (lk || no) (.ptr n0 0) (out++x)
   have hk4:=hBl (lk || no) a out
   clear hd hp hget hbl hbl2 hBl hst hst2 he he2 hwb q1 q2 q3 q4 q5 hn
   generalize hB2:bldBs (K lk) a out=B2 at*
   generalize hB3:bldBs (K (lk || no)) a out=B3 at*
   simp (maxSteps:=9^9) (disch:=omega) [-List.map_replicate,-List.map_set,-List.getD_eq_getElem?_getD,-getElem?_pos,-getElem?_neg,om,h1,hu,htl,hw,hws,hk2,hk3,hk4,q3']
   exact ⟨i+n,out++x,.ptr n0 0,⟨lk || no⟩,⟨by simp,by simp [flE,Bool.or_assoc],by omega,by simp;omega,.inr rfl⟩,by omega,by simp,rfl⟩
 ·rw [List.drop_eq_nil_of_le (by omega),expandF_nil,List.append_nil,Bool.or_false]
  have hfin:(bldBs (K lk) a out).take n0=K lk:=by unfold bldBs;rw [←hBn lk];exact List.take_left' rfl
  by_cases h0:out= []
  ·subst h0
   have hst:=ansStringB0 hbl
   have hfs:((bldBs (K lk) a []).set (n0+1) (.sl ⟨false,none,none⟩ 1 [])).take n0=K lk:=by unfold bldBs;rw [←hBn lk,set_app_r];exact List.take_left' rfl
   have hk2:=hBl lk a []
   have hmm:=hm lk
   rw [hBn] at hmm
   generalize bldBs (K lk) a []=B2 at*
   clear hget hsh hm hlk0 hBl
   simp (maxSteps:=9^9) (disch:=omega) [-List.map_replicate,-List.map_set,-List.getD_eq_getElem?_getD,-getElem?_pos,-getElem?_neg,om,h1,hst,hfs,hmm,hk2,hBn]
  ·have hst:=ansStringB hbl (by omega) h0
   have hfs:((bldBs (K lk) a out).set (n0+1) (.sl ⟨false,none,none⟩ 1 (out.map ofByte))).take n0=K lk:=by unfold bldBs;rw [←hBn lk,set_app_r];exact List.take_left' rfl
   have hk2:=hBl lk a out
   have hmm:=hm lk
   rw [hBn] at hmm
   generalize bldBs (K lk) a out=B2 at*
   clear hget hsh hm hlk0 hBl
   simp (maxSteps:=9^9) (disch:=omega) [-List.map_replicate,-List.map_set,-List.getD_eq_getElem?_getD,-getElem?_pos,-getElem?_neg,om,h1,hst,hfs,hmm,hk2,hBn]
end Go.Proofs.YtfnkchadeaedlaaGreatDoor
