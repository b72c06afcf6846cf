/-
 Catalogs as the machine's values. Places in slices of strings and numbers; comparisons. Check of package aid, part by part: languages, labels, facts. Labels of a catalog. Facts of a sheet. The sheet of a unit. The sheets of a catalog; Check. Chosen facts, labels, citations, by a preference. Preferences, chosen facts, labels, citations. strings.Builder, whatever boxes lie about it: its variable is box k, its bytes are box j. Catalogs that come in. strconv.ParseUint at base 10 with few bits; strings.IndexByte. Pieces: aid.unit, depend.cited. aid.expand: a text with its pieces written out. aid.section: the section of a sheet. Maps with numbers as keys. aid.numbered: the sheets below a root with their numbers. aid.Number: the number of a unit below a root. aid.Compile: the whole finding aid. aid.speaks, Choose, Name, Cite.
-/
import Derived.Test.YtfnkchadeaedlaaGreatDoorIrs
import Derived.Test.YtfnkchadeaedlaaGreatDoorStrM
import Derived.Test.YtfnkchadeaedlaaGreatDoorCatM
import Derived.Lib.ItoaLen
import Derived.Test.YtfnkchadeaedlaaGreatDoorAmFrame
set_option linter.all false
namespace Go.Proofs.YtfnkchadeaedlaaGreatDoor
open Go.Am
set_option maxRecDepth 10000
set_option maxHeartbeats 4000000
def strA (l:List Str):List AV:=l.map .str
def lbA (l:Lb):AV:= .agg [.int .i64 l.el,.str l.lang,.str l.text,.int .i64 l.ix]
def fcA (f:Fc):AV:= .agg [.int .i64 f.el,.str f.lang,.str f.text]
def shA (s:Sh):AV:= .agg [.int .i64 s.unit,.int .i64 s.par,.int .i64 s.level,.str s.mark,.str s.title,.lst s.fn s.fz (s.facts.map fcA)]
def ctC (c:Ct):List AV:= [.lst c.ln c.lz (strA c.langs),.lst c.bn c.bz (c.labs.map lbA),.lst c.sn c.sz (c.shs.map shA)]
def ctA (c:Ct):AV:= .agg (ctC c)
structure Sh.ok (s:Sh):Prop where
 fz:s.facts≠ []→s.fz=3
 fl:s.facts.length<1000000
structure Ct.ok (c:Ct):Prop where
 lz:c.langs≠ []→c.lz=1
 bz:c.labs≠ []→c.bz=4
 sz:c.shs≠ []→c.sz=6
 ll:c.langs.length<1000000
 bl:c.labs.length<1000000
 sl:c.shs.length<1000000
 sh: ∀s∈c.shs,s.ok
@[simp] theorem plain_strA: ∀(l:List Str),plainAll (strA l)=true
 | []=>rfl
 | x::r=>by simp [strA,plainAll,AV.plain];exact plain_strA r
@[simp] theorem plain_lbA: ∀(l:List Lb),plainAll (l.map lbA)=true
 | []=>rfl
 | x::r=>by simp [plainAll,lbA,AV.plain,plain_lbA r]
@[simp] theorem plain_fcA: ∀(l:List Fc),plainAll (l.map fcA)=true
 | []=>rfl
 | x::r=>by simp [plainAll,fcA,AV.plain,plain_fcA r]
@[simp] theorem plain_shA: ∀(l:List Sh),plainAll (l.map shA)=true
 | []=>rfl
 | x::r=>by simp [plainAll,shA,AV.plain,plain_shA r]
theorem get_strA (L:List Str) {i:Nat} (h:i<L.length):(strA L)[i]?=some (.str (L.getD i [])):=by
 simp [strA,h,List.getD_eq_getElem?_getD]
@[simp] theorem strA_len (L:List Str):(strA L).length=L.length:=by simp [strA]
theorem get_map {α:Type} (f:α→AV) (l:List α) {i:Nat} (h:i<l.length):(l.map f)[i]?=some (f l[i]):=by simp [h]
theorem ne_of_lt {α:Type} {l:List α} {i:Nat} (h:i<l.length):l≠ []:=fun h0=>by rw [h0] at h;simp at h
end Go.Proofs.YtfnkchadeaedlaaGreatDoor
namespace Go.Proofs.YtfnkchadeaedlaaGreatDoor
open Go.Am
set_option maxRecDepth 10000
set_option maxHeartbeats 4000000
theorem dropL (L:List Str) {i:Nat} (h:i<L.length):L.drop i=L.getD i []::L.drop (i+1):=by
 rw [List.drop_eq_getElem_cons h]
 simp [List.getD_eq_getElem?_getD,h]
def idxS (w:Str):List Str→Nat→Int
 | [],_=> -1
 | x::r,i=>if w==x then (i:Int) else idxS w r (i+1)
theorem ansIndexS (nl:Option Bool) (z:Nat) (L:List Str) (hz:L≠ []→z=1) (hL:L.length<1000000) (w:Str):ansF cfg 107 [.lst nl z (strA L),.str w] []=some (.int .i64 (idxS w L 0), []):=by
 refine ans_of_wp fn107 low107 ?_
 simp (maxSteps:=9^9) (disch:=omega) [-List.map_replicate,-List.map_set,-List.getD_eq_getElem?_getD,-getElem?_pos,-getElem?_neg,om,ir107,strA_len]
 refine Wp.loopM (fun (i:Nat)=>L.length-i) (fun i=> [some (.lst nl z (strA L)),some (.str w),none,none,some (.int .i64 L.length),some (.int .i64 i),none,none]) (fun _=> []) (fun i=>idxS w L 0=idxS w (L.drop i) i∧i≤L.length) ?_ 0 ⟨by simp,by omega⟩ (by simp) rfl
 rintro i ⟨hi,hl⟩
 rw [hi]
 by_cases h1:i<L.length
 ·have hg:=get_strA L h1
  obtain rfl:=hz (ne_of_lt h1)
  rw [dropL L h1] at hi⊢
  simp only [idxS] at hi⊢
  generalize L.getD i []=x at*
  cases he:w==x with
  | true=>simp (maxSteps:=9^9) (disch:=omega) [-List.map_replicate,-List.map_set,-List.getD_eq_getElem?_getD,-getElem?_pos,-getElem?_neg,om,h1,hg,he]
  | false=>
   rw [he] at hi
   simp (maxSteps:=9^9) (disch:=omega) [-List.map_replicate,-List.map_set,-List.getD_eq_getElem?_getD,-getElem?_pos,-getElem?_neg,om,h1,hg,he]
   exact ⟨i+1,⟨by simp,by omega⟩,by omega,by simp⟩
 ·rw [List.drop_eq_nil_of_le (by omega)]
  simp (maxSteps:=9^9) (disch:=omega) [-List.map_replicate,-List.map_set,-List.getD_eq_getElem?_getD,-getElem?_pos,-getElem?_neg,om,h1,idxS]
theorem idxS_has (w:Str): ∀(L:List Str) (i:Nat),decide (0≤idxS w L i)=hasS L w
 | [],i=>rfl
 | x::r,i=>by
  simp only [idxS,hasS,List.any_cons]
  have ih:=idxS_has w r (i+1)
  by_cases he:(w==x)=true
  ·simp only [he,if_true,Bool.true_or];simp
  ·rw [Bool.not_eq_true] at he
   simp only [he,Bool.false_or,Bool.false_eq_true,if_false]
   exact ih
theorem ansHasS (nl:Option Bool) (z:Nat) (L:List Str) (hz:L≠ []→z=1) (hL:L.length<1000000) (w:Str):ansF cfg 57 [.lst nl z (strA L),.str w] []=some (.bool (hasS L w), []):=by
 refine ans_of_wp fn57 low57 ?_
 have h1:=ansIndexS nl z L hz hL w
 rw [←idxS_has w L 0]
 by_cases h4:0≤idxS w L 0
 ·simp (maxSteps:=9^9) (disch:=omega) [-List.map_replicate,-List.map_set,-List.getD_eq_getElem?_getD,-getElem?_pos,-getElem?_neg,om,ir57,h1,h4]
 ·simp (maxSteps:=9^9) (disch:=omega) [-List.map_replicate,-List.map_set,-List.getD_eq_getElem?_getD,-getElem?_pos,-getElem?_neg,om,ir57,h1,h4]
theorem idxS_T (w:Str): ∀(L:List Str) (i:Nat),idxS w L i=match idxT L w with | some k=>((i+k:Nat):Int) | none=> -1
 | [],i=>rfl
 | x::r,i=>by
  unfold idxS idxT
  by_cases h:x=w
  ·subst h
   rw [if_pos rfl]
   simp
  ·have hb:(w==x)=false:=by simpa using fun h'=>h h'.symm
   rw [if_neg h,hb]
   simp only [Bool.false_eq_true,if_false]
   rw [idxS_T w r (i+1)]
   cases idxT r w with
   | none=>rfl
   | some k=>simp only [Option.map_some];congr 1;omega
theorem idxS_rk (w:Str) (L:List Str):idxS w L 0=rk L w:=by
 rw [idxS_T]
 unfold rk
 cases idxT L w with
 | none=>rfl
 | some k=>simp
def intsA (l:List Int):List AV:=l.map (AV.int .i64)
@[simp] theorem intsA_len (l:List Int):(intsA l).length=l.length:=by simp [intsA]
def idxN (w:Int):List Int→Nat→Int
 | [],_=> -1
 | x::r,i=>if w=x then (i:Int) else idxN w r (i+1)
theorem ansIndexN (nl:Option Bool) (z:Nat) (L:List Int) (hz:L≠ []→z=1) (hL:L.length<1000000) (w:Int):ansF cfg 156 [.lst nl z (intsA L),.int .i64 w] []=some (.int .i64 (idxN w L 0), []):=by
 refine ans_of_wp fn156 low156 ?_
 simp (maxSteps:=9^9) (disch:=omega) [-List.map_replicate,-List.map_set,-List.getD_eq_getElem?_getD,-getElem?_pos,-getElem?_neg,om,ir156]
 refine Wp.loopM (fun (i:Nat)=>L.length-i) (fun i=> [some (.lst nl z (intsA L)),some (.int .i64 w),none,none,some (.int .i64 L.length),some (.int .i64 i),none,none]) (fun _=> []) (fun i=>idxN w L 0=idxN w (L.drop i) i∧i≤L.length) ?_ 0 ⟨by simp,by omega⟩ (by simp) rfl
 rintro i ⟨hi,hl⟩
 rw [hi]
 by_cases h1:i<L.length
 ·have hg:(intsA L)[i]?=some (.int .i64 L[i]):=by simp [intsA,h1]
  obtain rfl:=hz (ne_of_lt h1)
  rw [List.drop_eq_getElem_cons h1] at hi⊢
  simp only [idxN] at hi⊢
  generalize L[i]=x at*
  by_cases he:w=x
  ·simp (maxSteps:=9^9) (disch:=omega) [-List.map_replicate,-List.map_set,-List.getD_eq_getElem?_getD,-getElem?_pos,-getElem?_neg,om,h1,hg,he]
  ·rw [if_neg he] at hi
   simp (maxSteps:=9^9) (disch:=omega) [-List.map_replicate,-List.map_set,-List.getD_eq_getElem?_getD,-getElem?_pos,-getElem?_neg,om,h1,hg,he]
   exact ⟨i+1,⟨by simp,by omega⟩,by omega,by simp⟩
 ·rw [List.drop_eq_nil_of_le (by omega)]
  simp (maxSteps:=9^9) (disch:=omega) [-List.map_replicate,-List.map_set,-List.getD_eq_getElem?_getD,-getElem?_pos,-getElem?_neg,om,h1,idxN]
theorem idxN_I (w:Int): ∀(L:List Int) (i:Nat),idxN w L i=match idxI L w with | some k=>((i+k:Nat):Int) | none=> -1
 | [],i=>rfl
 | x::r,i=>by
  unfold idxN idxI
  by_cases h:x=w
  ·subst h
   rw [if_pos rfl,if_pos rfl]
   simp
  ·rw [if_neg h,if_neg (fun h'=>h h'.symm)]
   rw [idxN_I w r (i+1)]
   cases idxI r w with
   | none=>rfl
   | some k=>simp only [Option.map_some];congr 1;omega
def cmpI (a b:Int):Int:=if a<b then -1 else if a=b then 0 else 1
theorem ansNanI (a:Int):ansF cfg 146 [.int .i64 a] []=some (.bool false, []):=by
 refine ans_of_wp fn146 low146 ?_
 simp (maxSteps:=9^9) (disch:=omega) [-List.map_replicate,-List.map_set,-List.getD_eq_getElem?_getD,-getElem?_pos,-getElem?_neg,om,ir146]
theorem ansCmpI (a b:Int):ansF cfg 88 [.int .i64 a,.int .i64 b] []=some (.int .i64 (cmpI a b), []):=by
 refine ans_of_wp fn88 low88 ?_
 have h1:=ansNanI a
 have h2:=ansNanI b
 unfold cmpI
 by_cases h3:a<b
 ·simp (maxSteps:=9^9) (disch:=omega) [-List.map_replicate,-List.map_set,-List.getD_eq_getElem?_getD,-getElem?_pos,-getElem?_neg,om,ir88,h1,h2,h3]
 ·by_cases h4:a=b
  ·subst h4
   simp (maxSteps:=9^9) (disch:=omega) [-List.map_replicate,-List.map_set,-List.getD_eq_getElem?_getD,-getElem?_pos,-getElem?_neg,om,ir88,h1]
  ·have h5:b<a:=by omega
   simp (maxSteps:=9^9) (disch:=omega) [-List.map_replicate,-List.map_set,-List.getD_eq_getElem?_getD,-getElem?_pos,-getElem?_neg,om,ir88,h1,h2,h3,h4,h5]
theorem ansNanS (a:Str):ansF cfg 184 [.str a] []=some (.bool false, []):=by
 refine ans_of_wp fn184 low184 ?_
 simp (maxSteps:=9^9) (disch:=omega) [-List.map_replicate,-List.map_set,-List.getD_eq_getElem?_getD,-getElem?_pos,-getElem?_neg,om,ir184]
theorem ansCmpS (a b:Str):ansF cfg 155 [.str a,.str b] []=some (.int .i64 (Lib.compareBytes a b), []):=by
 refine ans_of_wp fn155 low155 ?_
 have h1:=ansNanS a
 have h2:=ansNanS b
 obtain ⟨k1,k2,k3⟩:=cb_facts a b
 obtain ⟨l1,l2,l3⟩:=cb_facts b a
 have sw:=cb_swap a b
 have k4:=cb_eq a b
 rw [sw] at l1
 generalize Lib.compareBytes a b=c at*
 rcases k3 with rfl | rfl | rfl
 ·simp (maxSteps:=9^9) (disch:=omega) [-List.map_replicate,-List.map_set,-List.getD_eq_getElem?_getD,-getElem?_pos,-getElem?_neg,om,ir155,h1,h2,k1]
 ·simp (maxSteps:=9^9) (disch:=omega) [-List.map_replicate,-List.map_set,-List.getD_eq_getElem?_getD,-getElem?_pos,-getElem?_neg,om,ir155,h1,h2,k1,l1,k4]
 ·simp (maxSteps:=9^9) (disch:=omega) [-List.map_replicate,-List.map_set,-List.getD_eq_getElem?_getD,-getElem?_pos,-getElem?_neg,om,ir155,h1,h2,k1,l1,k4]
def orI:List Int→Int
 | []=>0
 | a::r=>if a=0 then orI r else a
theorem ansOr (nl:Option Bool) (L:List Int) (hL:L.length<1000000):ansF cfg 87 [.lst nl 1 (intsA L)] []=some (.int .i64 (orI L), []):=by
 refine ans_of_wp fn87 low87 ?_
 simp (maxSteps:=9^9) (disch:=omega) [-List.map_replicate,-List.map_set,-List.getD_eq_getElem?_getD,-getElem?_pos,-getElem?_neg,om,ir87]
 refine Wp.loopM (fun (i:Nat)=>L.length-i) (fun i=> [none,none,some (.int .i64 0),none,some (.lst nl 1 (intsA L)),some (.int .i64 L.length),some (.int .i64 i),none,none]) (fun _=> []) (fun i=>orI L=orI (L.drop i)∧i≤L.length) ?_ 0 ⟨by simp,by omega⟩ (by simp) rfl
 rintro i ⟨hi,hl⟩
 rw [hi]
 by_cases h1:i<L.length
 ·have hg:(intsA L)[i]?=some (.int .i64 L[i]):=by simp [intsA,h1]
  rw [List.drop_eq_getElem_cons h1] at hi⊢
  simp only [orI] at hi⊢
  generalize L[i]=x at*
  by_cases he:x=0
  ·rw [if_pos he] at hi
   simp (maxSteps:=9^9) (disch:=omega) [-List.map_replicate,-List.map_set,-List.getD_eq_getElem?_getD,-getElem?_pos,-getElem?_neg,om,h1,hg,he]
   exact ⟨i+1,⟨by simp,by omega⟩,by omega,by simp⟩
  ·simp (maxSteps:=9^9) (disch:=omega) [-List.map_replicate,-List.map_set,-List.getD_eq_getElem?_getD,-getElem?_pos,-getElem?_neg,om,h1,hg,he]
 ·rw [List.drop_eq_nil_of_le (by omega)]
  simp (maxSteps:=9^9) (disch:=omega) [-List.map_replicate,-List.map_set,-List.getD_eq_getElem?_getD,-getElem?_pos,-getElem?_neg,om,h1,orI]
theorem ansOr2 (nl:Option Bool) (a b:Int):ansF cfg 87 [.lst nl 1 [.int .i64 a,.int .i64 b]] []=some (.int .i64 (if a=0 then b else a), []):=by
 have h:=ansOr nl [a,b] (by simp)
 have e:orI [a,b]=if a=0 then b else a:=by
  unfold orI orI orI
  split
  ·split
   ·rename_i h;rw [h]
   ·rfl
  ·rfl
 rw [e] at h
 exact h
theorem before_or (a b:Int) (s t:Str):(0≤(if cmpI a b=0 then Lib.compareBytes s t else cmpI a b))↔befB a s b t=false:=by
 unfold befB cmpI
 rw [decide_eq_false_iff_not]
 by_cases h1:a<b
 ·simp [h1]
 ·rw [if_neg h1]
  by_cases h2:a=b
  ·rw [if_pos h2];simp [h1,h2]
  ·simp [h1,h2]
end Go.Proofs.YtfnkchadeaedlaaGreatDoor
namespace Go.Proofs.YtfnkchadeaedlaaGreatDoor
open Go.Am
set_option maxRecDepth 10000
set_option maxHeartbeats 4000000
theorem ansTwo (s:Str):ansF cfg 154 [.str s] []=some (.bool (twoB s), []):=by
 refine ans_of_wp fn154 low154 ?_
 unfold twoB
 by_cases h:s.length=2
 ·match s,h with
  | [a,b],_=>
   simp only [List.getD_cons_zero,List.getD_cons_succ]
   by_cases h1:97≤a.toNat <;> by_cases h2:a.toNat≤122 <;> by_cases h3:97≤b.toNat <;> by_cases h4:b.toNat≤122 <;>
    first
    | omega
    | simp (maxSteps:=9^9) (disch:=omega) [-List.map_replicate,-List.map_set,-List.getD_eq_getElem?_getD,-getElem?_pos,-getElem?_neg,om,ir154,h1,h2,h3,h4]
 ·have h2:((s.length:Int)==2)=false:=by simp;omega
  simp (maxSteps:=9^9) (disch:=omega) [-List.map_replicate,-List.map_set,-List.getD_eq_getElem?_getD,-getElem?_pos,-getElem?_neg,om,ir154,h,h2]
theorem take_get {α:Type} (L:List α) {i:Nat} (h:i<L.length):L.take (i+1)=L.take i++ [L[i]]:=by
 rw [List.take_succ_eq_append_getElem h]
theorem ansLangs (c:Ct) (hc:c.ok):ansF cfg 104 [ctA c] []=some (.int .i64 (langsE c.langs), []):=by
 refine ans_of_wp fn104 low104 ?_
 have hl:=hc.ll
 have hz:=hc.lz
 unfold langsE ctA ctC
 generalize c.labs.map lbA=A2 at*
 generalize c.shs.map shA=A3 at*
 generalize c.langs=L at*
 generalize c.lz=z at*
 by_cases h0:L.length<1
 ·simp (maxSteps:=9^9) (disch:=omega) [-List.map_replicate,-List.map_set,-List.getD_eq_getElem?_getD,-getElem?_pos,-getElem?_neg,om,ir104,h0]
 by_cases h8:8<L.length
 ·simp (maxSteps:=9^9) (disch:=omega) [-List.map_replicate,-List.map_set,-List.getD_eq_getElem?_getD,-getElem?_pos,-getElem?_neg,om,ir104,h0,h8]
 obtain rfl:z=1:=hz (by intro h;rw [h] at h0;simp at h0)
 have hif:(if L.length<1∨8<L.length then 2 else langsGo [] L)=langsGo [] L:=if_neg (by omega)
 rw [hif]
 simp (maxSteps:=9^9) (disch:=omega) [-List.map_replicate,-List.map_set,-List.getD_eq_getElem?_getD,-getElem?_pos,-getElem?_neg,om,ir104,h0,h8]
 refine Wp.loopM (fun (i:Nat)=>L.length-i) (fun i=> [none,some (.ptr 0 0),none,none,none,none,some (.lst c.ln 1 (strA L)),some (.int .i64 L.length),some (.int .i64 i),none,none,none,none,none]) (fun _=> [.var 26 [.lst c.ln 1 (strA L),.lst c.bn c.bz A2,.lst c.sn c.sz A3]]) (fun i=>langsGo [] L=langsGo (L.take i) (L.drop i)∧i≤L.length) ?_ 0 ⟨by simp,by omega⟩ (by simp) rfl
 rintro i ⟨hi,hil⟩
 rw [hi]
 by_cases h1:i<L.length
 ·have hg:(strA L)[i]?=some (.str L[i]):=by simp [strA,h1]
  have htk:(strA L).take i=strA (L.take i):=by simp [strA]
  have ht:=ansTwo L[i]
  have hh:=ansHasS c.ln 1 (L.take i) (fun _=>rfl) (by simp;omega) L[i]
  rw [List.drop_eq_getElem_cons h1] at hi⊢
  simp only [langsGo] at hi⊢
  rw [←take_get L h1] at hi⊢
  generalize L[i]=x at*
  cases he:twoB x with
  | false=>
   rw [he] at ht
   simp (maxSteps:=9^9) (disch:=omega) [-List.map_replicate,-List.map_set,-List.getD_eq_getElem?_getD,-getElem?_pos,-getElem?_neg,om,h1,hg,ht]
  | true=>
   rw [he] at hi ht
   cases hb:hasS (L.take i) x with
   | true=>
    rw [hb] at hh
    simp (maxSteps:=9^9) (disch:=omega) [-List.map_replicate,-List.map_set,-List.getD_eq_getElem?_getD,-getElem?_pos,-getElem?_neg,om,h1,hg,ht,htk,hh]
   | false=>
    rw [hb] at hi hh
    simp (maxSteps:=9^9) (disch:=omega) [-List.map_replicate,-List.map_set,-List.getD_eq_getElem?_getD,-getElem?_pos,-getElem?_neg,om,h1,hg,ht,htk,hh]
    exact ⟨i+1,⟨by simpa using hi,by omega⟩,by omega,by simp⟩
 ·rw [List.drop_eq_nil_of_le (by omega)]
  simp (maxSteps:=9^9) (disch:=omega) [-List.map_replicate,-List.map_set,-List.getD_eq_getElem?_getD,-getElem?_pos,-getElem?_neg,om,h1,langsGo]
end Go.Proofs.YtfnkchadeaedlaaGreatDoor
namespace Go.Proofs.YtfnkchadeaedlaaGreatDoor
open Go.Am
set_option maxRecDepth 10000
set_option maxHeartbeats 4000000
theorem ansLabs (c:Ct) (hc:c.ok):ansF cfg 105 [ctA c] []=some (.int .i64 (labsE c.langs c.labs), []):=by
 refine ans_of_wp fn105 low105 ?_
 have hl:=hc.ll
 have hz:=hc.lz
 have hbl:=hc.bl
 have hbz:=hc.bz
 unfold labsE ctA ctC
 generalize c.shs.map shA=A3 at*
 generalize c.langs=L at*
 generalize c.lz=z at*
 generalize c.labs=B at*
 generalize c.bz=bz at*
 have hBl:(B.map lbA).length=B.length:=by simp
 have hE: ∀k (h:k<B.length),(B.map lbA)[k]?=some (.agg [.int .i64 B[k].el,.str B[k].lang,.str B[k].text,.int .i64 B[k].ix]):=fun k h=>get_map _ _ h
 have hpl:plainAll (B.map lbA)=true:=plain_lbA B
 generalize B.map lbA=E at*
 by_cases h0:256<B.length
 ·simp (maxSteps:=9^9) (disch:=omega) [-List.map_replicate,-List.map_set,-List.getD_eq_getElem?_getD,-getElem?_pos,-getElem?_neg,om,ir105,h0,hBl]
 rw [if_neg h0]
 simp (maxSteps:=9^9) (disch:=omega) [-List.map_replicate,-List.map_set,-List.getD_eq_getElem?_getD,-getElem?_pos,-getElem?_neg,om,ir105,h0,hBl]
 refine Wp.loopM (fun (i:Nat)=>B.length-i) (fun i=> [none,some (.ptr 0 0),none,none,none,none,none,some (.lst c.bn bz E),some (.int .i64 B.length),some (.int .i64 i),none,none,none,none,none,none,none,none,none,none,none,none,none,none]) (fun _=> [.var 26 [.lst c.ln z (strA L),.lst c.bn bz E,.lst c.sn c.sz A3]]) (fun i=>labsGo L none B=labsGo L (if i=0 then none else B[i-1]?) (B.drop i)∧i≤B.length) ?_ 0 ⟨by simp,by omega⟩ (by simp) rfl
 rintro i ⟨hi,hil⟩
 rw [hi]
 clear hi
 by_cases h1:i<B.length
 ·have hg:=hE i h1
  obtain rfl:bz=4:=hbz (ne_of_lt h1)
  have hh:=ansHasS c.ln z L hz hl B[i].lang
  rw [List.drop_eq_getElem_cons h1]
  simp only [labsGo]
  have fin: ∃a,(labsGo L (some B[i]) (B.drop (i+1))=labsGo L (if a=0 then none else B[a-1]?) (B.drop a)∧a≤B.length)∧B.length-a<B.length-i∧(i:Int)+1=(a:Int):=⟨i+1,⟨by simp [h1],by omega⟩,by omega,by simp⟩
  -- the one before
  have hp:i≠0→ ∃p,B[i-1]?=some p∧E[i-1]?=some (.agg [.int .i64 p.el,.str p.lang,.str p.text,.int .i64 p.ix]):=fun h=>⟨B[i-1],List.getElem?_eq_getElem (by omega),hE _ (by omega)⟩
  clear hE hz hbz
  generalize labsGo L (some B[i]) (B.drop (i+1))=R at*
  generalize B[i]=x at*
  have lab: ∀o,labE L o x=if x.el<1∨64<x.el∨x.ix<0∨3<x.ix then 2 else if hasS L x.lang=false then 7 else if x.text.length<1∨64<x.text.length then 4 else
   match o with
   | none=>0
   | some p=>if befB p.el p.lang x.el x.lang=false then 5 else if p.el=x.el∧p.ix≠x.ix then 10 else 0:=fun o=>rfl
  by_cases hi0:i=0
  ·subst hi0
   rw [if_pos rfl]
   clear hp lab
   generalize hlv:labE L none x=lv at*
   simp (maxSteps:=9^9) (disch:=omega) [-List.map_replicate,-List.map_set,-List.getD_eq_getElem?_getD,-getElem?_pos,-getElem?_neg,om,h1,hg,splice,hh]
   unfold labE at hlv
   by_cases e1:((x.el<1∨64<x.el)∨x.ix<0)∨3<x.ix
   ·rw [if_pos e1];rw [if_pos (by omega)] at hlv;subst hlv;rfl
   rw [if_neg e1];rw [if_neg (by omega)] at hlv
   cases e2:hasS L x.lang with
   | false=>rw [if_neg (by simp)];rw [if_pos e2] at hlv;subst hlv;rfl
   | true=>
    rw [if_pos rfl];rw [if_neg (by simp [e2])] at hlv
    by_cases e3:(x.text.length:Int)<1∨64<(x.text.length:Int)
    ·rw [if_pos e3];rw [if_pos (by omega)] at hlv;subst hlv;rfl
    rw [if_neg e3];rw [if_neg (by omega)] at hlv
    subst hlv
    rw [if_pos rfl]
    exact fin
  ·obtain ⟨p,q1,q2⟩:=hp hi0
   rw [if_neg hi0,q1]
   have c1:=ansCmpI p.el x.el
   have c2:=ansCmpS p.lang x.lang
   have c3:=ansOr2 none (cmpI p.el x.el) (Lib.compareBytes p.lang x.lang)
   have c4:=before_or p.el x.el p.lang x.lang
   generalize (if cmpI p.el x.el=0 then Lib.compareBytes p.lang x.lang else cmpI p.el x.el)=rr at*
   generalize cmpI p.el x.el=r1 at*
   generalize Lib.compareBytes p.lang x.lang=r2 at*
   have hi1:(i:Int)≠0:=by omega
   have hi2:((i:Int)-1).toNat=i-1:=by omega
   clear hp lab
   generalize hlv:labE L (some p) x=lv at*
   simp (maxSteps:=9^9) (disch:=omega) [-List.map_replicate,-List.map_set,-List.getD_eq_getElem?_getD,-getElem?_pos,-getElem?_neg,om,h1,hg,splice,hh,hi0,hi1,hi2,q2,c1,c2,c3]
   unfold labE at hlv
   by_cases e1:((x.el<1∨64<x.el)∨x.ix<0)∨3<x.ix
   ·rw [if_pos e1];rw [if_pos (by omega)] at hlv;subst hlv;rfl
   rw [if_neg e1];rw [if_neg (by omega)] at hlv
   cases e2:hasS L x.lang with
   | false=>rw [if_neg (by simp)];rw [if_pos e2] at hlv;subst hlv;rfl
   | true=>
    rw [if_pos rfl];rw [if_neg (by simp [e2])] at hlv
    by_cases e3:(x.text.length:Int)<1∨64<(x.text.length:Int)
    ·rw [if_pos e3];rw [if_pos (by omega)] at hlv;subst hlv;rfl
    rw [if_neg e3];rw [if_neg (by omega)] at hlv
    simp only at hlv
    by_cases e4:0≤rr
    ·rw [if_pos e4];rw [if_pos (c4.1 e4)] at hlv;subst hlv;rfl
    rw [if_neg e4];rw [if_neg (fun h=>e4 (c4.2 h))] at hlv
    by_cases e5:p.el=x.el∧ ¬ p.ix=x.ix
    ·rw [if_pos e5];rw [if_pos e5] at hlv;subst hlv;rfl
    rw [if_neg e5];rw [if_neg e5] at hlv
    subst hlv
    rw [if_pos rfl]
    exact fin
 ·rw [List.drop_eq_nil_of_le (by omega)]
  simp (maxSteps:=9^9) (disch:=omega) [-List.map_replicate,-List.map_set,-List.getD_eq_getElem?_getD,-getElem?_pos,-getElem?_neg,om,h1,labsGo]
end Go.Proofs.YtfnkchadeaedlaaGreatDoor
namespace Go.Proofs.YtfnkchadeaedlaaGreatDoor
open Go.Am
set_option maxRecDepth 10000
set_option maxHeartbeats 4000000
theorem ansFacs (c:Ct) (hc:c.ok) (nl:Option Bool) (bz:Nat) (B:List Fc) (hbz:B≠ []→bz=3) (hbl:B.length<1000000):ansF cfg 157 [ctA c,.lst nl bz (B.map fcA)] []=some (.int .i64 (facsE c.langs B), []):=by
 refine ans_of_wp fn157 low157 ?_
 have hl:=hc.ll
 have hz:=hc.lz
 unfold facsE ctA ctC
 generalize c.shs.map shA=A3 at*
 generalize c.labs.map lbA=A2 at*
 generalize c.langs=L at*
 generalize c.lz=z at*
 have hBl:(B.map fcA).length=B.length:=by simp
 have hE: ∀k (h:k<B.length),(B.map fcA)[k]?=some (.agg [.int .i64 B[k].el,.str B[k].lang,.str B[k].text]):=fun k h=>get_map _ _ h
 have hpl:plainAll (B.map fcA)=true:=plain_fcA B
 generalize B.map fcA=E at*
 by_cases h0:32<B.length
 ·simp (maxSteps:=9^9) (disch:=omega) [-List.map_replicate,-List.map_set,-List.getD_eq_getElem?_getD,-getElem?_pos,-getElem?_neg,om,ir157,h0,hBl]
 rw [if_neg h0]
 simp (maxSteps:=9^9) (disch:=omega) [-List.map_replicate,-List.map_set,-List.getD_eq_getElem?_getD,-getElem?_pos,-getElem?_neg,om,ir157,h0,hBl]
 refine Wp.loopM (fun (a:Nat×Option AV×Option AV×Option AV×Option AV)=>B.length-a.1) (fun a=> [none,some (.lst nl bz E),some (.ptr 0 0),none,none,none,none,some (.lst nl bz E),some (.int .i64 B.length),some (.int .i64 a.1),none,none,none,none,none,none,a.2.1,a.2.2.1,a.2.2.2.1,a.2.2.2.2,none]) (fun _=> [.var 26 [.lst c.ln z (strA L),.lst c.bn c.bz A2,.lst c.sn c.sz A3]]) (fun a=>facsGo L none B=facsGo L (if a.1=0 then none else B[a.1-1]?) (B.drop a.1)∧a.1≤B.length) ?_ (0,none,none,none,none) ⟨by simp,by simp⟩ (by simp) rfl
 rintro ⟨i,o1,o2,o3,o4⟩ ⟨hi,hil⟩
 simp only at hi hil⊢
 rw [hi]
 clear hi
 by_cases h1:i<B.length
 ·have hg:=hE i h1
  obtain rfl:bz=3:=hbz (ne_of_lt h1)
  have hh:=ansHasS c.ln z L hz hl B[i].lang
  rw [List.drop_eq_getElem_cons h1]
  simp only [facsGo]
  have fin: ∃a,(facsGo L (some B[i]) (B.drop (i+1))=facsGo L (if a=0 then none else B[a-1]?) (B.drop a)∧a≤B.length)∧B.length-a<B.length-i∧(i:Int)+1=(a:Int):=⟨i+1,⟨by simp [h1],by omega⟩,by omega,by simp⟩
  have hp:i≠0→ ∃p,B[i-1]?=some p∧E[i-1]?=some (.agg [.int .i64 p.el,.str p.lang,.str p.text]):=fun h=>⟨B[i-1],List.getElem?_eq_getElem (by omega),hE _ (by omega)⟩
  clear hE hz hbz
  generalize facsGo L (some B[i]) (B.drop (i+1))=R at*
  generalize B[i]=x at*
  by_cases hi0:i=0
  ·subst hi0
   rw [if_pos rfl]
   clear hp
   generalize hlv:facE L none x=lv at*
   simp (maxSteps:=9^9) (disch:=omega) [-List.map_replicate,-List.map_set,-List.getD_eq_getElem?_getD,-getElem?_pos,-getElem?_neg,om,h1,hg,splice,hh]
   unfold facE at hlv
   by_cases e1:x.el<1∨64<x.el
   ·rw [if_pos e1];rw [if_pos e1] at hlv;subst hlv;rfl
   rw [if_neg e1];rw [if_neg e1] at hlv
   cases e2:hasS L x.lang with
   | false=>rw [if_neg (by simp)];rw [if_pos e2] at hlv;subst hlv;rfl
   | true=>
    rw [if_pos rfl];rw [if_neg (by simp [e2])] at hlv
    by_cases e3:(x.text.length:Int)<1∨4096<(x.text.length:Int)
    ·rw [if_pos e3];rw [if_pos (by omega)] at hlv;subst hlv;rfl
    rw [if_neg e3];rw [if_neg (by omega)] at hlv
    subst hlv
    rw [if_pos rfl]
    exact fin
  ·obtain ⟨p,q1,q2⟩:=hp hi0
   rw [if_neg hi0,q1]
   have c1:=ansCmpI p.el x.el
   have c2:=ansCmpS p.lang x.lang
   have c3:=ansOr2 none (cmpI p.el x.el) (Lib.compareBytes p.lang x.lang)
   have c4:=before_or p.el x.el p.lang x.lang
   generalize (if cmpI p.el x.el=0 then Lib.compareBytes p.lang x.lang else cmpI p.el x.el)=rr at*
   generalize cmpI p.el x.el=r1 at*
   generalize Lib.compareBytes p.lang x.lang=r2 at*
   have hi1:(0:Int)<(i:Int):=by omega
   have hi2:((i:Int)-1).toNat=i-1:=by omega
   clear hp
   generalize hlv:facE L (some p) x=lv at*
   simp (maxSteps:=9^9) (disch:=omega) [-List.map_replicate,-List.map_set,-List.getD_eq_getElem?_getD,-getElem?_pos,-getElem?_neg,om,h1,hg,splice,hh,hi0,hi1,hi2,q2,c1,c2,c3]
   unfold facE at hlv
   by_cases e1:x.el<1∨64<x.el
   ·rw [if_pos e1];rw [if_pos e1] at hlv;subst hlv;rfl
   rw [if_neg e1];rw [if_neg e1] at hlv
   cases e2:hasS L x.lang with
   | false=>rw [if_neg (by simp)];rw [if_pos e2] at hlv;subst hlv;rfl
   | true=>
    rw [if_pos rfl];rw [if_neg (by simp [e2])] at hlv
    by_cases e3:(x.text.length:Int)<1∨4096<(x.text.length:Int)
    ·rw [if_pos e3];rw [if_pos (by omega)] at hlv;subst hlv;rfl
    rw [if_neg e3];rw [if_neg (by omega)] at hlv
    simp only at hlv
    by_cases e4:0≤rr
    ·rw [if_pos e4];rw [if_pos (c4.1 e4)] at hlv;subst hlv;rfl
    rw [if_neg e4];rw [if_neg (fun h=>e4 (c4.2 h))] at hlv
    subst hlv
    rw [if_pos rfl]
    exact fin
 ·rw [List.drop_eq_nil_of_le (by omega)]
  simp (maxSteps:=9^9) (disch:=omega) [-List.map_replicate,-List.map_set,-List.getD_eq_getElem?_getD,-getElem?_pos,-getElem?_neg,om,h1,facsGo]
end Go.Proofs.YtfnkchadeaedlaaGreatDoor
namespace Go.Proofs.YtfnkchadeaedlaaGreatDoor
open Go.Am
set_option maxRecDepth 10000
set_option maxHeartbeats 4000000
theorem get_shA (l:List Sh) {i:Nat} (h:i<l.length):(l.map shA)[i]?=some (.agg [.int .i64 l[i].unit,.int .i64 l[i].par,.int .i64 l[i].level,.str l[i].mark,.str l[i].title,.lst l[i].fn l[i].fz (l[i].facts.map fcA)]):=get_map _ _ h
def idxQ (u:Int):List Sh→Nat→Int
 | [],_=> -1
 | s::r,i=>if s.unit=u then (i:Int) else idxQ u r (i+1)
theorem idxQ_U (u:Int): ∀(l:List Sh) (i:Nat),idxQ u l i=match idxU l u with | some k=>((i+k:Nat):Int) | none=> -1
 | [],i=>rfl
 | x::r,i=>by
  unfold idxQ idxU
  by_cases h:x.unit=u
  ·rw [if_pos h,if_pos h]
   simp
  ·rw [if_neg h,if_neg h]
   rw [idxQ_U u r (i+1)]
   cases idxU r u with
   | none=>rfl
   | some k=>simp only [Option.map_some];congr 1;omega
theorem idxQ_num (u:Int) (l:List Sh):idxQ u l 0=numOpt (idxU l u):=by
 rw [idxQ_U]
 cases idxU l u with
 | none=>rfl
 | some k=>simp [numOpt]
structure NoSum (f:FuncId):Prop where
 ex:exts f=none
 ob:ovbs f=none
 ov:ovs f=none
 mu:muts f=false
theorem ansIdxSh (nl:Option Bool) (z:Nat) (l:List Sh) (hz:l≠ []→z=6) (hl:l.length<1000000) (f:FuncId) (hns:NoSum f) (j:Nat) (bs:List Box) (u:Int)
  (hf: ∀s:Sh,ansF cfg f [shA s,.ptr j 0] bs=some (.bool (s.unit==u),bs)) (hj:j<bs.length) (hsh:shut bs.length bs=true):
  ansF cfg 108 [.lst nl z (l.map shA),.fn f [] [.ptr j 0]] bs=some (.int .i64 (numOpt (idxU l u)),bs):=by
 refine ans_of_wp fn108 low108 ?_
 have hLl:(l.map shA).length=l.length:=by simp
 have hE: ∀i (h:i<l.length),(l.map shA)[i]?=some (shA l[i]):=fun i h=>get_map _ _ h
 generalize l.map shA=E at*
 obtain ⟨n1,n2,n3,n4⟩:=hns
 simp only [exts,ovbs,ovs,muts] at n1 n2 n3 n4
 have hm:=shut_map (Nat.le_refl _) hsh
 simp (maxSteps:=9^9) (disch:=omega) [-List.map_replicate,-List.map_set,-List.getD_eq_getElem?_getD,-getElem?_pos,-getElem?_neg,om,ir108,hLl]
 rw [←idxQ_num]
 refine Wp.loopM (fun (i:Nat)=>l.length-i) (fun i=> [some (.lst nl z E),some (.fn f [] [.ptr j 0]),none,none,some (.int .i64 l.length),some (.int .i64 i),none,none]) (fun _=>bs) (fun i=>idxQ u l 0=idxQ u (l.drop i) i∧i≤l.length) ?_ 0 ⟨by simp,by omega⟩ (by simp) rfl
 rintro i ⟨hi,hil⟩
 rw [hi]
 clear hi
 by_cases h1:i<l.length
 ·have hg:=hE i h1
  have hs:=hf l[i]
  obtain rfl:=hz (ne_of_lt h1)
  rw [List.drop_eq_getElem_cons h1]
  simp only [idxQ]
  generalize l[i]=x at*
  unfold shA at hg hs
  simp (maxSteps:=9^9) (disch:=omega) [-List.map_replicate,-List.map_set,-List.getD_eq_getElem?_getD,-getElem?_pos,-getElem?_neg,om,h1,hg,hs,n1,n2,n3,n4]
  exact fun _=>⟨i+1,⟨rfl,by omega⟩,by omega,by simp⟩
 ·rw [List.drop_eq_nil_of_le (by omega)]
  simp (maxSteps:=9^9) (disch:=omega) [-List.map_replicate,-List.map_set,-List.getD_eq_getElem?_getD,-getElem?_pos,-getElem?_neg,om,h1,idxQ]
theorem ansFind1 (s:Sh) (u:Int):ansF cfg 109 [shA s,.ptr 0 0] [.var 3 [.int .i64 u]]=some (.bool (s.unit==u), [.var 3 [.int .i64 u]]):=by
 refine ans_of_wp fn109 low109 ?_
 unfold shA
 simp (maxSteps:=9^9) (disch:=omega) [-List.map_replicate,-List.map_set,-List.getD_eq_getElem?_getD,-getElem?_pos,-getElem?_neg,om,ir109]
theorem ansFind (nl:Option Bool) (z:Nat) (l:List Sh) (hz:l≠ []→z=6) (hl:l.length<1000000) (u:Int):ansF cfg 58 [.lst nl z (l.map shA),.int .i64 u] []=some (.int .i64 (numOpt (idxU l u)), []):=by
 refine ans_of_wp fn58 low58 ?_
 have h:=ansIdxSh nl z l hz hl 109 ⟨rfl,rfl,rfl,rfl⟩ 0 [.var 3 [.int .i64 u]] u (fun s=>ansFind1 s u) (by simp) rfl
 have hpl:=plain_shA l
 generalize l.map shA=E at*
 simp (maxSteps:=9^9) (disch:=omega) [-List.map_replicate,-List.map_set,-List.getD_eq_getElem?_getD,-getElem?_pos,-getElem?_neg,om,ir58,h,hpl]
end Go.Proofs.YtfnkchadeaedlaaGreatDoor
namespace Go.Proofs.YtfnkchadeaedlaaGreatDoor
open Go.Am
set_option maxRecDepth 10000
set_option maxHeartbeats 4000000
theorem intsA_take (P:List Int) (k:Nat):(intsA P).take k=intsA (P.take k):=by simp [intsA]
theorem intsA_app (P Q:List Int):intsA P++intsA Q=intsA (P++Q):=by simp [intsA]
theorem idxI_lt: ∀{l:List Int} {u:Int} {k:Nat},idxI l u=some k→k<l.length
 | x::r,u,k,h=>by
  unfold idxI at h
  split at h
  ·cases h;simp
  ·cases hr:idxI r u with
   | none=>rw [hr] at h;cases h
   | some j=>
    rw [hr] at h
    simp only [Option.map_some,Option.some.injEq] at h
    have:=idxI_lt hr
    simp only [List.length_cons];omega
theorem numOpt_is (o:Option Nat):(0≤numOpt o)↔o.isSome=true:=by
 cases o with
 | none=>simp [numOpt]
 | some n=>simp [numOpt]
theorem shE1_cases (pre:List Sh) (x:Sh):((((x.unit<1∨1073741824<x.unit)∨x.level<1)∨4<x.level)→shE1 pre x=2)∧
  (¬ (((x.unit<1∨1073741824<x.unit)∨x.level<1)∨4<x.level)→((64<(x.mark.length:Int)∨(x.title.length:Int)<1)∨64<(x.title.length:Int))→shE1 pre x=4)∧
  (¬ (((x.unit<1∨1073741824<x.unit)∨x.level<1)∨4<x.level)→ ¬ ((64<(x.mark.length:Int)∨(x.title.length:Int)<1)∨64<(x.title.length:Int))→0≤numOpt (idxU pre x.unit)→shE1 pre x=6)∧
  (¬ (((x.unit<1∨1073741824<x.unit)∨x.level<1)∨4<x.level)→ ¬ ((64<(x.mark.length:Int)∨(x.title.length:Int)<1)∨64<(x.title.length:Int))→ ¬ 0≤numOpt (idxU pre x.unit)→shE1 pre x=0):=by
 unfold shE1
 refine ⟨fun h=> ?_,fun h1 h2=> ?_,fun h1 h2 h3=> ?_,fun h1 h2 h3=> ?_⟩
 ·rw [if_pos (by omega)]
 ·rw [if_neg (by omega),if_pos (by omega)]
 ·rw [if_neg (by omega),if_neg (by omega),if_pos ((numOpt_is _).1 h3)]
 ·rw [if_neg (by omega),if_neg (by omega),if_neg (fun h=>h3 ((numOpt_is _).2 h))]
theorem ansShs (c:Ct) (hc:c.ok):ansF cfg 106 [ctA c] []=some (.int .i64 (shsE c.langs c.shs), []):=by
 refine ans_of_wp fn106 low106 ?_
 have hF:=fun (B:List Fc) nl z=>ansFacs c hc nl z B
 have hz:=hc.sz
 have hl:=hc.sl
 have hsh:=hc.sh
 unfold shsE
 unfold ctA ctC at*
 generalize strA c.langs=A1 at*
 generalize c.labs.map lbA=A2 at*
 have hBl:(c.shs.map shA).length=c.shs.length:=by simp
 have hE: ∀k (h:k<c.shs.length),(c.shs.map shA)[k]?=some (.agg [.int .i64 c.shs[k].unit,.int .i64 c.shs[k].par,.int .i64 c.shs[k].level,.str c.shs[k].mark,.str c.shs[k].title,.lst c.shs[k].fn c.shs[k].fz (c.shs[k].facts.map fcA)]):=fun k h=>get_shA _ h
 have hfd: ∀k (h:k<c.shs.length),ansF cfg 58 [.lst c.sn 6 ((c.shs.map shA).take k),.int .i64 c.shs[k].unit] []=some (.int .i64 (numOpt (idxU (c.shs.take k) c.shs[k].unit)), []):=fun k h=>by
  have:=ansFind c.sn 6 (c.shs.take k) (fun _=>rfl) (by simp;omega) c.shs[k].unit
  rwa [List.map_take] at this
 have hpl:plainAll (c.shs.map shA)=true:=plain_shA _
 generalize c.shs.map shA=E at*
 generalize c.shs=L at*
 by_cases h0:256<L.length
 ·simp (maxSteps:=9^9) (disch:=omega) [-List.map_replicate,-List.map_set,-List.getD_eq_getElem?_getD,-getElem?_pos,-getElem?_neg,om,ir106,h0,hBl]
 rw [if_neg h0]
 simp (maxSteps:=9^9) (disch:=omega) [-List.map_replicate,-List.map_set,-List.getD_eq_getElem?_getD,-getElem?_pos,-getElem?_neg,om,ir106,h0,hBl]
 refine Wp.loopM (fun (a:Nat×Nat×List Int×List Box)=>L.length-a.1) (fun a=> [none,some (.ptr 0 0),none,some (.osl (1+a.2.1) a.2.2.1.length),none,none,none,none,none,some (.lst c.sn c.sz E),some (.int .i64 L.length),some (.int .i64 a.1),none,none,none,none,none,none,none,none,none,none,none,none,none,none,none,none]) (fun a=> .var 26 [.lst c.ln c.lz A1,.lst c.bn c.bz A2,.lst c.sn c.sz E]::a.2.2.2) (fun a=>shsGo c.langs [] [] L=shsGo c.langs (L.take a.1) a.2.2.1 (L.drop a.1)∧a.1≤L.length∧a.2.1<a.2.2.2.length∧Box.at a.2.2.2 a.2.1= .sl ⟨false,some 3,none⟩ 1 (intsA a.2.2.1)∧a.2.2.1.length≤a.1∧ ∀n,shut n a.2.2.2=true) ?_ (0,0, [], [.sl ⟨false,some 3,none⟩ 1 []]) ⟨by simp,by simp,by simp,rfl,by simp,fun _=>rfl⟩ (by simp) rfl
 rintro ⟨i,j,P,J⟩ ⟨hi,hil,hj,hjb,hPl,hJ⟩
 simp only at hi hil hj hjb hPl hJ⊢
 rw [hi]
 clear hi
 by_cases h1:i<L.length
 ·have hg:=hE i h1
  obtain hz6:c.sz=6:=hz (ne_of_lt h1)
  rw [hz6] at hF⊢
  have hh:=hfd i h1
  have hso:=hsh L[i] (List.getElem_mem h1)
  have hFF:=hF L[i].facts L[i].fn L[i].fz hso.fz hso.fl
  rw [List.drop_eq_getElem_cons h1]
  simp only [shsGo]
  have htk:L.take (i+1)=L.take i++ [L[i]]:=take_get L h1
  clear hE hfd hF hz hsh hso
  generalize L[i]=x at*
  generalize x.facts.map fcA=FA at*
  generalize facsE c.langs x.facts=fe at*
  have hix:=ansIndexN none 1 P (fun _=>rfl) (by omega) x.par
  rw [idxN_I] at hix
  obtain ⟨ct,hctd⟩: ∃ct,ct=Box.var 26 [.lst c.ln c.lz A1,.lst c.bn c.bz A2,.lst c.sn 6 E]:=⟨_,rfl⟩
  obtain ⟨bs,hbs⟩: ∃bs,bs=ct::J:=⟨_,rfl⟩
  rw [←hctd,←hbs]
  have hbl:bs.length=J.length+1:=by rw [hbs];rfl
  have hcu: ∀n,shut n [ct]=true:=fun n=>by rw [hctd];rfl
  have e0: ∀l,Box.at (bs++l) 0= .var 26 [.lst c.ln c.lz A1,.lst c.bn c.bz A2,.lst c.sn 6 E]:=fun l=>by rw [hbs,hctd];rfl
  have e0':=e0 []
  rw [List.append_nil] at e0'
  have e1: ∀l,Box.at (bs++l) (1+j)= .sl ⟨false,some 3,none⟩ 1 (intsA P):=fun l=>by
   rw [hbs,Nat.add_comm]
   show Box.at (J++l) j=_
   rw [at_app_l _ _ hj,hjb]
  have e1':=e1 []
  rw [List.append_nil] at e1'
  have mk: ∀Y:Box,(∀n,shut n [Y]=true)→ ∃C,C=ct::J.set j Y∧(∀l,(bs++l).set (1+j) Y=C++l)∧C.length=bs.length∧(∀l,Box.at (C++l) 0= .var 26 [.lst c.ln c.lz A1,.lst c.bn c.bz A2,.lst c.sn 6 E])∧(∀l m,(C++l)[bs.length+m]?=l[m]?)∧(∀l m X,(C++l).set (bs.length+m) X=C++l.set m X)∧C.map (forgetBox bs.length)=C∧(∀l,(C++l).take bs.length=C)∧(∀l m,Box.at (C++l) (bs.length+m)=Box.at l m):=fun Y hY=>by
   have hCl:(ct::J.set j Y).length=bs.length:=by rw [hbl];simp
   refine ⟨ct::J.set j Y,rfl,fun l=> ?_,hCl,fun l=>by rw [hctd];rfl,fun l m=>by rw [←hCl];exact get_app_r _ _ _,fun l m X=>by rw [←hCl];exact set_app_r _ _ _ _,?_,fun l=>List.take_left' hCl,fun l m=>by rw [←hCl,at_app_r]⟩
   ·rw [hbs,Nat.add_comm]
    show ct::((J++l).set j Y)=_
    rw [List.set_append_left _ _ hj]
    rfl
   ·refine shut_map (Nat.le_refl _) ?_
    have h2:=hcu bs.length
    have h3:shut bs.length (J.set j Y)=true:=(show Bare (J.set j Y) from Bare.set (fun n=>hJ n) j (fun n=>hY n)) _
    show shut bs.length ([ct]++J.set j Y)=true
    rw [shut_app,h2,h3];rfl
  have a1:bs.length+1-bs.length=1:=by omega
  have a2:bs.length+1+1-bs.length=2:=by omega
  have a3:bs.length+1+1+1-bs.length=3:=by omega
  have hil2:(intsA P).length=P.length:=intsA_len P
  have hitk: ∀k,(intsA P).take k=intsA (P.take k):=intsA_take P
  generalize hV:(if shE1 (L.take i) x=0 then _ else shE1 (L.take i) x)=V
  have b0: ∀l:List Box,(bs++l)[bs.length]?=l[0]?:=fun l=>by have:=get_app_r bs l 0;simpa using this
  have b1: ∀l:List Box,(bs++l)[bs.length+1]?=l[1]?:=fun l=>get_app_r bs l 1
  have b2: ∀l:List Box,(bs++l)[bs.length+1+1]?=l[2]?:=fun l=>get_app_r bs l 2
  by_cases hpar:x.par=0
  ·have hpl0:placeP P x=some 0:=by unfold placeP;rw [if_pos hpar]
   rw [hpl0] at hV
   by_cases hP0:P= []
   ·subst hP0
    obtain ⟨C,hC,s1,s2,s3,s4,s5,s6,s7,s8⟩:=mk (.sl ⟨false,some 3,none⟩ 1 (intsA []++ [.int .i64 x.unit])) (fun n=>rfl)
    have s80: ∀l,Box.at (C++l) bs.length=Box.at l 0:=fun l=>by simpa using s8 l 0
    have s40: ∀l,(C++l)[bs.length]?=l[0]?:=fun l=>by simpa using s4 l 0
    have s50: ∀l X,(C++l).set bs.length X=C++l.set 0 X:=fun l X=>by simpa using s5 l 0 X
    clear hbs hctd mk hcu
    simp (maxSteps:=9^9) (disch:=omega) [-List.map_replicate,-List.map_set,-List.getD_eq_getElem?_getD,-getElem?_pos,-getElem?_neg,om,h1,hg,splice,hh,hFF,hpar,hix,  e0,e0',e1,e1',s1,s2,s3,s4,s5,s6,s7,s8,s80,s40,s50,b2,b1,b0,a1,a2,a3,hil2,hitk]
    simp only at hV
    obtain ⟨k1,k2,k3,k4⟩:=shE1_cases (L.take i) x
    by_cases f1:((x.unit<1∨1073741824<x.unit)∨x.level<1)∨4<x.level
    ·rw [if_pos f1];rw [k1 f1,if_neg (by decide)] at hV;exact hV
    rw [if_neg f1]
    by_cases f2:(64<(x.mark.length:Int)∨(x.title.length:Int)<1)∨64<(x.title.length:Int)
    ·rw [if_pos f2];rw [k2 f1 f2,if_neg (by decide)] at hV;exact hV
    rw [if_neg f2]
    by_cases f3:0≤numOpt (idxU (L.take i) x.unit)
    ·rw [if_pos f3];rw [k3 f1 f2 f3,if_neg (by decide)] at hV;exact hV
    rw [if_neg f3]
    rw [k4 f1 f2 f3,if_pos rfl] at hV
    rw [if_neg (by decide)] at hV
    by_cases f5:fe=0
    ·rw [if_pos f5];rw [if_pos f5] at hV
     exact ⟨i+1,j, [x.unit],J.set j (.sl ⟨false,some 3,none⟩ 1 [.int .i64 x.unit]),⟨by rw [htk];exact hV.symm,by omega,by simpa using hj,by rw [at_set _ _ _ hj,if_pos rfl];rfl,by simp,fun n=>Bare.set (fun n=>hJ n) j (fun n=>rfl) n⟩,by omega,⟨⟨rfl,rfl⟩,by simp⟩,hC⟩
    ·rw [if_neg f5];rw [if_neg f5] at hV;exact hV
   ·have hPl0: ¬ P.length=0:=fun h=>hP0 (List.length_eq_zero_iff.1 h)
    have hPl1: ¬ 0=P.length:=fun h=>hPl0 h.symm
    obtain ⟨C,hC,s1,s2,s3,s4,s5,s6,s7,s8⟩:=mk (.gone) (fun n=>rfl)
    have s80: ∀l,Box.at (C++l) bs.length=Box.at l 0:=fun l=>by simpa using s8 l 0
    have s40: ∀l,(C++l)[bs.length]?=l[0]?:=fun l=>by simpa using s4 l 0
    have s50: ∀l X,(C++l).set bs.length X=C++l.set 0 X:=fun l X=>by simpa using s5 l 0 X
    clear hbs hctd mk hcu
    simp (maxSteps:=9^9) (disch:=omega) [-List.map_replicate,-List.map_set,-List.getD_eq_getElem?_getD,-getElem?_pos,-getElem?_neg,om,h1,hg,splice,hh,hFF,hpar,hix,hPl0,hPl1,e0,e0',e1,e1',s1,s2,s3,s4,s5,s6,s7,s8,s80,s40,s50,b2,b1,b0,a1,a2,a3,hil2,hitk]
    simp only at hV
    obtain ⟨k1,k2,k3,k4⟩:=shE1_cases (L.take i) x
    by_cases f1:((x.unit<1∨1073741824<x.unit)∨x.level<1)∨4<x.level
    ·rw [if_pos f1];rw [k1 f1,if_neg (by decide)] at hV;exact hV
    rw [if_neg f1]
    by_cases f2:(64<(x.mark.length:Int)∨(x.title.length:Int)<1)∨64<(x.title.length:Int)
    ·rw [if_pos f2];rw [k2 f1 f2,if_neg (by decide)] at hV;exact hV
    rw [if_neg f2]
    by_cases f3:0≤numOpt (idxU (L.take i) x.unit)
    ·rw [if_pos f3];rw [k3 f1 f2 f3,if_neg (by decide)] at hV;exact hV
    rw [if_neg f3]
    rw [k4 f1 f2 f3,if_pos rfl] at hV
    rw [if_neg (by decide)] at hV
    by_cases f5:fe=0
    ·rw [if_pos f5];rw [if_pos f5] at hV
     have hb: ∀l,C++l=ct::(J.set j .gone++l):=fun l=>by rw [hC];rfl
     refine ⟨i+1,J.length+2, []++ [x.unit],_,⟨by rw [htk];exact hV.symm,by omega,?_,?_,?_,?_⟩,by omega,⟨⟨by omega,by simp⟩,by simp⟩,hb _⟩
     ·simp
     ·rw [show J.length+2=(J.set j Box.gone).length+2 by simp,at_app_r]
      rw [←intsA_app];rfl
     ·simp
     ·exact fun n=>Bare.app (Bare.set (fun n=>hJ n) j (fun n=>rfl)) (fun n=>rfl) n
    ·rw [if_neg f5];rw [if_neg f5] at hV;exact hV
  ·cases hI:idxI P x.par with
   | none=>
    have hpl0:placeP P x=none:=by unfold placeP;rw [if_neg hpar,hI];rfl
    rw [hpl0] at hV
    rw [hI] at hix
    simp only at hix
    clear mk
    simp (maxSteps:=9^9) (disch:=omega) [-List.map_replicate,-List.map_set,-List.getD_eq_getElem?_getD,-getElem?_pos,-getElem?_neg,om,h1,hg,splice,hh,hFF,hpar,hix,e0,e0',e1,e1',b2,b1,b0,a1,a2,a3,hil2,hitk]
    simp only at hV
    obtain ⟨k1,k2,k3,k4⟩:=shE1_cases (L.take i) x
    by_cases f1:((x.unit<1∨1073741824<x.unit)∨x.level<1)∨4<x.level
    ·rw [if_pos f1];rw [k1 f1,if_neg (by decide)] at hV;exact hV
    rw [if_neg f1]
    by_cases f2:(64<(x.mark.length:Int)∨(x.title.length:Int)<1)∨64<(x.title.length:Int)
    ·rw [if_pos f2];rw [k2 f1 f2,if_neg (by decide)] at hV;exact hV
    rw [if_neg f2]
    by_cases f3:0≤numOpt (idxU (L.take i) x.unit)
    ·rw [if_pos f3];rw [k3 f1 f2 f3,if_neg (by decide)] at hV;exact hV
    rw [if_neg f3]
    rw [k4 f1 f2 f3,if_pos rfl] at hV
    exact hV
   | some k=>
    have hpl0:placeP P x=some (k+1):=by unfold placeP;rw [if_neg hpar,hI];rfl
    rw [hpl0] at hV
    rw [hI] at hix
    simp only [Nat.zero_add] at hix
    have hkl:=idxI_lt hI
    have hk1:((k:Int)+1).toNat=k+1:=by omega
    have hk2: ¬ ((k:Int)+1=0):=by omega
    have hk3:((k:Int)+1)≤(P.length:Int):=by omega
    by_cases hkP:k+1=P.length
    ·have htkP:P.take (k+1)=P:=List.take_of_length_le (by omega)
     have hkP2:(k:Int)+1=(P.length:Int):=by omega
     obtain ⟨C,hC,s1,s2,s3,s4,s5,s6,s7,s8⟩:=mk (.sl ⟨false,some 3,none⟩ 1 (intsA P++ [.int .i64 x.unit])) (fun n=>rfl)
     have s80: ∀l,Box.at (C++l) bs.length=Box.at l 0:=fun l=>by simpa using s8 l 0
     have s40: ∀l,(C++l)[bs.length]?=l[0]?:=fun l=>by simpa using s4 l 0
     have s50: ∀l X,(C++l).set bs.length X=C++l.set 0 X:=fun l X=>by simpa using s5 l 0 X
     clear hbs hctd mk hcu
     simp (maxSteps:=9^9) (disch:=omega) [-List.map_replicate,-List.map_set,-List.getD_eq_getElem?_getD,-getElem?_pos,-getElem?_neg,om,h1,hg,splice,hh,hFF,hpar,hix,hk1,hk2,hk3,hkP,e0,e0',e1,e1',s1,s2,s3,s4,s5,s6,s7,s8,s80,s40,s50,b2,b1,b0,a1,a2,a3,hil2,hitk]
     simp only at hV
     obtain ⟨k1,k2,k3,k4⟩:=shE1_cases (L.take i) x
     by_cases f1:((x.unit<1∨1073741824<x.unit)∨x.level<1)∨4<x.level
     ·rw [if_pos f1];rw [k1 f1,if_neg (by decide)] at hV;exact hV
     rw [if_neg f1]
     by_cases f2:(64<(x.mark.length:Int)∨(x.title.length:Int)<1)∨64<(x.title.length:Int)
     ·rw [if_pos f2];rw [k2 f1 f2,if_neg (by decide)] at hV;exact hV
     rw [if_neg f2]
     by_cases f3:0≤numOpt (idxU (L.take i) x.unit)
     ·rw [if_pos f3];rw [k3 f1 f2 f3,if_neg (by decide)] at hV;exact hV
     rw [if_neg f3]
     rw [k4 f1 f2 f3,if_pos rfl] at hV
     by_cases f4:12≤(k:Int)+1
     ·rw [if_pos f4];rw [if_pos (by omega)] at hV;exact hV
     rw [if_neg f4];rw [if_neg (by omega)] at hV
     by_cases f5:fe=0
     ·rw [if_pos f5];rw [if_pos f5] at hV
      rw [htkP] at hV
      exact ⟨i+1,j,P++ [x.unit],J.set j (.sl ⟨false,some 3,none⟩ 1 (intsA P++ [.int .i64 x.unit])),⟨by rw [htk];exact hV.symm,by omega,by simpa using hj,by rw [at_set _ _ _ hj,if_pos rfl,←intsA_app];rfl,by simp;omega,fun n=>Bare.set (fun n=>hJ n) j (fun n=>rfl) n⟩,by omega,⟨⟨rfl,by simp⟩,by simp⟩,hC⟩
     ·rw [if_neg f5];rw [if_neg f5] at hV;exact hV
    ·have hkP2: ¬ (k+1=P.length):=hkP
     obtain ⟨C,hC,s1,s2,s3,s4,s5,s6,s7,s8⟩:=mk (.gone) (fun n=>rfl)
     have s80: ∀l,Box.at (C++l) bs.length=Box.at l 0:=fun l=>by simpa using s8 l 0
     have s40: ∀l,(C++l)[bs.length]?=l[0]?:=fun l=>by simpa using s4 l 0
     have s50: ∀l X,(C++l).set bs.length X=C++l.set 0 X:=fun l X=>by simpa using s5 l 0 X
     clear hbs hctd mk hcu
     simp (maxSteps:=9^9) (disch:=omega) [-List.map_replicate,-List.map_set,-List.getD_eq_getElem?_getD,-getElem?_pos,-getElem?_neg,om,h1,hg,splice,hh,hFF,hpar,hix,hk1,hk2,hk3,hkP,e0,e0',e1,e1',s1,s2,s3,s4,s5,s6,s7,s8,s80,s40,s50,b2,b1,b0,a1,a2,a3,hil2,hitk]
     simp only at hV
     obtain ⟨k1,k2,k3,k4⟩:=shE1_cases (L.take i) x
     by_cases f1:((x.unit<1∨1073741824<x.unit)∨x.level<1)∨4<x.level
     ·rw [if_pos f1];rw [k1 f1,if_neg (by decide)] at hV;exact hV
     rw [if_neg f1]
     by_cases f2:(64<(x.mark.length:Int)∨(x.title.length:Int)<1)∨64<(x.title.length:Int)
     ·rw [if_pos f2];rw [k2 f1 f2,if_neg (by decide)] at hV;exact hV
     rw [if_neg f2]
     by_cases f3:0≤numOpt (idxU (L.take i) x.unit)
     ·rw [if_pos f3];rw [k3 f1 f2 f3,if_neg (by decide)] at hV;exact hV
     rw [if_neg f3]
     rw [k4 f1 f2 f3,if_pos rfl] at hV
     by_cases f4:12≤(k:Int)+1
     ·rw [if_pos f4];rw [if_pos (by omega)] at hV;exact hV
     rw [if_neg f4];rw [if_neg (by omega)] at hV
     by_cases f5:fe=0
     ·rw [if_pos f5];rw [if_pos f5] at hV
      have hb: ∀l,C++l=ct::(J.set j .gone++l):=fun l=>by rw [hC];rfl
      refine ⟨i+1,J.length+2,P.take (k+1)++ [x.unit],_,⟨by rw [htk];exact hV.symm,by omega,?_,?_,?_,?_⟩,by omega,⟨⟨by omega,by simp;omega⟩,by simp⟩,hb _⟩
      ·simp
      ·rw [show J.length+2=(J.set j Box.gone).length+2 by simp,at_app_r]
       rw [←intsA_app];rfl
      ·simp;omega
      ·exact fun n=>Bare.app (Bare.set (fun n=>hJ n) j (fun n=>rfl)) (fun n=>rfl) n
     ·rw [if_neg f5];rw [if_neg f5] at hV;exact hV
 ·rw [List.drop_eq_nil_of_le (by omega)]
  simp (maxSteps:=9^9) (disch:=omega) [-List.map_replicate,-List.map_set,-List.getD_eq_getElem?_getD,-getElem?_pos,-getElem?_neg,om,h1,shsGo]
theorem ansChk (c:Ct) (hc:c.ok):ansF cfg 56 [ctA c] []=some (.int .i64 (chkC c), []):=by
 refine ans_of_wp fn56 low56 ?_
 have h1:=ansLangs c hc
 have h2:=ansLabs c hc
 have h3:=ansShs c hc
 unfold chkC
 unfold ctA ctC at*
 generalize langsE c.langs=e1 at*
 generalize labsE c.langs c.labs=e2 at*
 generalize shsE c.langs c.shs=e3 at*
 by_cases k1:e1=0
 ·by_cases k2:e2=0
  ·simp (maxSteps:=9^9) (disch:=omega) [-List.map_replicate,-List.map_set,-List.getD_eq_getElem?_getD,-getElem?_pos,-getElem?_neg,om,ir56,h1,h2,h3,k1,k2]
  ·simp (maxSteps:=9^9) (disch:=omega) [-List.map_replicate,-List.map_set,-List.getD_eq_getElem?_getD,-getElem?_pos,-getElem?_neg,om,ir56,h1,h2,k1,k2]
 ·simp (maxSteps:=9^9) (disch:=omega) [-List.map_replicate,-List.map_set,-List.getD_eq_getElem?_getD,-getElem?_pos,-getElem?_neg,om,ir56,h1,k1]
end Go.Proofs.YtfnkchadeaedlaaGreatDoor
namespace Go.Proofs.YtfnkchadeaedlaaGreatDoor
open Go.Am
set_option maxRecDepth 10000
set_option maxHeartbeats 4000000
theorem chCur_cons (order:List Str) (cur f:Fc) (r:List Fc):chCur order cur (f::r)=if cur.el≠f.el then cur::chCur order f r else if rk order f.lang<rk order cur.lang then chCur order f r else chCur order cur r:=by rw [chCur]
theorem ansChooseP (nl:Option Bool) (z:Nat) (l:List Fc) (hz:l≠ []→z=3) (hl:l.length<1000000) (on:Option Bool) (order:List Str) (ho:order.length<1000000):
  ansF cfg 79 [.lst nl z (l.map fcA),.lst on 1 (strA order)] []=some (.lst none 3 ((chooseP order l).map fcA), []):=by
 refine ans_of_wp fn79 low79 ?_
 have hLl:(l.map fcA).length=l.length:=by simp
 have hE: ∀k (h:k<l.length),(l.map fcA)[k]?=some (.agg [.int .i64 l[k].el,.str l[k].lang,.str l[k].text]):=fun k h=>get_map _ _ h
 have hI:=fun w=>ansIndexS on 1 order (fun _=>rfl) ho w
 simp only [idxS_rk] at hI
 generalize l.map fcA=E at*
 simp (maxSteps:=9^9) (disch:=omega) [-List.map_replicate,-List.map_set,-List.getD_eq_getElem?_getD,-getElem?_pos,-getElem?_neg,om,ir79,hLl]
 refine Wp.loopM (fun (a:Nat×List Fc)=>l.length-a.1) (fun a=> [none,some (.lst on 1 (strA order)),none,some (.osl 0 a.2.length),none,none,some (.lst nl z E),some (.int .i64 l.length),some (.int .i64 a.1),none,none,none,none,none,none,none,none]) (fun a=> [.sl ⟨false,some 79,none⟩ 3 (a.2.map fcA)]) (fun a=>a.1≤l.length∧a.2.length≤a.1∧((a.1=0∧a.2= [])∨ ∃done cur,a.2=done++ [cur]∧chooseP order l=done++chCur order cur (l.drop a.1))) ?_ (0, []) ⟨by simp,by simp,.inl ⟨rfl,rfl⟩⟩ (by simp) rfl
 rintro ⟨i,out⟩ ⟨hil,hol,hx⟩
 simp only at hil hol hx⊢
 by_cases h1:i<l.length
 ·have hg:=hE i h1
  obtain rfl:=hz (ne_of_lt h1)
  have hd:=List.drop_eq_getElem_cons h1
  rcases hx with ⟨rfl,rfl⟩ | ⟨done,cur,rfl,hx⟩
  ·have h0:chooseP order l= []++chCur order l[0] (l.drop 1):=by
    cases l with
    | nil=>simp at h1
    | cons f r=>rfl
   clear hE hz
   generalize l[0]=x at*
   simp (maxSteps:=9^9) (disch:=omega) [-List.map_replicate,-List.map_set,-List.getD_eq_getElem?_getD,-getElem?_pos,-getElem?_neg,om,h1,hg,splice]
   exact ⟨1, [x],⟨by omega,by simp,.inr ⟨[],x,rfl,h0⟩⟩,by omega,⟨rfl,rfl⟩,rfl⟩
  ·rw [hd] at hx
   rw [chCur_cons] at hx
   have hi1:=hI l[i].lang
   have hi2:=hI cur.lang
   have hpos:0<i:=by have:(done++ [cur]).length≤i:=hol;simp at this;omega
   clear hE hz hI
   generalize l[i]=x at*
   have hlast:((done++ [cur]).map fcA)[done.length]?=some (.agg [.int .i64 cur.el,.str cur.lang,.str cur.text]):=by simp [fcA]
   have hlen:(done++ [cur]).length=done.length+1:=by simp
   have hlen2:((done++ [cur]).map fcA).length=done.length+1:=by simp
   have hset:((done++ [cur]).map fcA).set done.length (.agg [.int .i64 x.el,.str x.lang,.str x.text])=(done++ [x]).map fcA:=by
    simp [fcA,List.set_append]
   have hn1:((done.length:Int)+1-1).toNat=done.length:=by omega
   have happ:(done++ [cur]).map fcA++ [.agg [.int .i64 x.el,.str x.lang,.str x.text]]=(done++ [cur]++ [x]).map fcA:=by simp [fcA]
   have hn0: ¬ ((done.length:Int)+1=0):=by omega
   rw [hlen]
   generalize hOA:(done++ [cur]).map fcA=OA at*
   simp (maxSteps:=9^9) (disch:=omega) [-List.map_replicate,-List.map_set,-List.getD_eq_getElem?_getD,-getElem?_pos,-getElem?_neg,om,h1,hg,splice,hi1,hi2,hlast,hlen2,hset,hn1,happ,hn0]
   by_cases e1:cur.el=x.el
   ·rw [if_pos e1];rw [if_neg (fun h=>h e1)] at hx
    by_cases e2:rk order x.lang<rk order cur.lang
    ·rw [if_pos e2];rw [if_pos e2] at hx
     exact ⟨i+1,done++ [x],⟨by omega,by simp at hol⊢;omega,.inr ⟨done,x,rfl,hx⟩⟩,by omega,⟨by simp,by simp⟩,by simp⟩
    ·rw [if_neg e2];rw [if_neg e2] at hx
     exact ⟨i+1,done++ [cur],⟨by omega,by simp at hol⊢;omega,.inr ⟨done,cur,rfl,hx⟩⟩,by omega,⟨by simp,by simp⟩,hOA.symm⟩
   ·rw [if_neg e1];rw [if_pos e1] at hx
    exact ⟨i+1,done++ [cur]++ [x],⟨by omega,by simp at hol⊢;omega,.inr ⟨done++ [cur],x,rfl,by rw [hx];simp⟩⟩,by omega,⟨by simp,by simp⟩,by simp⟩
 ·have hi2:i=l.length:=by omega
  subst hi2
  have hfin:chooseP order l=out:=by
   rcases hx with ⟨h0,rfl⟩ | ⟨done,cur,rfl,hx⟩
   ·rw [List.length_eq_zero_iff.1 h0];rfl
   ·rw [hx,List.drop_length];rfl
  rw [hfin]
  simp (maxSteps:=9^9) (disch:=omega) [-List.map_replicate,-List.map_set,-List.getD_eq_getElem?_getD,-getElem?_pos,-getElem?_neg,om,h1]
theorem nameGo_cons (order:List Str) (el:Int) (t:Str) (b:Int) (l:Lb) (r:List Lb):nameGo order el t b (l::r)=if l.el=el∧rk order l.lang<b then nameGo order el l.text (rk order l.lang) r else nameGo order el t b r:=by rw [nameGo]
theorem ansNameP (c:Ct) (hc:c.ok) (el:Int) (h0: -9223372036854775808≤el) (h9:el≤9223372036854775807) (on:Option Bool) (order:List Str) (ho:order.length<1000000):
  ansF cfg 113 [ctA c,.int .i64 el,.lst on 1 (strA order)] []=some (.str (nameP order c.labs el (elemS Lib.itoa el)), []):=by
 refine ans_of_wp fn113 low113 ?_
 have hbl:=hc.bl
 have hbz:=hc.bz
 have hil:=Lib.itoa_length_le el h0 h9
 have hI:=fun w=>ansIndexS on 1 order (fun _=>rfl) ho w
 simp only [idxS_rk] at hI
 unfold nameP elemS ctA ctC
 obtain ⟨d,hd⟩: ∃d,d= [101,108,101,109,101,110,116,32]++Lib.itoa el:=⟨_,rfl⟩
 have hd2:101::108::101::109::101::110::116::32::Lib.itoa el=d:=by rw [hd];rfl
 rw [←hd]
 generalize c.shs.map shA=A3 at*
 generalize strA c.langs=A1 at*
 generalize c.labs=B at*
 generalize c.bz=bz at*
 have hBl:(B.map lbA).length=B.length:=by simp
 have hE: ∀k (h:k<B.length),(B.map lbA)[k]?=some (.agg [.int .i64 B[k].el,.str B[k].lang,.str B[k].text,.int .i64 B[k].ix]):=fun k h=>get_map _ _ h
 generalize B.map lbA=E at*
 have hol:(strA order).length=order.length:=strA_len order
 simp (maxSteps:=9^9) (disch:=omega) [-List.map_replicate,-List.map_set,-List.getD_eq_getElem?_getD,-getElem?_pos,-getElem?_neg,om,ir113,itoaG,h0,h9,hBl,hol,hd2]
 refine Wp.loopM (fun (a:Nat×Str×Int)=>B.length-a.1) (fun a=> [none,some (.int .i64 el),some (.lst on 1 (strA order)),none,none,some (.str a.2.1),some (.int .i64 a.2.2),none,none,none,some (.lst c.bn bz E),some (.int .i64 B.length),some (.int .i64 a.1),none,none,none,none]) (fun _=> [.var 26 [.lst c.ln c.lz A1,.lst c.bn bz E,.lst c.sn c.sz A3]]) (fun a=>a.1≤B.length∧nameGo order el d order.length B=nameGo order el a.2.1 a.2.2 (B.drop a.1)) ?_ (0,d,order.length) ⟨by simp,by simp⟩ (by simp) rfl
 rintro ⟨i,t,b⟩ ⟨hil,hx⟩
 simp only at hil hx⊢
 rw [hx]
 clear hx
 by_cases h1:i<B.length
 ·have hg:=hE i h1
  obtain rfl:bz=4:=hbz (ne_of_lt h1)
  have hi1:=hI B[i].lang
  rw [List.drop_eq_getElem_cons h1,nameGo_cons]
  clear hE hbz hI
  generalize B[i]=x at*
  simp (maxSteps:=9^9) (disch:=omega) [-List.map_replicate,-List.map_set,-List.getD_eq_getElem?_getD,-getElem?_pos,-getElem?_neg,om,h1,hg,splice,hi1]
  by_cases e1:x.el=el∧rk order x.lang<b
  ·rw [if_pos e1]
   exact ⟨i+1,_,_,⟨by omega,rfl⟩,by omega,rfl,rfl,by simp⟩
  ·rw [if_neg e1]
   exact ⟨i+1,t,b,⟨by omega,by rw [if_neg e1]⟩,by omega,rfl,rfl,by simp⟩
 ·rw [List.drop_eq_nil_of_le (by omega)]
  simp (maxSteps:=9^9) (disch:=omega) [-List.map_replicate,-List.map_set,-List.getD_eq_getElem?_getD,-getElem?_pos,-getElem?_neg,om,h1,nameGo]
theorem ansCiteU (c:Ct) (hc:c.ok) (u:Int) (hb: ∀s∈c.shs,s.mark.length<1000000∧s.title.length<1000000):ansF cfg 112 [ctA c,.int .i64 u] []=some (.str (citeS c.shs u), []):=by
 refine ans_of_wp fn112 low112 ?_
 have hf:=ansFind c.sn c.sz c.shs hc.sz hc.sl u
 have hz:=hc.sz
 unfold citeS ctA ctC
 cases hi:idxU c.shs u with
 | none=>
  rw [hi] at hf
  simp only [numOpt] at hf
  have hpl:=plain_shA c.shs
  generalize c.shs.map shA=E at*
  simp (maxSteps:=9^9) (disch:=omega) [-List.map_replicate,-List.map_set,-List.getD_eq_getElem?_getD,-getElem?_pos,-getElem?_neg,om,ir112,hf,hpl]
 | some i=>
  rw [hi] at hf
  simp only [numOpt] at hf
  have hil:=idxU_lt hi
  have hx:c.shs[i]?=some c.shs[i]:=List.getElem?_eq_getElem hil
  have hg:=get_shA c.shs hil
  obtain ⟨hb1,hb2⟩:=hb _ (List.getElem_mem hil)
  have hz6:=hz (ne_of_lt hil)
  have hpl:=plain_shA c.shs
  have hBl:(c.shs.map shA).length=c.shs.length:=by simp
  rw [hz6] at hf⊢
  simp only [hx]
  generalize c.shs.map shA=E at*
  generalize c.shs[i]=x at*
  have hil2:(i:Int)<(c.shs.length:Int):=by omega
  by_cases hm:x.mark= []
  ·rw [if_pos hm]
   simp (maxSteps:=9^9) (disch:=omega) [-List.map_replicate,-List.map_set,-List.getD_eq_getElem?_getD,-getElem?_pos,-getElem?_neg,om,ir112,hf,hpl,hg,hBl,hil2,splice,hm]
  ·rw [if_neg hm]
   have hm2:(x.mark== [])=false:=by simpa using hm
   simp (maxSteps:=9^9) (disch:=omega) [-List.map_replicate,-List.map_set,-List.getD_eq_getElem?_getD,-getElem?_pos,-getElem?_neg,om,ir112,hf,hpl,hg,hBl,hil2,splice,hm,hm2]
end Go.Proofs.YtfnkchadeaedlaaGreatDoor
namespace Go.Proofs.YtfnkchadeaedlaaGreatDoor
open Go.Am
set_option maxRecDepth 10000
set_option maxHeartbeats 4000000
theorem splice_str (a b:List Str) (k:Nat):splice (strA a) k (strA b)=strA (a.take k++b++a.drop (k+b.length)):=by
 simp [splice,strA]
theorem ansPrefer (c:Ct) (hc:c.ok) (s:Str) (hs:hasS c.langs s=true):ansF cfg 59 [ctA c,.str s] []=some (.lst none 1 (strA (preferP c.langs s)), []):=by
 refine ans_of_wp fn59 low59 ?_
 have hl:=hc.ll
 obtain ⟨i,hi⟩:=idxT_has hs
 have hil:=idxT_lt hi
 have hix:=ansIndexS none 1 c.langs (fun _=>rfl) hl s
 rw [idxS_T,hi] at hix
 obtain hz:c.lz=1:=hc.lz (ne_of_lt hil)
 unfold preferP ctA ctC
 rw [hi,hz]
 simp only [Nat.zero_add] at hix⊢
 clear hi hs
 generalize c.langs=L at*
 generalize c.shs.map shA=A3 at*
 generalize c.labs.map lbA=A2 at*
 have hLl:(strA L).length=L.length:=strA_len L
 have htk: ∀k,(strA L).take k=strA (L.take k):=fun k=>by simp [strA]
 have hts:L.take L.length=L:=List.take_length
 have hsp:splice (List.replicate L.length (AV.str [])) 0 (strA L)=strA L:=by
  simp [splice]
 have hpos:0<L.length:=by omega
 by_cases h1:L.length=1
 ·obtain rfl:i=0:=by omega
  obtain ⟨x,rfl⟩:=List.length_eq_one_iff.1 h1
  simp only [strA,List.map_cons,List.map_nil] at hix
  simp (maxSteps:=9^9) (disch:=omega) [-List.map_replicate,-List.map_set,-List.getD_eq_getElem?_getD,-getElem?_pos,-getElem?_neg,om,ir59,hix,splice,strA]
 ·have h2:(L.take i).length=i:=by simp;omega
  have h3:(strA (L.take i)).take (L.length-1)=strA (L.take i):=List.take_of_length_le (by rw [strA_len];omega)
  have h4:=splice_str L (L.take i) 1
  rw [h2,List.append_assoc] at h4
  have h5:(strA (L.take 1++(L.take i++L.drop (1+i)))).set 0 (.str s)=strA (s::(L.take i++L.drop (i+1))):=by
   match L,hpos with
   | x::r,_=>simp [strA,Nat.add_comm]
  have h6: ¬ (1:Nat)=L.length:=fun h=>h1 h.symm
  have h7:(L.take 1++(L.take i++L.drop (1+i))).length=L.length:=by simp;omega
  have h8:(strA (L.take 1++(L.take i++L.drop (1+i))))[0]?=some (.str ((L.take 1++(L.take i++L.drop (1+i))).getD 0 [])):=get_strA _ (by rw [h7];exact hpos)
  simp (maxSteps:=9^9) (disch:=omega) [-List.map_replicate,-List.map_set,-List.getD_eq_getElem?_getD,-getElem?_pos,-getElem?_neg,om,ir59,hix,hLl,htk,hts,hsp,h1,h3,h4,h5,h6,h7,h8,hil]
  try rfl
end Go.Proofs.YtfnkchadeaedlaaGreatDoor
namespace Go.Proofs.YtfnkchadeaedlaaGreatDoor
open Go.Am
set_option maxRecDepth 10000
set_option maxHeartbeats 4000000
abbrev BStr:=List UInt8
structure Bld (bs:List Box) (k j:Nat) (a:AV) (s:BStr):Prop where
 hk:Box.at bs k= .var 159 [a,.osl j s.length]
 hj:Box.at bs j= .sl ⟨false,some 5,none⟩ 1 (s.map ofByte)
 ne:j≠k
 ha:a= .nilp∨a= .ptr k 0
 kl:k<bs.length
 jl:j<bs.length
 sh:shut bs.length bs=true
theorem shut_set {n:Nat}: ∀{bs:List Box} (k:Nat) {x:Box},shut n bs=true→shut n [x]=true→shut n (bs.set k x)=true
 | [],_,_,_,_=>rfl
 | b::r,0,x,h,hx=>by
  cases x <;> cases b <;> simp_all [shut]
 | b::r,k+1,x,h,hx=>by
  have:=fun (h:shut n r=true)=>shut_set (bs:=r) k h hx
  cases b <;> simp_all [shut]
def bldSet (bs:List Box) (k j:Nat) (s:BStr):List Box:=(bs.set k (.var 159 [.ptr k 0,.osl j s.length])).set j (.sl ⟨false,some 5,none⟩ 1 (s.map ofByte))
theorem ansCopyCheck {bs:List Box} {k j:Nat} {a:AV} {s:BStr} (h:Bld bs k j a s):ansF cfg 167 [.ptr k 0] bs=some (.tup [],bs.set k (.var 159 [.ptr k 0,.osl j s.length])):=by
 obtain ⟨hk,hj,ne,ha,kl,jl,sh⟩:=h
 refine ans_of_wp fn167 low167 ?_
 have a1: ∀l,Box.at (bs++l) k= .var 159 [a,.osl j s.length]:=fun l=>by rw [at_app_l _ _ kl,hk]
 have s1: ∀l b,(bs++l).set k b=bs.set k b++l:=fun l b=>List.set_append_left _ _ kl
 have m1:=shut_map (Nat.le_refl bs.length) (shut_set k sh (x:= .var 159 [.ptr k 0,.osl j s.length]) (by simp [shut,underAll,AV.under,kl,jl]))
 rcases ha with rfl | rfl
 ·simp (maxSteps:=9^9) (disch:=omega) [-List.map_replicate,-List.map_set,-List.getD_eq_getElem?_getD,-getElem?_pos,-getElem?_neg,om,ir167,sameG,splice,Cfg.descOf,hk,a1,s1,m1]
  exact List.take_left' (by simp)
 ·have e:bs.set k (.var 159 [.ptr k 0,.osl j s.length])=bs:=by
   rw [←hk]
   apply List.ext_getElem?
   intro i
   by_cases hi:i=k
   ·subst hi;simp [Box.at,kl,List.getD_eq_getElem?_getD]
   ·rw [List.getElem?_set_ne (Ne.symm hi)]
  simp (maxSteps:=9^9) (disch:=omega) [-List.map_replicate,-List.map_set,-List.getD_eq_getElem?_getD,-getElem?_pos,-getElem?_neg,om,ir167,Cfg.descOf,hk,e]
theorem ansWriteStr {bs:List Box} {k j:Nat} {a:AV} {s:BStr} (h:Bld bs k j a s) (x:BStr) (hl:s.length<100000000) (hx:x.length<1000000):
  ansF cfg 126 [.ptr k 0,.str x] bs=some (.tup [.int .i64 x.length,.ifc false],bldSet bs k j (s++x)):=by
 have hc:=ansCopyCheck h
 obtain ⟨hk,hj,ne,ha,kl,jl,sh⟩:=h
 refine ans_of_wp fn126 low126 ?_
 have e1:Box.at (bs.set k (.var 159 [.ptr k 0,.osl j s.length])) k= .var 159 [.ptr k 0,.osl j s.length]:=by rw [Go.Am.at_set _ _ _ kl,if_pos rfl]
 have e2:Box.at (bs.set k (.var 159 [.ptr k 0,.osl j s.length])) j= .sl ⟨false,some 5,none⟩ 1 (s.map ofByte):=by rw [Go.Am.at_set _ _ _ kl,if_neg (Ne.symm ne),hj]
 have shc:=shut_set k sh (x:= .var 159 [.ptr k 0,.osl j s.length]) (by simp [shut,underAll,AV.under,kl,jl])
 have m2:=shut_map (Nat.le_refl bs.length) (shut_set j shc (x:= .sl ⟨false,some 5,none⟩ 1 ((s++x).map ofByte)) rfl)
 have hCl:(bs.set k (.var 159 [.ptr k 0,.osl j s.length])).length=bs.length:=by simp
 have hfin:bldSet bs k j (s++x)=((bs.set k (.var 159 [.ptr k 0,.osl j s.length])).set j (.sl ⟨false,some 5,none⟩ 1 ((s++x).map ofByte))).set k (.var 159 [.ptr k 0,.osl j (s++x).length]):=by
  unfold bldSet
  rw [List.set_comm _ _ ne,List.set_set]
 rw [hfin]
 generalize bs.set k (.var 159 [.ptr k 0,.osl j s.length])=C at*
 have a1: ∀l,Box.at (C++l) k= .var 159 [.ptr k 0,.osl j s.length]:=fun l=>by rw [at_app_l _ _ (by omega),e1]
 have a2: ∀l,Box.at (C++l) j= .sl ⟨false,some 5,none⟩ 1 (s.map ofByte):=fun l=>by rw [at_app_l _ _ (by omega),e2]
 have s2: ∀l b,(C++l).set j b=C.set j b++l:=fun l b=>List.set_append_left _ _ (by omega)
 have e3:Box.at (C.set j (.sl ⟨false,some 5,none⟩ 1 (s.map ofByte++x.map ofByte))) k= .var 159 [.ptr k 0,.osl j s.length]:=by rw [Go.Am.at_set _ _ _ (by omega),if_neg ne,e1]
 have m3:=shut_map (Nat.le_refl bs.length) (shut_set k (shut_set j shc (x:= .sl ⟨false,some 5,none⟩ 1 (s.map ofByte++x.map ofByte)) rfl) (x:= .var 159 [.ptr k 0,.osl j (s.length+x.length)]) (by simp [shut,underAll,AV.under,kl,jl]))
 have hDl:(C.set j (.sl ⟨false,some 5,none⟩ 1 (s.map ofByte++x.map ofByte))).length=bs.length:=by simp [hCl]
 generalize hD:C.set j (.sl ⟨false,some 5,none⟩ 1 (s.map ofByte++x.map ofByte))=D at*
 have b1: ∀l,Box.at (D++l) k= .var 159 [.ptr k 0,.osl j s.length]:=fun l=>by rw [at_app_l _ _ (by omega),e3]
 have t2: ∀l b,(D++l).set k b=D.set k b++l:=fun l b=>List.set_append_left _ _ (by omega)
 simp (maxSteps:=9^9) (disch:=omega) [-List.map_replicate,-List.map_set,-List.getD_eq_getElem?_getD,-getElem?_pos,-getElem?_neg,om,ir126,hc,splice,a1,a2,s2,hCl,hD,b1,t2,m3,hDl]
 try exact List.take_left' (by simp [hDl])
theorem far {C bs:List Box} (h:C.length=bs.length):(∀l,(C++l)[bs.length]?=l[0]?)∧(∀l m,(C++l)[bs.length+m]?=l[m]?)∧(∀l X,(C++l).set bs.length X=C++l.set 0 X)∧(∀l m X,(C++l).set (bs.length+m) X=C++l.set m X)∧(∀l,Box.at (C++l) bs.length=Box.at l 0)∧(∀l m,Box.at (C++l) (bs.length+m)=Box.at l m)∧(∀l,(C++l).take bs.length=C):=by
 rw [←h]
 exact ⟨fun l=>by simpa using get_app_r C l 0,fun l m=>get_app_r C l m,fun l X=>by simpa using set_app_r C l 0 X,fun l m X=>set_app_r C l m X,fun l=>by simpa using at_app_r C l 0,fun l m=>at_app_r C l m,fun l=>List.take_left' rfl⟩
theorem ansWriteByte {bs:List Box} {k j:Nat} {a:AV} {s:BStr} (h:Bld bs k j a s) (x:UInt8) (hl:s.length<100000000):
  ansF cfg 127 [.ptr k 0,.int .u8 (x.toNat:Int)] bs=some (.ifc false,bldSet bs k j (s++ [x])):=by
 have hc:=ansCopyCheck h
 obtain ⟨hk,hj,ne,ha,kl,jl,sh⟩:=h
 refine ans_of_wp fn127 low127 ?_
 have e1:Box.at (bs.set k (.var 159 [.ptr k 0,.osl j s.length])) k= .var 159 [.ptr k 0,.osl j s.length]:=by rw [Go.Am.at_set _ _ _ kl,if_pos rfl]
 have e2:Box.at (bs.set k (.var 159 [.ptr k 0,.osl j s.length])) j= .sl ⟨false,some 5,none⟩ 1 (s.map ofByte):=by rw [Go.Am.at_set _ _ _ kl,if_neg (Ne.symm ne),hj]
 have shc:=shut_set k sh (x:= .var 159 [.ptr k 0,.osl j s.length]) (by simp [shut,underAll,AV.under,kl,jl])
 have hCl:(bs.set k (.var 159 [.ptr k 0,.osl j s.length])).length=bs.length:=by simp
 have hfin:bldSet bs k j (s++ [x])=((bs.set k (.var 159 [.ptr k 0,.osl j s.length])).set j (.sl ⟨false,some 5,none⟩ 1 (s.map ofByte++ [ofByte x]))).set k (.var 159 [.ptr k 0,.osl j (s.length+1)]):=by
  unfold bldSet
  rw [List.set_comm _ _ ne,List.set_set]
  simp
 rw [hfin]
 generalize bs.set k (.var 159 [.ptr k 0,.osl j s.length])=C at*
 have a1: ∀l,Box.at (C++l) k= .var 159 [.ptr k 0,.osl j s.length]:=fun l=>by rw [at_app_l _ _ (by omega),e1]
 have a2: ∀l,Box.at (C++l) j= .sl ⟨false,some 5,none⟩ 1 (s.map ofByte):=fun l=>by rw [at_app_l _ _ (by omega),e2]
 have s2: ∀l b,(C++l).set j b=C.set j b++l:=fun l b=>List.set_append_left _ _ (by omega)
 have e3:Box.at (C.set j (.sl ⟨false,some 5,none⟩ 1 (s.map ofByte++ [ofByte x]))) k= .var 159 [.ptr k 0,.osl j s.length]:=by rw [Go.Am.at_set _ _ _ (by omega),if_neg ne,e1]
 have m3:=shut_map (Nat.le_refl bs.length) (shut_set k (shut_set j shc (x:= .sl ⟨false,some 5,none⟩ 1 (s.map ofByte++ [ofByte x])) rfl) (x:= .var 159 [.ptr k 0,.osl j (s.length+1)]) (by simp [shut,underAll,AV.under,kl,jl]))
 have hDl:(C.set j (.sl ⟨false,some 5,none⟩ 1 (s.map ofByte++ [ofByte x]))).length=bs.length:=by simp [hCl]
 generalize hD:C.set j (.sl ⟨false,some 5,none⟩ 1 (s.map ofByte++ [ofByte x]))=D at*
 have b1: ∀l,Box.at (D++l) k= .var 159 [.ptr k 0,.osl j s.length]:=fun l=>by rw [at_app_l _ _ (by omega),e3]
 have t2: ∀l b,(D++l).set k b=D.set k b++l:=fun l b=>List.set_append_left _ _ (by omega)
 have of1:AV.int .u8 (x.toNat:Int)=ofByte x:=rfl
 obtain ⟨p1,p2,p3,p4,p5,p6,p7⟩:=far hCl
 obtain ⟨q1,q2,q3,q4,q5,q6,q7⟩:=far hDl
 have z1:bs.length+1-bs.length=1:=by omega
 simp (maxSteps:=9^9) (disch:=omega) [-List.map_replicate,-List.map_set,-List.getD_eq_getElem?_getD,-getElem?_pos,-getElem?_neg,om,ir127,hc,splice,a1,a2,s2,hCl,hD,b1,t2,m3,hDl,of1,p1,p2,p3,p4,p5,p6,p7,q1,q2,q3,q4,q5,q6,q7,z1]
 try exact List.take_left' (by simp [hDl])
theorem ansStringB {bs:List Box} {k j:Nat} {a:AV} {s:BStr} (h:Bld bs k j a s) (hl:s.length<100000000) (h0:s≠ []):
  ansF cfg 128 [.ptr k 0] bs=some (.str s,bs.set j (.sl ⟨false,none,none⟩ 1 (s.map ofByte))):=by
 obtain ⟨hk,hj,ne,ha,kl,jl,sh⟩:=h
 refine ans_of_wp fn128 low128 ?_
 have hb:=bytesN_ofByte s
 have e1:Box.at (bs.set j (.sl ⟨false,none,none⟩ 1 (s.map ofByte))) k= .var 159 [a,.osl j s.length]:=by rw [Go.Am.at_set _ _ _ jl,if_neg ne,hk]
 have e2:Box.at (bs.set j (.sl ⟨false,none,none⟩ 1 (s.map ofByte))) j= .sl ⟨false,none,none⟩ 1 (s.map ofByte):=by rw [Go.Am.at_set _ _ _ jl,if_pos rfl]
 cases s with
 | nil=>exact absurd rfl h0
 | cons c s=>
  simp only [List.length_cons,List.map_cons] at*
  simp (maxSteps:=9^9) (disch:=omega) [-List.map_replicate,-List.map_set,-List.getD_eq_getElem?_getD,-getElem?_pos,-getElem?_neg,om,ir128,hk,hj,e1,e2,hb,Cfg.descOf]
theorem ansStringB0 {bs:List Box} {k j:Nat} {a:AV} (h:Bld bs k j a []):
  ansF cfg 128 [.ptr k 0] bs=some (.str [],bs.set j (.sl ⟨false,none,none⟩ 1 [])):=by
 obtain ⟨hk,hj,ne,ha,kl,jl,sh⟩:=h
 refine ans_of_wp fn128 low128 ?_
 have e1:Box.at (bs.set j (.sl ⟨false,none,none⟩ 1 [])) k= .var 159 [a,.osl j 0]:=by rw [Go.Am.at_set _ _ _ jl,if_neg ne,hk];rfl
 have e2:Box.at (bs.set j (.sl ⟨false,none,none⟩ 1 [])) j= .sl ⟨false,none,none⟩ 1 []:=by rw [Go.Am.at_set _ _ _ jl,if_pos rfl]
 simp only [List.length_nil,List.map_nil] at hk hj
 simp (maxSteps:=9^9) (disch:=omega) [-List.map_replicate,-List.map_set,-List.getD_eq_getElem?_getD,-getElem?_pos,-getElem?_neg,om,ir128,hk,hj,e1,e2,Cfg.descOf]
end Go.Proofs.YtfnkchadeaedlaaGreatDoor
namespace Go.Proofs.YtfnkchadeaedlaaGreatDoor
open Go.Am Go.ChangeShapes Go.WideShapes Go.RowKit
set_option maxRecDepth 10000
set_option maxHeartbeats 4000000
structure Sh.inn (s:Sh):Prop where
 fz:s.facts≠ []→s.fz=3
 fl:s.facts.length≤maxLen
structure Ct.inn (c:Ct):Prop where
 lz:c.langs≠ []→c.lz=1
 bz:c.labs≠ []→c.bz=4
 sz:c.shs≠ []→c.sz=6
 ll:c.langs.length≤maxLen
 bl:c.labs.length≤maxLen
 sl:c.shs.length≤maxLen
 sh: ∀s∈c.shs,s.inn
theorem shp_string {m:Nat} {cs:List AV} (h:Shp Tryz.prog m 9 cs): ∃s:Str,True∧elemOfCells (aggU (Tryz.prog.underlying 9)) cs=AV.str s:=by
 obtain ⟨s,rfl,_⟩:=h.str (by kernel_rfl)
 exact ⟨s,trivial,by rw [show Tryz.prog.underlying 9=some .string by kernel_rfl];rfl⟩
theorem shp_label {m:Nat} {cs:List AV} (h:Shp Tryz.prog m 77 cs): ∃n:Lb,True∧elemOfCells (aggU (Tryz.prog.underlying 77)) cs=lbA n:=by
 have hfs:Tryz.prog.underlying 77=some (.struct (fieldsAt Tryz.prog 77)):=by kernel_rfl
 have hft:(fieldsAt Tryz.prog 77).toList.map (·.type)= [3,9,9,3]:=by kernel_rfl
 obtain ⟨m,hs⟩:=h.struct hfs
 rw [hft] at hs
 obtain ⟨a,r,rfl,ha,b,r2,rfl,hb,c,r3,rfl,hc,d,r4,rfl,hd,rfl⟩:=hs
 obtain ⟨x,rfl,_⟩:=ha.int (k:= .i64) (by kernel_rfl)
 obtain ⟨s,rfl,_⟩:=hb.str (by kernel_rfl)
 obtain ⟨t,rfl,_⟩:=hc.str (by kernel_rfl)
 obtain ⟨y,rfl,_⟩:=hd.int (k:= .i64) (by kernel_rfl)
 exact ⟨⟨x,s,t,y⟩,trivial,by rw [hfs];rfl⟩
theorem shp_fact {m:Nat} {cs:List AV} (h:Shp Tryz.prog m 79 cs): ∃n:Fc,True∧elemOfCells (aggU (Tryz.prog.underlying 79)) cs=fcA n:=by
 have hfs:Tryz.prog.underlying 79=some (.struct (fieldsAt Tryz.prog 79)):=by kernel_rfl
 have hft:(fieldsAt Tryz.prog 79).toList.map (·.type)= [3,9,9]:=by kernel_rfl
 obtain ⟨m,hs⟩:=h.struct hfs
 rw [hft] at hs
 obtain ⟨a,r,rfl,ha,b,r2,rfl,hb,c,r3,rfl,hc,rfl⟩:=hs
 obtain ⟨x,rfl,_⟩:=ha.int (k:= .i64) (by kernel_rfl)
 obtain ⟨s,rfl,_⟩:=hb.str (by kernel_rfl)
 obtain ⟨t,rfl,_⟩:=hc.str (by kernel_rfl)
 exact ⟨⟨x,s,t⟩,trivial,by rw [hfs];rfl⟩
theorem shp_sheet {m:Nat} {cs:List AV} (h:Shp Tryz.prog m 73 cs): ∃n:Sh,n.inn∧elemOfCells (aggU (Tryz.prog.underlying 73)) cs=shA n:=by
 have hfs:Tryz.prog.underlying 73=some (.struct (fieldsAt Tryz.prog 73)):=by kernel_rfl
 have hft:(fieldsAt Tryz.prog 73).toList.map (·.type)= [3,3,3,9,9,71]:=by kernel_rfl
 obtain ⟨m,hs⟩:=h.struct hfs
 rw [hft] at hs
 obtain ⟨a,r,rfl,ha,b,r2,rfl,hb,c,r3,rfl,hc,d,r4,rfl,hd,e,r5,rfl,he,f,r6,rfl,hf,rfl⟩:=hs
 obtain ⟨x,rfl,_⟩:=ha.int (k:= .i64) (by kernel_rfl)
 obtain ⟨y,rfl,_⟩:=hb.int (k:= .i64) (by kernel_rfl)
 obtain ⟨z,rfl,_⟩:=hc.int (k:= .i64) (by kernel_rfl)
 obtain ⟨s,rfl,_⟩:=hd.str (by kernel_rfl)
 obtain ⟨t,rfl,_⟩:=he.str (by kernel_rfl)
 obtain ⟨n1,z1,l1,rfl,p1,q1,s1,_⟩:=hf.sliceMap (e:=79) fcA (fun _=>True) (by kernel_rfl) 3 (by kernel_rfl) (by decide) (fun m cs h=>shp_fact h)
 exact ⟨⟨x,y,z,s,t,l1,some n1,z1⟩,⟨fun hl=>p1 0 (List.length_pos_iff.2 hl),s1⟩,by rw [hfs];rfl⟩
theorem args_ct {ts:List TypeId} {xs:List AV} (h:ShpArgs Tryz.prog (26::ts) xs): ∃(c:Ct) (r:List AV),xs=ctA c::r∧c.inn∧ShpArgs Tryz.prog ts r:=by
 obtain ⟨n,cs,r,rfl,h1,h2⟩:=h
 have hfs:Tryz.prog.underlying 26=some (.struct (fieldsAt Tryz.prog 26)):=by kernel_rfl
 have hft:(fieldsAt Tryz.prog 26).toList.map (·.type)= [22,23,24]:=by kernel_rfl
 obtain ⟨m,hs⟩:=h1.struct hfs
 rw [hft] at hs
 obtain ⟨a,r1,rfl,ha,b,r2,rfl,hb,c,r3,rfl,hc,rfl⟩:=hs
 obtain ⟨n1,z1,l1,rfl,p1,q1,s1,_⟩:=ha.sliceMap (e:=9) AV.str (fun _=>True) (by kernel_rfl) 1 (by kernel_rfl) (by decide) (fun m cs h=>shp_string h)
 obtain ⟨n2,z2,l2,rfl,p2,q2,s2,_⟩:=hb.sliceMap (e:=77) lbA (fun _=>True) (by kernel_rfl) 4 (by kernel_rfl) (by decide) (fun m cs h=>shp_label h)
 obtain ⟨n3,z3,l3,rfl,p3,q3,s3,t3⟩:=hc.sliceMap (e:=73) shA Sh.inn (by kernel_rfl) 6 (by kernel_rfl) (by decide) (fun m cs h=>shp_sheet h)
 exact ⟨⟨l1,l2,l3,some n1,z1,some n2,z2,some n3,z3⟩,r,by rw [hfs];rfl,⟨fun hl=>p1 0 (List.length_pos_iff.2 hl),fun hl=>p2 0 (List.length_pos_iff.2 hl),fun hl=>p3 0 (List.length_pos_iff.2 hl),s1,s2,s3,t3⟩,h2⟩
theorem args_int {ts:List TypeId} {xs:List AV} (h:ShpArgs Tryz.prog (3::ts) xs): ∃(i:Int) (r:List AV),xs= .int .i64 i::r∧ -9223372036854775808≤i∧i≤9223372036854775807∧ShpArgs Tryz.prog ts r:=by
 obtain ⟨n,cs,r,rfl,h1,h2⟩:=h
 obtain ⟨x,rfl,hx⟩:=h1.int (k:= .i64) (by kernel_rfl)
 simp [Lit.wf,IntKind.min,IntKind.max,IntKind.signed,IntKind.bits] at hx
 exact ⟨x,r,by rw [show Tryz.prog.underlying 3=some (.int .i64) by kernel_rfl];rfl,by omega,by omega,h2⟩
theorem args_strC {ts:List TypeId} {xs:List AV} (h:ShpArgs Tryz.prog (9::ts) xs): ∃(s:Str) (r:List AV),xs= .str s::r∧s.length≤maxLen∧ShpArgs Tryz.prog ts r:=by
 obtain ⟨n,cs,r,rfl,h1,h2⟩:=h
 obtain ⟨s,rfl,hs⟩:=h1.str (by kernel_rfl)
 exact ⟨s,r,by rw [show Tryz.prog.underlying 9=some .string by kernel_rfl];rfl,hs,h2⟩
end Go.Proofs.YtfnkchadeaedlaaGreatDoor
namespace Go.Proofs.YtfnkchadeaedlaaGreatDoor
open Go.Am
set_option maxRecDepth 10000
set_option maxHeartbeats 4000000
def numE (m acc:Nat):Str→Nat×Nat
 | []=>(acc,0)
 | c::r=>if 48≤c.toNat∧c.toNat≤57 then (if m<acc*10+(c.toNat-48) then (m,1) else numE m (acc*10+(c.toNat-48)) r) else (0,2)
def inE (n:Nat):AV:=if n=0 then .ifc false else .ifi 193 .i64 n
theorem numE_cons (m acc:Nat) (c:UInt8) (r:Str):numE m acc (c::r)=if 48≤c.toNat∧c.toNat≤57 then (if m<acc*10+(c.toNat-48) then (m,1) else numE m (acc*10+(c.toNat-48)) r) else (0,2):=rfl
theorem numE_code (m:Nat): ∀(s:Str) (acc:Nat),(numE m acc s).2=0∨(numE m acc s).2=1∨(numE m acc s).2=2
 | [],_=> .inl rfl
 | c::r,acc=>by
  rw [numE_cons]
  split
  ·split
   ·exact .inr (.inl rfl)
   ·exact numE_code m r _
  ·exact .inr (.inr rfl)
theorem numE_le (m:Nat): ∀(s:Str) (acc:Nat),acc≤m→(numE m acc s).1≤m
 | [],_,h=>h
 | c::r,acc,h=>by
  rw [numE_cons]
  split
  ·split
   ·exact Nat.le_refl _
   ·exact numE_le m r _ (by omega)
  ·exact Nat.zero_le _
theorem dropB (s:Str) {i:Nat} (h:i<s.length):s.drop i=s.getD i 0::s.drop (i+1):=by
 rw [List.drop_eq_getElem_cons h]
 simp [List.getD_eq_getElem?_getD,h]
theorem indexG_at (s:Str) (c:UInt8):indexG [.str s,ofByte c]=some (.int .i64 (Lib.indexByte s c)):=by
 simp [indexG,ofByte]
theorem ansIndexByte (s:Str) (c:UInt8):ansF cfg 80 [.str s,ofByte c] []=some (.int .i64 (Lib.indexByte s c), []):=by
 have h1:ansF cfg 131 [.str s,ofByte c] []=some (.int .i64 (Lib.indexByte s c), []):=by
  refine ans_of_wp fn131 low131 ?_
  simp (maxSteps:=9^9) (disch:=omega) [-List.map_replicate,-List.map_set,-List.getD_eq_getElem?_getD,-getElem?_pos,-getElem?_neg,om,ir131,indexG_at]
 refine ans_of_wp fn80 low80 ?_
 simp (maxSteps:=9^9) (disch:=omega) [-List.map_replicate,-List.map_set,-List.getD_eq_getElem?_getD,-getElem?_pos,-getElem?_neg,om,ir80,h1]
theorem ansLower (c:UInt8): ∃z:Int,ansF cfg 170 [ofByte c] []=some (.int .u8 z, []):=by
 apply Exists.intro
 refine ans_of_wp fn170 low170 ?_
 simp (maxSteps:=9^9) (disch:=omega) [-List.map_replicate,-List.map_set,-List.getD_eq_getElem?_getD,-getElem?_pos,-getElem?_neg,om,ir170,ofByte]
 exact rfl
theorem ansParseIn (m:Nat) (bits:Int) (hm:m=1099511627775∧bits=40∨m=65535∧bits=16) (c0:UInt8) (s0:Str) (hl:s0.length<1000000):
  ansF cfg 132 [.str (c0::s0),.int .i64 10,.int .i64 bits] []=some (.tup [.int .u64 (numE m 0 (c0::s0)).1,inE (numE m 0 (c0::s0)).2], []):=by
 refine ans_of_wp fn132 low132 ?_
 have hb:0<bits∧bits<64:=by omega
 have hsl:(c0::s0).length<1000001:=by simp;omega
 have hne:c0::s0≠ []:=by simp
 generalize c0::s0=s at*
 have hml:(s.map ofByte).length=s.length:=by simp
 obtain ⟨⟨v,k⟩,hvk⟩: ∃vk:Nat×Nat,vk=numE m 0 s:=⟨_,rfl⟩
 rw [←hvk]
 have hz:(IntKind.u64.wrap (2^min (IntKind.u64.wrap bits).toNat IntKind.u64.bits)-1)=m∧ ¬ IntKind.u64.wrap bits<0∧m<1099511627776:=by
  rcases hm with ⟨rfl,rfl⟩ | ⟨rfl,rfl⟩ <;> decide
 obtain ⟨z1,z2,z3⟩:=hz
 clear hm
 have hw:IntKind.u64.wrap (m:Int)=m:=by
  show (m:Int)%18446744073709551616=_
  omega
 simp (maxSteps:=9^9) (disch:=omega) [-List.map_replicate,-List.map_set,-List.getD_eq_getElem?_getD,-getElem?_pos,-getElem?_neg,om,ir132,hne,hb.1,hb.2,z1,z2,Cfg.descOf,hw]
 have hgg: ∀{i:Nat},i<s.length→(s.map ofByte)[i]?=some (.int .u8 ((s.getD i 0).toNat:Int)):=fun {i} h=>by
  rw [List.getElem?_map,List.getElem?_eq_getElem h];simp [List.getD_eq_getElem?_getD,h,ofByte]
 refine Wp.loopM (fun (a:Nat×Nat)=>s.length-a.1) (fun a=> [none,some (.int .i64 10),none,none,none,some (.bool false),some (.str s),some (.int .u64 1844674407370955162),some (.int .u64 m),some (.bool false),some (.int .u64 a.2),none,none,none,none,none,none,none,none,none,none,none,none,none,none,none,none,none,none,none,none,none,some (.osl 1 s.length),some (.int .i64 s.length),some (.int .i64 a.1),none,none,none,none,none,none,none,none,none,none,none,none,none,none,none,none,none]) (fun _=> [.dead,.sl ⟨false,some 5,none⟩ 1 (s.map ofByte)]) (fun a=>(v,k)=numE m a.2 (s.drop a.1)∧a.1≤s.length∧a.2≤m) ?_ (0,0) ⟨hvk,by simp,by simp⟩ (by simp) rfl
 rintro ⟨i,acc⟩ ⟨hi,hil,hac⟩
 simp only at hi hil hac⊢
 by_cases h1:i<s.length
 ·have hg:=hgg h1
  rw [dropB s h1,numE_cons] at hi
  generalize s.getD i 0=c at*
  clear hgg
  obtain ⟨z,hz⟩:=ansLower c
  simp only [ofByte] at hz
  have w8:IntKind.u8.wrap 10=10:=rfl
  have w64:IntKind.u64.wrap 10=10:=rfl
  by_cases f1:48≤c.toNat∧c.toNat≤57
  ·rw [if_pos f1] at hi
   have d1:IntKind.u8.wrap ((c.toNat:Int)-48)=((c.toNat-48:Nat):Int):=by
    show ((c.toNat:Int)-48)%256=_
    omega
   have d2: ∀n:Nat,n<18446744073709551616→IntKind.u64.wrap (n:Int)=n:=fun n hn=>by
    show (n:Int)%18446744073709551616=_
    omega
   have d3:(acc:Int)*10=((acc*10:Nat):Int):=by omega
   have d4:IntKind.u64.wrap ((acc:Int)*10)=((acc*10:Nat):Int):=by rw [d3,d2 _ (by omega)]
   have d5:IntKind.u64.wrap ((c.toNat-48:Nat):Int)=((c.toNat-48:Nat):Int):=d2 _ (by omega)
   have d6:IntKind.u64.wrap (((acc*10:Nat):Int)+((c.toNat-48:Nat):Int))=((acc*10+(c.toNat-48):Nat):Int):=by rw [←Int.natCast_add,d2 _ (by omega)]
   clear d2
   generalize hn1:acc*10=n1 at*
   generalize hn2:c.toNat-48=n2 at*
   obtain ⟨f1a,f1b⟩:=f1
   by_cases f2:m<n1+n2
   ·rw [if_pos f2] at hi
    obtain ⟨rfl,rfl⟩:=Prod.mk.inj hi
    simp (maxSteps:=9^9) (disch:=omega) [-List.map_replicate,-List.map_set,-List.getD_eq_getElem?_getD,-getElem?_pos,-getElem?_neg,om,h1,hg,splice,f1a,f1b,w8,w64,d1,d4,d5,d6,inE]
   ·rw [if_neg f2] at hi
    simp (maxSteps:=9^9) (disch:=omega) [-List.map_replicate,-List.map_set,-List.getD_eq_getElem?_getD,-getElem?_pos,-getElem?_neg,om,h1,hg,splice,f1a,f1b,w8,w64,d1,d4,d5,d6]
    refine ⟨i+1,n1+n2,⟨hi,by omega,by omega⟩,by omega,?_⟩
    exact ⟨by omega,by omega⟩
  ·rw [if_neg f1] at hi
   obtain ⟨rfl,rfl⟩:=Prod.mk.inj hi
   by_cases f3:97≤z
   ·by_cases f4:z≤122
    ·have d7:IntKind.u8.wrap (IntKind.u8.wrap (z-97)+10)=z-87:=by
      show ((z-97)%256+10)%256=_
      omega
     simp (maxSteps:=9^9) (disch:=omega) [-List.map_replicate,-List.map_set,-List.getD_eq_getElem?_getD,-getElem?_pos,-getElem?_neg,om,h1,hg,splice,hz,w8,w64,f1,f3,f4,d7,inE]
     intro;omega
    ·simp (maxSteps:=9^9) (disch:=omega) [-List.map_replicate,-List.map_set,-List.getD_eq_getElem?_getD,-getElem?_pos,-getElem?_neg,om,h1,hg,splice,hz,w8,w64,f1,f3,f4,inE]
     intro;omega
   ·simp (maxSteps:=9^9) (disch:=omega) [-List.map_replicate,-List.map_set,-List.getD_eq_getElem?_getD,-getElem?_pos,-getElem?_neg,om,h1,hg,splice,hz,w8,w64,f1,f3,inE]
    intro;omega
 ·rw [List.drop_eq_nil_of_le (by omega)] at hi
  obtain ⟨rfl,rfl⟩:=Prod.mk.inj hi
  simp (maxSteps:=9^9) (disch:=omega) [-List.map_replicate,-List.map_set,-List.getD_eq_getElem?_getD,-getElem?_pos,-getElem?_neg,om,h1,inE]
def puA (m:Nat) (s:Str):AV:=if s= [] then .tup [.int .u64 0,.ifc true] else .tup [.int .u64 (numE m 0 s).1,.ifc (decide ((numE m 0 s).2≠0))]
theorem ansParse (m:Nat) (bits:Int) (hm:m=1099511627775∧bits=40∨m=65535∧bits=16) (s:Str) (hl:s.length<1000000):
  ansF cfg 81 [.str s,.int .i64 10,.int .i64 bits] []=some (puA m s, []):=by
 refine ans_of_wp fn81 low81 ?_
 cases s with
 | nil=>
  have h0:ansF cfg 132 [.str [],.int .i64 10,.int .i64 bits] []=some (.tup [.int .u64 0,.ifi 193 .i64 2], []):=by
   refine ans_of_wp fn132 low132 ?_
   simp (maxSteps:=9^9) (disch:=omega) [-List.map_replicate,-List.map_set,-List.getD_eq_getElem?_getD,-getElem?_pos,-getElem?_neg,om,ir132]
  simp (maxSteps:=9^9) (disch:=omega) [-List.map_replicate,-List.map_set,-List.getD_eq_getElem?_getD,-getElem?_pos,-getElem?_neg,om,ir81,h0,toErrorG,puA]
 | cons c0 s0=>
  have hin:=ansParseIn m bits hm c0 s0 (by simp at hl;omega)
  have hne:c0::s0≠ []:=by simp
  have hcd:=numE_code m (c0::s0) 0
  generalize c0::s0=s at*
  clear hm
  unfold puA
  rw [if_neg hne]
  generalize (numE m 0 s).1=v at*
  generalize (numE m 0 s).2=k at*
  rcases hcd with rfl | rfl | rfl
  ·simp (maxSteps:=9^9) (disch:=omega) [-List.map_replicate,-List.map_set,-List.getD_eq_getElem?_getD,-getElem?_pos,-getElem?_neg,om,ir81,hin,inE]
  ·simp (maxSteps:=9^9) (disch:=omega) [-List.map_replicate,-List.map_set,-List.getD_eq_getElem?_getD,-getElem?_pos,-getElem?_neg,om,ir81,hin,inE,toErrorG]
  ·simp (maxSteps:=9^9) (disch:=omega) [-List.map_replicate,-List.map_set,-List.getD_eq_getElem?_getD,-getElem?_pos,-getElem?_neg,om,ir81,hin,inE,toErrorG]
theorem numE_numV: ∀(s:Str) (acc:Nat),numV acc s=if (numE 1099511627775 acc s).2=0 then some (numE 1099511627775 acc s).1 else none
 | [],acc=>rfl
 | c::r,acc=>by
  rw [numE_cons]
  unfold numV
  by_cases h1:48≤c.toNat∧c.toNat≤57
  ·rw [if_pos h1,if_pos h1]
   by_cases h2:1099511627775<acc*10+(c.toNat-48)
   ·rw [if_pos h2,if_pos h2];rfl
   ·rw [if_neg h2,if_neg h2,numE_numV r]
  ·rw [if_neg h1,if_neg h1];rfl
theorem numE_numW: ∀(s:Str) (acc:Nat),numW acc s=if (numE 65535 acc s).2=0 then some (numE 65535 acc s).1 else none
 | [],acc=>rfl
 | c::r,acc=>by
  rw [numE_cons]
  unfold numW
  by_cases h1:48≤c.toNat∧c.toNat≤57
  ·rw [if_pos h1,if_pos h1]
   by_cases h2:65535<acc*10+(c.toNat-48)
   ·rw [if_pos h2,if_pos h2];rfl
   ·rw [if_neg h2,if_neg h2,numE_numW r]
  ·rw [if_neg h1,if_neg h1];rfl
theorem ansParse40 (s:Str) (hl:s.length<1000000): ∃(v:Nat) (b:Bool),ansF cfg 81 [.str s,.int .i64 10,.int .i64 40] []=some (.tup [.int .u64 v,.ifc b], [])∧parse40 s=(if b then none else some v)∧v≤1099511627775:=by
 have h:=ansParse 1099511627775 40 (.inl ⟨rfl,rfl⟩) s hl
 unfold puA at h
 unfold parse40
 by_cases h0:s= []
 ·rw [if_pos h0] at h⊢
  exact ⟨0,true,h,rfl,by omega⟩
 ·rw [if_neg h0] at h⊢
  refine ⟨_,_,h,?_,numE_le 1099511627775 s 0 (by omega)⟩
  rw [numE_numV]
  by_cases hk:(numE 1099511627775 0 s).2=0
  ·simp [hk]
  ·simp [hk]
theorem ansParse16 (s:Str) (hl:s.length<1000000): ∃(v:Nat) (b:Bool),ansF cfg 81 [.str s,.int .i64 10,.int .i64 16] []=some (.tup [.int .u64 v,.ifc b], [])∧parse16 s=(if b then none else some v)∧v≤65535:=by
 have h:=ansParse 65535 16 (.inr ⟨rfl,rfl⟩) s hl
 unfold puA at h
 unfold parse16
 by_cases h0:s= []
 ·rw [if_pos h0] at h⊢
  exact ⟨0,true,h,rfl,by omega⟩
 ·rw [if_neg h0] at h⊢
  refine ⟨_,_,h,?_,numE_le 65535 s 0 (by omega)⟩
  rw [numE_numW]
  by_cases hk:(numE 65535 0 s).2=0
  ·simp [hk]
  ·simp [hk]
end Go.Proofs.YtfnkchadeaedlaaGreatDoor
namespace Go.Proofs.YtfnkchadeaedlaaGreatDoor
open Go.Am
set_option maxRecDepth 10000
set_option maxHeartbeats 4000000
def pcA (p:Int×Int):AV:= .tup [.int .i64 p.1,.int .i64 p.2]
theorem indexByte_lt: ∀(s:Str) (c:UInt8),-1≤Lib.indexByte s c∧(Lib.indexByte s c<s.length)
 | [],c=>by simp [Lib.indexByte]
 | b::l,c=>by
  have ih:=indexByte_lt l c
  rw [Lib.indexByte]
  split
  ·simp only [List.length_cons];omega
  ·split
   ·simp only [List.length_cons];omega
   ·simp only [List.length_cons];omega
theorem ansUnit (s:Str):ansF cfg 158 [.str s] []=some (pcA (pieceP s), []):=by
 refine ans_of_wp fn158 low158 ?_
 have hi:ansF cfg 80 [.str s,.int .u8 93] []=some (.int .i64 (Lib.indexByte s 93), []):=ansIndexByte s 93
 have hb:=indexByte_lt s 93
 have hsd: ∀{j:Nat},j<s.length→s[j]?=some (s.getD j 0):=fun {j} h=>by simp [List.getD_eq_getElem?_getD,h]
 unfold pieceP
 generalize Lib.indexByte s 93=n at*
 by_cases h1:n<2∨11<n
 ·have e:(n<2∨11<n∨s.getD 1 0=48):=by omega
  rw [if_pos e]
  rcases h1 with h1 | h1
  ·simp (maxSteps:=9^9) (disch:=omega) [-List.map_replicate,-List.map_set,-List.getD_eq_getElem?_getD,-getElem?_pos,-getElem?_neg,om,ir158,hi,h1,pcA]
  ·simp (maxSteps:=9^9) (disch:=omega) [-List.map_replicate,-List.map_set,-List.getD_eq_getElem?_getD,-getElem?_pos,-getElem?_neg,om,ir158,hi,h1,pcA]
 ·obtain ⟨n,rfl⟩: ∃k:Nat,n=k:=⟨n.toNat,by omega⟩
  have g1:=hsd (j:=1) (by omega)
  have hn:2≤n∧n≤11:=by omega
  have hnl:n<s.length:=by omega
  clear hsd h1 hb
  rw [Int.toNat_natCast]
  obtain ⟨v,b,hp,hpv,hv⟩:=ansParse40 ((s.take n).drop 1) (by simp;omega)
  generalize s.getD 1 0=c at*
  rw [hpv]
  have hw:(v:Int)%18446744073709551616=v:=by omega
  rw [List.drop_one] at hp
  by_cases hc:c=48
  ·subst hc
   rw [if_pos (.inr (.inr rfl))]
   simp (maxSteps:=9^9) (disch:=omega) [-List.map_replicate,-List.map_set,-List.getD_eq_getElem?_getD,-getElem?_pos,-getElem?_neg,om,ir158,hi,hn.1,hn.2,g1,ofByte,pcA]
  ·have hc2: ¬ ((c.toNat:Int)=48):=fun h=>hc (UInt8.toNat_inj.mp (by simp;omega))
   rw [if_neg (fun h=>by rcases h with h | h | h;omega;omega;exact hc h)]
   cases b with
   | true=>simp (maxSteps:=9^9) (disch:=omega) [-List.map_replicate,-List.map_set,-List.getD_eq_getElem?_getD,-getElem?_pos,-getElem?_neg,om,ir158,hi,hn.1,hn.2,g1,ofByte,pcA,hp,hc2]
   | false=>
    simp only [Bool.false_eq_true,if_false]
    by_cases hv2:1073741824<v
    ·simp (maxSteps:=9^9) (disch:=omega) [-List.map_replicate,-List.map_set,-List.getD_eq_getElem?_getD,-getElem?_pos,-getElem?_neg,om,ir158,hi,hn.1,hn.2,g1,ofByte,pcA,hp,hc2,hv2]
    ·simp (maxSteps:=9^9) (disch:=omega) [-List.map_replicate,-List.map_set,-List.getD_eq_getElem?_getD,-getElem?_pos,-getElem?_neg,om,ir158,hi,hn.1,hn.2,g1,ofByte,pcA,hp,hc2,hv2]
theorem ansCited (s:Str) (h00:s≠ []):ansF cfg 40 [.str s] []=some (pcA (pieceD s), []):=by
 refine ans_of_wp fn40 low40 ?_
 have hi:ansF cfg 80 [.str s,.int .u8 93] []=some (.int .i64 (Lib.indexByte s 93), []):=ansIndexByte s 93
 have hb:=indexByte_lt s 93
 have hsd: ∀{j:Nat},j<s.length→s[j]?=some (s.getD j 0):=fun {j} h=>by simp [List.getD_eq_getElem?_getD,h]
 have hs0:0<s.length:=List.length_pos_iff.mpr h00
 have g0:=hsd (j:=0) hs0
 unfold pieceD
 generalize hc0:s.getD 0 0=c0 at*
 by_cases h91:c0=91
 case neg=>
  have hc3: ¬ ((c0.toNat:Int)=91):=fun h=>h91 (UInt8.toNat_inj.mp (by simp;omega))
  rw [if_pos h91]
  clear hsd hi
  simp (maxSteps:=9^9) (disch:=omega) [-List.map_replicate,-List.map_set,-List.getD_eq_getElem?_getD,-getElem?_pos,-getElem?_neg,om,ir40,g0,ofByte,pcA,hc3]
 rw [if_neg (by simp [h91])]
 subst h91
 unfold pieceP
 generalize Lib.indexByte s 93=n at*
 by_cases h1:n<2∨11<n
 ·have e:(n<2∨11<n∨s.getD 1 0=48):=by omega
  rw [if_pos e]
  rcases h1 with h1 | h1
  ·simp (maxSteps:=9^9) (disch:=omega) [-List.map_replicate,-List.map_set,-List.getD_eq_getElem?_getD,-getElem?_pos,-getElem?_neg,om,ir40,hi,h1,pcA,g0,ofByte]
  ·simp (maxSteps:=9^9) (disch:=omega) [-List.map_replicate,-List.map_set,-List.getD_eq_getElem?_getD,-getElem?_pos,-getElem?_neg,om,ir40,hi,h1,pcA,g0,ofByte]
 ·obtain ⟨n,rfl⟩: ∃k:Nat,n=k:=⟨n.toNat,by omega⟩
  have g1:=hsd (j:=1) (by omega)
  have hn:2≤n∧n≤11:=by omega
  have hnl:n<s.length:=by omega
  clear hsd h1 hb
  rw [Int.toNat_natCast]
  obtain ⟨v,b,hp,hpv,hv⟩:=ansParse40 ((s.take n).drop 1) (by simp;omega)
  generalize s.getD 1 0=c at*
  rw [hpv]
  have hw:(v:Int)%18446744073709551616=v:=by omega
  rw [List.drop_one] at hp
  by_cases hc:c=48
  ·subst hc
   rw [if_pos (.inr (.inr rfl))]
   simp (maxSteps:=9^9) (disch:=omega) [-List.map_replicate,-List.map_set,-List.getD_eq_getElem?_getD,-getElem?_pos,-getElem?_neg,om,ir40,hi,hn.1,hn.2,g0,g1,ofByte,pcA]
  ·have hc2: ¬ ((c.toNat:Int)=48):=fun h=>hc (UInt8.toNat_inj.mp (by simp;omega))
   rw [if_neg (fun h=>by rcases h with h | h | h;omega;omega;exact hc h)]
   cases b with
   | true=>simp (maxSteps:=9^9) (disch:=omega) [-List.map_replicate,-List.map_set,-List.getD_eq_getElem?_getD,-getElem?_pos,-getElem?_neg,om,ir40,hi,hn.1,hn.2,g0,g1,ofByte,pcA,hp,hc2]
   | false=>
    simp only [Bool.false_eq_true,if_false]
    by_cases hv2:1073741824<v
    ·simp (maxSteps:=9^9) (disch:=omega) [-List.map_replicate,-List.map_set,-List.getD_eq_getElem?_getD,-getElem?_pos,-getElem?_neg,om,ir40,hi,hn.1,hn.2,g0,g1,ofByte,pcA,hp,hc2,hv2]
    ·simp (maxSteps:=9^9) (disch:=omega) [-List.map_replicate,-List.map_set,-List.getD_eq_getElem?_getD,-getElem?_pos,-getElem?_neg,om,ir40,hi,hn.1,hn.2,g0,g1,ofByte,pcA,hp,hc2,hv2]
end Go.Proofs.YtfnkchadeaedlaaGreatDoor
namespace Go.Proofs.YtfnkchadeaedlaaGreatDoor
open Go.Am
set_option maxRecDepth 10000
set_option maxHeartbeats 4000000
def bldBs (bs:List Box) (a:AV) (s:Str):List Box:=bs++ [.var 159 [a,.osl (bs.length+1) s.length],.sl ⟨false,some 5,none⟩ 1 (s.map ofByte)]
theorem bldBs_bld {bs:List Box} (hs:shut bs.length bs=true) {a:AV} (ha:a= .nilp∨a= .ptr bs.length 0) (s:Str):Bld (bldBs bs a s) bs.length (bs.length+1) a s:=by
 unfold bldBs
 refine ⟨?_,?_,by omega,ha,by simp,by simp,?_⟩
 ·rw [at_app_r0];rfl
 ·rw [at_app_r];rfl
 ·rw [shut_app,shut_le (by simp) hs]
  rcases ha with rfl | rfl <;> simp [shut,underAll,AV.under]
theorem bldBs_set {bs:List Box} {a:AV} {s t:Str}:bldSet (bldBs bs a s) bs.length (bs.length+1) t=bldBs bs (.ptr bs.length 0) t:=by
 unfold bldSet bldBs
 rw [set_app_r0,set_app_r];rfl
theorem ansExpand (f:FuncId) (hns:NoSum f) (j:Nat) (bs:List Box) (hsh:shut bs.length bs=true) (hj:j<bs.length) (nm:Int→Str)
  (hf: ∀u J,ansF cfg f [.int .i64 u,.ptr j 0] (bs++J)=some (.str (nm u),bs++J)) (hnm: ∀u,(nm u).length≤1000) (s:Str) (hs:s.length≤10000):
  ansF cfg 110 [.str s,.fn f [] [.ptr j 0]] bs=some (.str (expandS nm s),bs):=by
 refine ans_of_wp fn110 low110 ?_
 obtain ⟨n1,n2,n3,n4⟩:=hns
 simp only [exts,ovbs,ovs,muts] at n1 n2 n3 n4
 have hm:=shut_map (Nat.le_refl _) hsh
 simp (maxSteps:=9^9) (disch:=omega) [-List.map_replicate,-List.map_set,-List.getD_eq_getElem?_getD,-getElem?_pos,-getElem?_neg,om,ir110]
 refine Wp.loopM (fun (a:Nat×Str×AV)=>s.length-a.1) (fun a=> [some (.str s),some (.fn f [] [.ptr j 0]),none,some (.ptr bs.length 0),some (.int .i64 a.1),none,none,none,none,none,none,none,none]) (fun a=>bldBs bs a.2.2 a.2.1) (fun a=>expandS nm s=a.2.1++expandS nm (s.drop a.1)∧a.1≤s.length∧a.2.1.length≤1000*a.1∧(a.2.2= .nilp∨a.2.2= .ptr bs.length 0)) ?_ (0, [],.nilp) ⟨by simp,by simp,by simp,.inl rfl⟩ (by simp) rfl
 rintro ⟨i,out,a⟩ ⟨hi,hil,hol,ha⟩
 simp only at hi hil hol ha⊢
 have hbl:=bldBs_bld hsh ha out
 have hBl: ∀a out,(bldBs bs a out).length=bs.length+2:=fun a out=>by simp [bldBs]
 by_cases h1:i<s.length
 ·have hg:s[i]?=some (s.getD i 0):=by simp [List.getD_eq_getElem?_getD,h1]
  have hwb:=ansWriteByte hbl (s.getD i 0) (by omega)
  rw [bldBs_set] at hwb
  have hd:=dropB s h1
  by_cases hp:(pieceR (s.drop i)).2=0
  ·have hi':expandS nm s=out++ [s.getD i 0]++expandS nm (s.drop (i+1)):=by
    rw [hi,hd,expandS_byte nm _ _ (by rw [←hd];exact hp)];simp
   by_cases hc:s.getD i 0=91
   ·have hu:=ansUnit (s.drop i)
    rw [hd,hc,piece_same,←hc,←hd] at hu
    unfold pcA at hu
    rw [hp] at hu
    generalize (pieceR (s.drop i)).1=p1 at*
    rw [hc] at hg hwb hi'
    replace hwb:ansF cfg 127 [.ptr bs.length 0,.int .u8 91] _=_:=hwb
    have hk2:=hBl a out
    have hk3:=hBl (.ptr bs.length 0) (out++ [91])
    generalize bldBs bs a out=B at*
    clear hd hp hc hi hf hbl
    simp (maxSteps:=9^9) (disch:=omega) [-List.map_replicate,-List.map_set,-List.getD_eq_getElem?_getD,-getElem?_pos,-getElem?_neg,om,h1,hg,ofByte,hu,hwb,hk2,hk3]
    refine ⟨i+1,out++ [91],.ptr bs.length 0,⟨hi',by omega,by simp;omega,.inr rfl⟩,by omega,?_⟩
    simp
   ·have hc2: ¬ (((s.getD i 0).toNat:Int)=91):=fun h=>hc (UInt8.toNat_inj.mp (by show _=91;omega))
    generalize s.getD i 0=c at*
    have hk2:=hBl a out
    have hk3:=hBl (.ptr bs.length 0) (out++ [c])
    generalize bldBs bs a out=B at*
    clear hd hp hc hi hf hbl
    simp (maxSteps:=9^9) (disch:=omega) [-List.map_replicate,-List.map_set,-List.getD_eq_getElem?_getD,-getElem?_pos,-getElem?_neg,om,h1,hg,ofByte,hwb,hk2,hk3,hc2]
    refine ⟨i+1,out++ [c],.ptr bs.length 0,⟨hi',by omega,by simp;omega,.inr rfl⟩,by omega,?_⟩
    simp
  ·obtain ⟨q1,q2,q3,q4,q5⟩:=(pieceR_pos (s.drop i)).resolve_left (fun h=>hp (by rw [h]))
   have hc:s.getD i 0=91:=by rw [hd] at q5;simpa using q5
   have hu:=ansUnit (s.drop i)
   rw [hd,hc,piece_same,←hc,←hd] at hu
   unfold pcA at hu
   have hi':expandS nm s=out++nm (pieceR (s.drop i)).1++expandS nm (s.drop (i+(pieceR (s.drop i)).2.toNat)):=by
    rw [hi,expandS_piece nm _ hp,List.drop_drop,List.append_assoc]
   have hw:ansF cfg f [.int .i64 (pieceR (s.drop i)).1,.ptr j 0] (bldBs bs a out)=some (.str (nm (pieceR (s.drop i)).1),bldBs bs a out):=hf _ _
   have hnx:=hnm (pieceR (s.drop i)).1
   have hws:=ansWriteStr hbl (nm (pieceR (s.drop i)).1) (by omega) (by omega)
   rw [bldBs_set] at hws
   obtain ⟨n,hn⟩: ∃n:Nat,(pieceR (s.drop i)).2=n:=⟨(pieceR (s.drop i)).2.toNat,by omega⟩
   rw [hn] at hu hi' q3 q4
   rw [Int.toNat_natCast] at hi'
   have q4':i+n≤s.length:=by simp at q4;omega
   have q3':0<n:=by omega
   generalize nm (pieceR (s.drop i)).1=x at*
   generalize (pieceR (s.drop i)).1=p1 at*
   rw [hc] at hg
   have hk2:=hBl a out
   have hk3:=hBl (.ptr bs.length 0) (out++x)
   generalize bldBs bs a out=B at*
   clear hd hp hc hi hf hbl hwb q1 q2 q3 q4 q5 hn
   simp (maxSteps:=9^9) (disch:=omega) [-List.map_replicate,-List.map_set,-List.getD_eq_getElem?_getD,-getElem?_pos,-getElem?_neg,om,h1,hg,ofByte,hu,hw,hws,hk2,hk3,q3',n1,n2,n3,n4]
   refine ⟨i+n,out++x,.ptr bs.length 0,⟨hi',by omega,by simp;omega,.inr rfl⟩,by omega,?_⟩
   simp
 ·rw [List.drop_eq_nil_of_le (by omega),expandS_nil,List.append_nil] at hi
  rw [hi]
  have hfin:(bldBs bs a out).take bs.length=bs:=by unfold bldBs;exact List.take_left' rfl
  by_cases h0:out= []
  ·subst h0
   have hst:=ansStringB0 hbl
   have hfs:((bldBs bs a []).set (bs.length+1) (.sl ⟨false,none,none⟩ 1 [])).take bs.length=bs:=by unfold bldBs;rw [set_app_r];exact List.take_left' rfl
   have hk2:=hBl a []
   generalize bldBs bs a []=B at*
   simp (maxSteps:=9^9) (disch:=omega) [-List.map_replicate,-List.map_set,-List.getD_eq_getElem?_getD,-getElem?_pos,-getElem?_neg,om,h1,hst,hfs,hm,hk2]
  ·have hst:=ansStringB hbl (by omega) h0
   have hfs:((bldBs bs a out).set (bs.length+1) (.sl ⟨false,none,none⟩ 1 (out.map ofByte))).take bs.length=bs:=by unfold bldBs;rw [set_app_r];exact List.take_left' rfl
   have hk2:=hBl a out
   generalize bldBs bs a out=B at*
   simp (maxSteps:=9^9) (disch:=omega) [-List.map_replicate,-List.map_set,-List.getD_eq_getElem?_getD,-getElem?_pos,-getElem?_neg,om,h1,hst,hfs,hm,hk2]
end Go.Proofs.YtfnkchadeaedlaaGreatDoor
namespace Go.Proofs.YtfnkchadeaedlaaGreatDoor
open Go.Am
set_option maxRecDepth 10000
set_option maxHeartbeats 4000000
theorem ansCountDot (s:Str) (h:s.length<1000000):ansF cfg 65 [.str s,.str [46]] []=some (.int .i64 (dots s), []):=by
 refine ans_of_wp fn65 low65 ?_
 simp (maxSteps:=9^9) (disch:=omega) [-List.map_replicate,-List.map_set,-List.getD_eq_getElem?_getD,-getElem?_pos,-getElem?_neg,om,ir65,countG,dots,Lib.countByte]
theorem ansSect1 (c:Ct) (hc:c.ok) (hb: ∀s∈c.shs,s.mark.length<1000000∧s.title.length<1000000) (u:Int) (j:Nat) (B:List Box) (hj:Box.at B j= .var 26 (ctC c)):
  ansF cfg 111 [.int .i64 u,.ptr j 0] B=some (.str (citeS c.shs u),B):=by
 refine ans_of_wp fn111 low111 ?_
 have h:=ansCiteU c hc u hb
 unfold ctA ctC at h
 simp (maxSteps:=9^9) (disch:=omega) [-List.map_replicate,-List.map_set,-List.getD_eq_getElem?_getD,-getElem?_pos,-getElem?_neg,om,ir111,hj,h,ctC]
def ndA (n:Nd):AV:= .agg [.int .i64 n.depth,.str n.tag,.str n.text]
def secA (s:Sec):AV:= .agg [.int .i64 s.unit,.str s.num,.lst none 3 (s.nodes.map ndA)]
theorem chCur_len (order:List Str): ∀(r:List Fc) (cur:Fc),(chCur order cur r).length≤r.length+1
 | [],cur=>by simp [chCur]
 | f::r,cur=>by
  have h1:=chCur_len order r f
  have h2:=chCur_len order r cur
  rw [chCur_cons]
  split
  ·simp only [List.length_cons];omega
  ·split <;> simp only [List.length_cons] <;> omega
theorem chooseP_len (order:List Str): ∀l:List Fc,(chooseP order l).length≤l.length
 | []=>Nat.le_refl _
 | f::r=>chCur_len order r f
theorem expandS_len {nm:Int→Str} (h: ∀u,(nm u).length≤1000): ∀s:Str,(expandS nm s).length≤1000*s.length:=by
 suffices H: ∀(n:Nat) (s:Str),s.length≤n→(expandS nm s).length≤1000*s.length from fun s=>H _ s (Nat.le_refl _)
 intro n
 induction n with
 | zero=>intro s hs;have:s= []:=List.length_eq_zero_iff.mp (by omega);subst this;simp [expandS_nil]
 | succ n ih=>
  intro s hs
  cases s with
  | nil=>simp [expandS_nil]
  | cons c r=>
   by_cases hp:(pieceR (c::r)).2=0
   ·rw [expandS_byte nm _ _ hp]
    have:=ih r (by simp at hs;omega)
    simp only [List.length_cons];omega
   ·obtain ⟨q1,q2,q3,q4,q5⟩:=(pieceR_pos (c::r)).resolve_left (fun h=>hp (by rw [h]))
    rw [expandS_piece nm _ hp]
    have h1:=h (pieceR (c::r)).1
    have h2:=ih ((c::r).drop (pieceR (c::r)).2.toNat) (by simp at hs⊢;omega)
    simp only [List.length_append,List.length_drop] at h2⊢
    omega
theorem ansSection (c:Ct) (hc:c.ok) (hb: ∀s∈c.shs,s.mark.length<1000000∧s.title.length<1000000) (hcl: ∀u,(citeS c.shs u).length≤1000) (x:Sh) (num:Str) (hnl:num.length<10000) (hxo:x.ok) (hxl:1≤x.level∧x.level≤4)
  (hxt:x.title.length<10000) (on:Option Bool) (order:List Str) (ho:order.length<1000000) (hnb: ∀el,-9223372036854775808≤el→el≤9223372036854775807→(nameP order c.labs el (elemS Lib.itoa el)).length≤10000000) (hft: ∀f∈x.facts,f.text.length≤10000∧ -9223372036854775808≤f.el∧f.el≤9223372036854775807):
  ansF cfg 62 [ctA c,shA x,.str num,.lst on 1 (strA order)] []=some (secA (secP Lib.itoa order c (x,num)), []):=by
 refine ans_of_wp fn62 low62 ?_
 have hcnt:=ansCountDot num (by omega)
 have hch:=ansChooseP x.fn x.fz x.facts hxo.fz hxo.fl on order ho
 have hsx:shA x= .agg [.int .i64 x.unit,.int .i64 x.par,.int .i64 x.level,.str x.mark,.str x.title,.lst x.fn x.fz (x.facts.map fcA)]:=rfl
 have hlev:([.str [],.str [102,111,110,100,115],.str [115,101,114,105,101,115],.str [102,105,108,101],.str [105,116,101,109]]:List AV)[x.level.toNat]?=some (.str (tagS x.level)):=by
  have:x.level=1∨x.level=2∨x.level=3∨x.level=4:=by omega
  rcases this with h | h | h | h <;> rw [h] <;> rfl
 have hxl2:x.level.toNat<5:=by omega
 rw [hsx]
 have hsecN:(secP Lib.itoa order c (x,num)).nodes=⟨dots num,tagS x.level,num++32::x.title⟩::(markN (dots num+1) x++(chooseP order x.facts).map (factN Lib.itoa order c (dots num+1))):=by simp [secP]
 have hse:secA (secP Lib.itoa order c (x,num))= .agg [.int .i64 x.unit,.str num,.lst none 3 ((secP Lib.itoa order c (x,num)).nodes.map ndA)]:=rfl
 rw [hse,hsecN]
 have hs1:=fun u B hj=>ansSect1 c hc hb u 0 B hj
 have hnm: ∀el,-9223372036854775808≤el→el≤9223372036854775807→ansF cfg 113 [ctA c,.int .i64 el,.lst on 1 (strA order)] []=some (.str (nameP order c.labs el (elemS Lib.itoa el)), []):=fun el h0 h9=>ansNameP c hc el h0 h9 on order ho
 unfold ctA ctC at*
 generalize strA c.langs=L1 at*
 generalize c.labs.map lbA=L2 at*
 generalize c.shs.map shA=L3 at*
 generalize strA order=OA at*
 generalize x.facts.map fcA=FA at*
 generalize hCA:(chooseP order x.facts).map fcA=CA at*
 have hCl:CA.length=(chooseP order x.facts).length:=by rw [←hCA];simp
 clear hsx
 have hdl:dots num≤num.length:=List.count_le_length
 have hw:IntKind.i64.wrap ((dots num:Int)+1)=dots num+1:=wrap_i64 (by omega) (by omega)
 have hCHl:(chooseP order x.facts).length≤1000000:=Nat.le_trans (chooseP_len order x.facts) (by have:=hxo.fl;omega)
 have hCHm: ∀i (h:i<(chooseP order x.facts).length),CA[i]?=some (.agg [.int .i64 (chooseP order x.facts)[i].el,.str (chooseP order x.facts)[i].lang,.str (chooseP order x.facts)[i].text])∧(chooseP order x.facts)[i].text.length≤10000∧ -9223372036854775808≤(chooseP order x.facts)[i].el∧(chooseP order x.facts)[i].el≤9223372036854775807:=fun i h=>by
  obtain ⟨h1,h2,h3⟩:=hft _ (chooseP_mem (List.getElem_mem h))
  refine ⟨?_,h1,h2,h3⟩
  rw [←hCA];exact get_map _ _ h
 have hexp: ∀(t:Str) (R:List Box),t.length≤10000→shut (R.length+1) R=true→ansF cfg 110 [.str t,.fn 111 [] [.ptr 0 0]] (.var 26 [.lst c.ln c.lz L1,.lst c.bn c.bz L2,.lst c.sn c.sz L3]::R)=some (.str (expandS (citeS c.shs) t),.var 26 [.lst c.ln c.lz L1,.lst c.bn c.bz L2,.lst c.sn c.sz L3]::R):=fun t R ht hR=>by
  refine ansExpand 111 ⟨rfl,rfl,rfl,rfl⟩ 0 _ (by simpa [shut,underAll,AV.under] using hR) (by simp) (citeS c.shs) (fun u J=>hs1 u _ ?_) (fun u=>hcl u) t ht
  simp [Box.at]
 generalize hCH:chooseP order x.facts=CH at*
 have hNFl:(ndA ⟨dots num,tagS x.level,num++32::x.title⟩)= .agg [.int .i64 (dots num),.str (tagS x.level),.str (num++32::x.title)]:=rfl
 generalize hFNd:factN Lib.itoa order c ((dots num:Int)+1)=FN at*
 generalize hNF:(⟨dots num,tagS x.level,num++32::x.title⟩::(markN (dots num+1) x++CH.map FN):List Nd)=NF at*
 by_cases hmk:x.mark= []
 ·rw [hmk]
  simp (maxSteps:=9^9) (disch:=omega) [-List.map_replicate,-List.map_set,-List.getD_eq_getElem?_getD,-getElem?_pos,-getElem?_neg,om,ir62,hcnt,hch,splice,hlev,hxl2,hCl]
  refine Wp.loopM (fun (a:Nat×List Nd)=>CH.length-a.1) (fun a=> [none,none,none,some (.lst on 1 OA),some (.ptr 0 0),none,some (.ptr 2 0),some (.int .i64 (dots num)),none,some (.ptr 6 0),none,none,none,none,none,none,none,none,none,none,none,none,none,some (.lst none 3 CA),some (.int .i64 CH.length),some (.int .i64 a.1),none,none,none,none,none,none,none,none,none,none]) (fun a=> [.var 26 [.lst c.ln c.lz L1,.lst c.bn c.bz L2,.lst c.sn c.sz L3],.var 73 [.int .i64 x.unit,.int .i64 x.par,.int .i64 x.level,.str [],.str x.title,.lst x.fn x.fz FA],.var 46 [.int .i64 0,.str [],.osl 3 0],.sl ⟨false,some 75,none⟩ 3 [],.var 141 [.str [],.str [102,111,110,100,115],.str [115,101,114,105,101,115],.str [102,105,108,101],.str [105,116,101,109]],.sl ⟨false,some 75,none⟩ 3 (a.2.map ndA),.var 46 [.int .i64 x.unit,.str num,.osl 5 a.2.length]])
   (fun a=>NF=a.2++(CH.drop a.1).map FN∧a.1≤CH.length∧a.2.length≤a.1+2) ?_ (0, [⟨dots num,tagS x.level,num++32::x.title⟩]) ⟨by simp [←hNF,markN,hmk],by simp,by simp⟩ (by simp) (by simp [ndA])
  rintro ⟨i,N⟩ ⟨hi,hil,hNl⟩
  simp only at hi hil hNl⊢
  rw [hi]
  by_cases h1:i<CH.length
  ·obtain ⟨hg,ht,hel1,hel2⟩:=hCHm i h1
   have hn:=hnm CH[i].el hel1 hel2
   have hx:=hexp CH[i].text [.var 73 [.int .i64 x.unit,.int .i64 x.par,.int .i64 x.level,.str [],.str x.title,.lst x.fn x.fz FA],.var 46 [.int .i64 0,.str [],.osl 3 0],.sl ⟨false,some 75,none⟩ 3 [],.var 141 [.str [],.str [102,111,110,100,115],.str [115,101,114,105,101,115],.str [102,105,108,101],.str [105,116,101,109]],.sl ⟨false,some 75,none⟩ 3 (N.map ndA),.var 46 [.int .i64 x.unit,.str num,.osl 5 N.length],.var 79 [.int .i64 CH[i].el,.str CH[i].lang,.str CH[i].text]] ht (by simp [shut,underAll,AV.under,linkUnder])
   rw [List.drop_eq_getElem_cons h1,List.map_cons] at hi⊢
   have hFN:FN CH[i]=⟨(dots num:Int)+1, [112],nameP order c.labs CH[i].el (elemS Lib.itoa CH[i].el)++58::32::expandS (citeS c.shs) CH[i].text⟩:=by rw [←hFNd];simp [factN]
   have hNd:FN CH[i]::(CH.drop (i+1)).map FN= [FN CH[i]]++(CH.drop (i+1)).map FN:=rfl
   have hNm:(N.map ndA).length=N.length:=by simp
   have hxtl:=expandS_len hcl CH[i].text
   have hnml:=hnb CH[i].el hel1 hel2
   generalize CH[i]=f at*
   generalize nameP order c.labs f.el (elemS Lib.itoa f.el)=nm at*
   generalize expandS (citeS c.shs) f.text=xt at*
   clear hCHm hexp hnm hs1 hi hsecN hlev hb hcl hft hch hNF hnb
   simp (maxSteps:=9^9) (disch:=omega) [-List.map_replicate,-List.map_set,-List.getD_eq_getElem?_getD,-getElem?_pos,-getElem?_neg,om,h1,hg,splice,hn,hx,hw,hNm]
   refine ⟨i+1,N++ [FN f],⟨by simp,by omega,by simp;omega⟩,by omega,?_⟩
   exact ⟨by omega,by simp [ndA,hFN],by simp⟩
  ·rw [List.drop_eq_nil_of_le (by omega),List.map_nil,List.append_nil] at hi⊢
   simp (maxSteps:=9^9) (disch:=omega) [-List.map_replicate,-List.map_set,-List.getD_eq_getElem?_getD,-getElem?_pos,-getElem?_neg,om,h1,splice]
 ·simp (maxSteps:=9^9) (disch:=omega) [-List.map_replicate,-List.map_set,-List.getD_eq_getElem?_getD,-getElem?_pos,-getElem?_neg,om,ir62,hcnt,hch,splice,hlev,hxl2,hCl,hmk,hw]
  refine Wp.loopM (fun (a:Nat×List Nd)=>CH.length-a.1) (fun a=> [none,none,none,some (.lst on 1 OA),some (.ptr 0 0),none,some (.ptr 2 0),some (.int .i64 (dots num)),none,some (.ptr 6 0),none,none,none,none,none,none,none,none,none,none,none,none,none,some (.lst none 3 CA),some (.int .i64 CH.length),some (.int .i64 a.1),none,none,none,none,none,none,none,none,none,none]) (fun a=> [.var 26 [.lst c.ln c.lz L1,.lst c.bn c.bz L2,.lst c.sn c.sz L3],.var 73 [.int .i64 x.unit,.int .i64 x.par,.int .i64 x.level,.str x.mark,.str x.title,.lst x.fn x.fz FA],.var 46 [.int .i64 0,.str [],.osl 3 0],.sl ⟨false,some 75,none⟩ 3 [],.var 141 [.str [],.str [102,111,110,100,115],.str [115,101,114,105,101,115],.str [102,105,108,101],.str [105,116,101,109]],.sl ⟨false,some 75,none⟩ 3 (a.2.map ndA),.var 46 [.int .i64 x.unit,.str num,.osl 5 a.2.length],.sl ⟨false,some 75,none⟩ 3 [.agg [.int .i64 ((dots num:Int)+1),.str [109,97,114,107],.str x.mark]],.dead])
   (fun a=>NF=a.2++(CH.drop a.1).map FN∧a.1≤CH.length∧a.2.length≤a.1+2) ?_ (0, [⟨dots num,tagS x.level,num++32::x.title⟩,⟨(dots num:Int)+1, [109,97,114,107],x.mark⟩]) ⟨by simp [←hNF,markN,hmk],by simp,by simp⟩ (by simp) (by simp [ndA])
  rintro ⟨i,N⟩ ⟨hi,hil,hNl⟩
  simp only at hi hil hNl⊢
  rw [hi]
  by_cases h1:i<CH.length
  ·obtain ⟨hg,ht,hel1,hel2⟩:=hCHm i h1
   have hn:=hnm CH[i].el hel1 hel2
   have hx:=hexp CH[i].text [.var 73 [.int .i64 x.unit,.int .i64 x.par,.int .i64 x.level,.str x.mark,.str x.title,.lst x.fn x.fz FA],.var 46 [.int .i64 0,.str [],.osl 3 0],.sl ⟨false,some 75,none⟩ 3 [],.var 141 [.str [],.str [102,111,110,100,115],.str [115,101,114,105,101,115],.str [102,105,108,101],.str [105,116,101,109]],.sl ⟨false,some 75,none⟩ 3 (N.map ndA),.var 46 [.int .i64 x.unit,.str num,.osl 5 N.length],.sl ⟨false,some 75,none⟩ 3 [.agg [.int .i64 ((dots num:Int)+1),.str [109,97,114,107],.str x.mark]],.dead,.var 79 [.int .i64 CH[i].el,.str CH[i].lang,.str CH[i].text]] ht (by simp [shut,underAll,AV.under,linkUnder])
   rw [List.drop_eq_getElem_cons h1,List.map_cons] at hi⊢
   have hFN:FN CH[i]=⟨(dots num:Int)+1, [112],nameP order c.labs CH[i].el (elemS Lib.itoa CH[i].el)++58::32::expandS (citeS c.shs) CH[i].text⟩:=by rw [←hFNd];simp [factN]
   have hNd:FN CH[i]::(CH.drop (i+1)).map FN= [FN CH[i]]++(CH.drop (i+1)).map FN:=rfl
   have hNm:(N.map ndA).length=N.length:=by simp
   have hxtl:=expandS_len hcl CH[i].text
   have hnml:=hnb CH[i].el hel1 hel2
   generalize CH[i]=f at*
   generalize nameP order c.labs f.el (elemS Lib.itoa f.el)=nm at*
   generalize expandS (citeS c.shs) f.text=xt at*
   clear hCHm hexp hnm hs1 hi hsecN hlev hb hcl hft hch hNF hnb
   simp (maxSteps:=9^9) (disch:=omega) [-List.map_replicate,-List.map_set,-List.getD_eq_getElem?_getD,-getElem?_pos,-getElem?_neg,om,h1,hg,splice,hn,hx,hw,hNm]
   refine ⟨i+1,N++ [FN f],⟨by simp,by omega,by simp;omega⟩,by omega,?_⟩
   exact ⟨by omega,by simp [ndA,hFN],by simp⟩
  ·rw [List.drop_eq_nil_of_le (by omega),List.map_nil,List.append_nil] at hi⊢
   simp (maxSteps:=9^9) (disch:=omega) [-List.map_replicate,-List.map_set,-List.getD_eq_getElem?_getD,-getElem?_pos,-getElem?_neg,om,h1,splice]
end Go.Proofs.YtfnkchadeaedlaaGreatDoor
namespace Go.Proofs.YtfnkchadeaedlaaGreatDoor
open Go.Am
set_option maxRecDepth 10000
set_option maxHeartbeats 4000000
section
variable {α:Type}
def enA (vf:α→AV) (e:Int×α×Nat):AV×AV×Nat:=(.int .i64 e.1,vf e.2.1,e.2.2)
def findI (u:Int):List (Int×α×Nat)→Nat→Option (Nat×Int×α×Nat)
 | [],_=>none
 | e::r,i=>if e.1=u then some (i,e) else findI u r (i+1)
theorem findA_I (vf:α→AV) (u:Int): ∀(m:List (Int×α×Nat)) (i:Nat),findA (eqRec cfg 20 3) (.int .i64 u) (m.map (enA vf)) i=some ((findI u m i).map fun p=>(p.1,enA vf p.2))
 | [],i=>rfl
 | e::r,i=>by
  have ih:=findA_I vf u r (i+1)
  have he:eqRec cfg 20 3 (.int .i64 u) (enA vf e).1=some (u==e.1):=by simp (config:={maxSteps:=1000000}) (disch:=omega) [-List.map_replicate,-List.map_set,-List.getD_eq_getElem?_getD,-getElem?_pos,-getElem?_neg,wrap_i64,le_strLim,le_sliceLim,le_buildLim,le_sliceLimI,enA]
  simp only [List.map_cons,findA,he,findI]
  by_cases hs:e.1=u
  ·simp [hs]
  ·have hs2:(u==e.1)=false:=by simpa using fun h=>hs h.symm
   simp only [hs2,if_neg hs];exact ih
def valsI (m:List (Int×α×Nat)):List (Int×α):=m.map fun e=>(e.1,e.2.1)
theorem findI_look (u:Int): ∀(m:List (Int×α×Nat)) (i:Nat),(findI u m i).map (fun p=>p.2.2.1)=lookI (valsI m) u
 | [],i=>rfl
 | e::r,i=>by
  have ih:=findI_look u r (i+1)
  simp only [findI,valsI,List.map_cons,lookI]
  by_cases hs:e.1=u
  ·simp [hs]
  ·rw [if_neg hs,if_neg hs];exact ih
theorem findI_spec (u:Int): ∀(m:List (Int×α×Nat)) (i j:Nat) (e:Int×α×Nat),findI u m i=some (j,e)→i≤j∧m[j-i]?=some e∧e.1=u
 | [],i,j,e,h=>by cases h
 | x::r,i,j,e,h=>by
  simp only [findI] at h
  split at h
  ·rename_i hs
   cases h
   exact ⟨Nat.le_refl _,by simp,hs⟩
  ·obtain ⟨h1,h2,h3⟩:=findI_spec u r (i+1) j e h
   refine ⟨by omega,?_,h3⟩
   rw [show j-i=(j-(i+1))+1 by omega]
   simpa using h2
def setI (m:List (Int×α×Nat)) (clock:Nat) (u:Int) (v:α):List (Int×α×Nat):=match findI u m 0 with
 | some (j,e)=>m.set j (u,v,e.2.2)
 | none=>m++ [(u,v,clock)]
def tickI (m:List (Int×α×Nat)) (clock:Nat) (u:Int):Nat:=match findI u m 0 with
 | some _=>clock
 | none=>clock+1
theorem putI_at (u:Int) (v:α): ∀(m:List (Int×α×Nat)) (i j:Nat) (e:Int×α×Nat),findI u m i=some (j,e)→putI (valsI m) u v=valsI (m.set (j-i) (u,v,e.2.2))
 | [],i,j,e,h=>by cases h
 | x::r,i,j,e,h=>by
  simp only [findI] at h
  split at h
  ·rename_i hs
   cases h
   simp [valsI,putI,hs]
  ·rename_i hs
   obtain ⟨h1,_,_⟩:=findI_spec u r (i+1) j e h
   have ih:=putI_at u v r (i+1) j e h
   rw [show j-i=(j-(i+1))+1 by omega,List.set_cons_succ]
   simp only [valsI,List.map_cons,putI,if_neg hs] at ih⊢
   rw [ih]
theorem putI_new (u:Int) (v:α) (c:Nat): ∀(m:List (Int×α×Nat)) (i:Nat),findI u m i=none→putI (valsI m) u v=valsI (m++ [(u,v,c)])
 | [],i,_=>rfl
 | x::r,i,h=>by
  simp only [findI] at h
  split at h
  ·cases h
  ·rename_i hs
   have ih:=putI_new u v c r (i+1) h
   simp only [valsI,List.map_cons,List.cons_append,putI,if_neg hs] at ih⊢
   rw [ih]
theorem vals_set (m:List (Int×α×Nat)) (clock:Nat) (u:Int) (v:α):valsI (setI m clock u v)=putI (valsI m) u v:=by
 unfold setI
 cases h:findI u m 0 with
 | none=>exact (putI_new u v clock m 0 h).symm
 | some p=>
  obtain ⟨j,e⟩:=p
  have:=putI_at u v m 0 j e h
  simp only [Nat.sub_zero] at this
  exact this.symm
end
end Go.Proofs.YtfnkchadeaedlaaGreatDoor
namespace Go.Proofs.YtfnkchadeaedlaaGreatDoor
open Go.Am
set_option maxRecDepth 10000
set_option maxHeartbeats 4000000
theorem lookI_putI {α:Type} (u:Int) (v:α) (m:List (Int×α)):lookI (putI m u v) u=some v:=by rw [look_put,if_pos rfl]
def lkS (m:List (Int×Str)) (u:Int):AV:=match lookI m u with
 | some v=> .tup [.str v,.bool true]
 | none=> .tup [.str [],.bool false]
def iA (n:Int):AV:= .int .i64 n
theorem look139 {bs:List Box} {k clock:Nat} {m:List (Int×Str×Nat)} (h:Box.at bs k= .mp (m.map (enA .str)) clock) (u:Int):lookupA cfg (cfg.ti 139) (.mapv k) (.int .i64 u) true bs=some (lkS (valsI m) u,.none):=by
 have hf:=findA_I .str u m 0
 have hl:=findI_look u m 0
 unfold lkS
 rw [←hl]
 cases hq:findI u m 0 with
 | none=>rw [hq] at hf;simp [lookupA,entriesA,foundA,zeroA,keyFine,h,hf,-eqRec]
 | some p=>rw [hq] at hf;simp [lookupA,entriesA,foundA,zeroA,keyFine,h,hf,-eqRec,enA]
theorem look140 {bs:List Box} {k clock:Nat} {m:List (Int×Int×Nat)} (h:Box.at bs k= .mp (m.map (enA iA)) clock) (u:Int):lookupA cfg (cfg.ti 140) (.mapv k) (.int .i64 u) false bs=some (.int .i64 ((lookI (valsI m) u).getD 0),.none):=by
 have hf:=findA_I iA u m 0
 have hl:=findI_look u m 0
 rw [←hl]
 cases hq:findI u m 0 with
 | none=>rw [hq] at hf;simp [lookupA,entriesA,foundA,zeroA,keyFine,h,hf,-eqRec]
 | some p=>rw [hq] at hf;simp [lookupA,entriesA,foundA,zeroA,keyFine,h,hf,-eqRec,enA,iA]
theorem map_set_enA {α:Type} (vf:α→AV) (m:List (Int×α×Nat)) (j:Nat) (e:Int×α×Nat):(m.set j e).map (enA vf)=(m.map (enA vf)).set j (enA vf e):=by simp [List.map_set]
theorem upd139 {bs:List Box} {k clock:Nat} {m:List (Int×Str×Nat)} (h:Box.at bs k= .mp (m.map (enA .str)) clock) (u:Int) (v:Str):mapUpdateA cfg (cfg.ti 139) (.mapv k) (.int .i64 u) (.str v) bs=some (.tup [],.upd k (.mp ((setI m clock u v).map (enA .str)) (tickI m clock u))):=by
 have hf:=findA_I .str u m 0
 unfold setI tickI
 cases hq:findI u m 0 with
 | none=>rw [hq] at hf;simp [mapUpdateA,keyFine,keyAV,cellAV,valOk,h,hf,-eqRec,enA]
 | some p=>
  obtain ⟨j,e⟩:=p
  obtain ⟨_,_,he⟩:=findI_spec u m 0 j e hq
  rw [hq] at hf;simp [mapUpdateA,keyFine,keyAV,cellAV,valOk,h,hf,-eqRec,enA,sameKey,sameCell,he,map_set_enA,-List.map_set]
theorem upd140 {bs:List Box} {k clock:Nat} {m:List (Int×Int×Nat)} (h:Box.at bs k= .mp (m.map (enA iA)) clock) (u:Int) (v:Int):mapUpdateA cfg (cfg.ti 140) (.mapv k) (.int .i64 u) (.int .i64 v) bs=some (.tup [],.upd k (.mp ((setI m clock u v).map (enA iA)) (tickI m clock u))):=by
 have hf:=findA_I iA u m 0
 unfold setI tickI
 cases hq:findI u m 0 with
 | none=>rw [hq] at hf;simp [mapUpdateA,keyFine,keyAV,cellAV,valOk,h,hf,-eqRec,enA,iA]
 | some p=>
  obtain ⟨j,e⟩:=p
  obtain ⟨_,_,he⟩:=findI_spec u m 0 j e hq
  rw [hq] at hf;simp [mapUpdateA,keyFine,keyAV,cellAV,valOk,h,hf,-eqRec,enA,iA,sameKey,sameCell,he,map_set_enA,-List.map_set]
theorem farN {C:List Box} {n:Nat} (h:C.length=n):(∀l,(C++l)[n]?=l[0]?)∧(∀l,(C++l)[n+1]?=l[1]?)∧(∀l,(C++l)[n+1+1]?=l[2]?)∧(∀l,(C++l)[n+1+1+1]?=l[3]?)
  ∧(∀l X,(C++l).set n X=C++l.set 0 X)∧(∀l X,(C++l).set (n+1) X=C++l.set 1 X)∧(∀l X,(C++l).set (n+1+1) X=C++l.set 2 X)∧(∀l X,(C++l).set (n+1+1+1) X=C++l.set 3 X)
  ∧(∀l,Box.at (C++l) n=Box.at l 0)∧(∀l,Box.at (C++l) (n+1)=Box.at l 1)∧(∀l,Box.at (C++l) (n+1+1)=Box.at l 2)∧(∀l,Box.at (C++l) (n+1+1+1)=Box.at l 3)∧(∀l,(C++l).take n=C):=by
 subst h
 exact ⟨fun l=>by simpa using get_app_r C l 0,fun l=>get_app_r C l 1,fun l=>get_app_r C l 2,fun l=>get_app_r C l 3,
  fun l X=>by simpa using set_app_r C l 0 X,fun l X=>set_app_r C l 1 X,fun l X=>set_app_r C l 2 X,fun l X=>set_app_r C l 3 X,
  fun l=>by simpa using at_app_r C l 0,fun l=>at_app_r C l 1,fun l=>at_app_r C l 2,fun l=>at_app_r C l 3,fun l=>List.take_left' rfl⟩
theorem take3 {C:List Box} {n:Nat} (h:C.length=n) (l:List Box):(C++l).take (n+3)=C++l.take 3:=by
 subst h;rw [List.take_append,List.take_of_length_le (by omega)];simp
theorem fv_str (n:Nat):forgetVal n∘enA AV.str=enA AV.str:=by
 funext e;simp [forgetVal,enA,forget,AV.under]
theorem fv_int (n:Nat):forgetVal n∘enA iA=enA iA:=by
 funext e;simp [forgetVal,enA,iA,forget,AV.under]
theorem mpU_str (n:Nat) (m:List (Int×Str×Nat)):mpUnder n (m.map (enA .str))=true:=by
 induction m with
 | nil=>rfl
 | cons e r ih=>simp [mpUnder,enA,AV.under] at ih⊢;try exact ih
theorem mpU_int (n:Nat) (m:List (Int×Int×Nat)):mpUnder n (m.map (enA iA))=true:=by
 induction m with
 | nil=>rfl
 | cons e r ih=>simp [mpUnder,enA,iA,AV.under] at ih⊢;try exact ih
theorem ansNumbered {σ:Type} (K:σ→List Box) (stp:σ→Sh×Str→σ) (Inv:Nat→σ→Prop) (n0:Nat) (hKl: ∀st,(K st).length=n0) (hKs: ∀st,shut n0 (K st)=true)
  (f:FuncId) (hns:NoSum f) (caps:List AV) (c:Ct) (hc:c.ok) (hlen:c.shs.length≤400)
  (hcu: ∀n,n0≤n→underAll n caps=true) (hcL: ∀B,lendAll B caps=some caps) (hcP:plainAll caps=false)
  (hf: ∀i st s n J,i<c.shs.length→Inv i st→s∈c.shs→n.length<10000→shut (n0+J.length) J=true→ansF cfg f (shA s:: .str n::caps) (K st++J)=some (.tup [],K (stp st (s,n))++J)∧Inv (i+1) (stp st (s,n)))
  (hInv: ∀i st,Inv i st→Inv (i+1) st) (root:Int) (st0:σ) (h0:Inv 0 st0):
  ansF cfg 60 [ctA c,.int .i64 root,.fn f [] caps] (K st0)=some (.tup [],K ((numRun Lib.itoa root ⟨[], []⟩ c.shs).foldl stp st0)):=by
 refine ans_of_wp fn60 low60 ?_
 obtain ⟨n1,n2,n3,n4⟩:=hns
 simp only [exts,ovbs,ovs,muts] at n1 n2 n3 n4
 have hE: ∀k (h:k<c.shs.length),(c.shs.map shA)[k]?=some (shA c.shs[k]):=fun k h=>get_map _ _ h
 have hEl:(c.shs.map shA).length=c.shs.length:=by simp
 have hcsz:=hc.sz
 unfold ctA ctC
 generalize strA c.langs=L1 at*
 generalize c.labs.map lbA=L2 at*
 generalize c.shs.map shA=L3 at*
 generalize c.sz=sz at*
 generalize c.shs=l at*
 have hk0:=hKl st0
 have e1:n0+1-n0=1:=by omega
 have e2:n0+1+1-n0=2:=by omega
 have e3:n0+1+1+1-n0=3:=by omega
 obtain ⟨g0,g1,g2,g3,s0,s1,s2,s3,b0,b1,b2,b3,tk⟩:=farN hk0
 simp (maxSteps:=9^9) (disch:=omega) [-List.map_replicate,-List.map_set,-List.getD_eq_getElem?_getD,-getElem?_pos,-getElem?_neg,om,ir60,splice,hEl,hk0,g0,g1,g2,g3,s0,s1,s2,s3,b0,b1,b2,b3,tk,makeMapA,e1,e2,e3]
 clear g0 g1 g2 g3 s0 s1 s2 s3 b0 b1 b2 b3 tk hk0
 refine Wp.loopM (fun (a:Nat×σ×(List (Int×Str×Nat)×Nat)×(List (Int×Int×Nat)×Nat))=>l.length-a.1) (fun a=> [none,some (.int .i64 root),some (.fn f [] caps),none,some (.mapv (n0+1)),some (.mapv (n0+1+1)),none,none,none,none,none,none,none,some (.lst c.sn sz L3),some (.int .i64 l.length),some (.int .i64 a.1),none,none,none,none,none,none,none,none,none,none,none,none])
  (fun a=>K a.2.1++ [.var 26 [.lst c.ln c.lz L1,.lst c.bn c.bz L2,.lst c.sn sz L3],.mp (a.2.2.1.1.map (enA .str)) a.2.2.1.2,.mp (a.2.2.2.1.map (enA iA)) a.2.2.2.2])
  (fun a=>(numRun Lib.itoa root ⟨[], []⟩ l).foldl stp st0=(numRun Lib.itoa root ⟨valsI a.2.2.1.1,valsI a.2.2.2.1⟩ (l.drop a.1)).foldl stp a.2.1∧a.1≤l.length∧Inv a.1 a.2.1
   ∧(∀u v,lookI (valsI a.2.2.1.1) u=some v→v.length≤22*(a.1+1))∧(∀u,0≤(lookI (valsI a.2.2.2.1) u).getD 0∧(lookI (valsI a.2.2.2.1) u).getD 0≤a.1)) ?_ (0,st0,([],0),([],0)) ⟨rfl,by omega,h0,by simp [valsI,lookI],by simp [valsI,lookI]⟩ (by simp) (by simp)
 rintro ⟨i,st,⟨m,cm⟩,⟨q,cq⟩⟩ ⟨hi,hil,hI,hm,hq⟩
 simp only at hi hil hI hm hq⊢
 have hcu3:=hcu (n0+3) (by omega)
 have hks:=hKs st
 have hkm:=shut_map (Nat.le_refl _) hks
 obtain ⟨g0,g1,g2,g3,s0,s1,s2,s3,b0,b1,b2,b3,tk⟩:=farN (hKl st)
 by_cases h1:i<l.length
 ·have hk1:=hKl st
  have look1: ∀(m:List (Int×Str×Nat)) cm b' l' u,lookupA cfg (cfg.ti 139) (.mapv (n0+1)) (.int .i64 u) true (K st++(b':: .mp (m.map (enA .str)) cm::l'))=some (lkS (valsI m) u,.none):=fun m cm b' l' u=>look139 (by rw [b1];rfl) u
  have look2: ∀(m:List (Int×Int×Nat)) cm b' b'' l' u,lookupA cfg (cfg.ti 140) (.mapv (n0+1+1)) (.int .i64 u) false (K st++(b'::b'':: .mp (m.map (enA iA)) cm::l'))=some (.int .i64 ((lookI (valsI m) u).getD 0),.none):=fun m cm b' b'' l' u=>look140 (by rw [b2];rfl) u
  have put1: ∀(m:List (Int×Str×Nat)) cm b' l' u v,mapUpdateA cfg (cfg.ti 139) (.mapv (n0+1)) (.int .i64 u) (.str v) (K st++(b':: .mp (m.map (enA .str)) cm::l'))=some (.tup [],.upd (n0+1) (.mp ((setI m cm u v).map (enA .str)) (tickI m cm u))):=fun m cm b' l' u v=>upd139 (by rw [b1];rfl) u v
  have put2: ∀(m:List (Int×Int×Nat)) cm b' b'' l' u v,mapUpdateA cfg (cfg.ti 140) (.mapv (n0+1+1)) (.int .i64 u) (.int .i64 v) (K st++(b'::b'':: .mp (m.map (enA iA)) cm::l'))=some (.tup [],.upd (n0+1+1) (.mp ((setI m cm u v).map (enA iA)) (tickI m cm u))):=fun m cm b' b'' l' u v=>upd140 (by rw [b2];rfl) u v
  simp only [ti139,ti140] at look1 look2 put1 put2
  have hg:=hE i h1
  have hsm:l[i]∈l:=List.getElem_mem h1
  have hcl:=fun n J hn hJ=>hf i st l[i] n J h1 hI hsm hn hJ
  obtain rfl:=hcsz (ne_of_lt h1)
  rw [List.drop_eq_getElem_cons h1] at hi
  simp only [numRun] at hi
  clear hE hf
  generalize l[i]=s at*
  unfold shA at hg hcl
  have b3': ∀l,Box.at (K st++l) (n0+3)=Box.at l 3:=b3
  have g3': ∀l,(K st++l)[n0+3]?=l[3]?:=g3
  have s3': ∀l X,(K st++l).set (n0+3) X=K st++l.set 3 X:=s3
  have hJ: ∀(m:List (Int×Str×Nat)) (cm:Nat) (q:List (Int×Int×Nat)) (cq:Nat),shut (n0+4) [.var 26 [.lst c.ln c.lz L1,.lst c.bn c.bz L2,.lst c.sn 6 L3],.mp (m.map (enA .str)) cm,.mp (q.map (enA iA)) cq,.var 73 [.int .i64 s.unit,.int .i64 s.par,.int .i64 s.level,.str s.mark,.str s.title,.lst s.fn s.fz (s.facts.map fcA)]]=true:=fun m cm q cq=>by
   simp [shut,underAll,AV.under,mpU_str,mpU_int]
  by_cases hr:s.unit=root
  ·subst hr
   have hst:numStep Lib.itoa s.unit ⟨valsI m,valsI q⟩ s=⟨putI (valsI m) s.unit [49],valsI q⟩:=by unfold numStep;rw [if_pos rfl]
   rw [hst] at hi
   have hlk:lookI (putI (valsI m) s.unit [49]) s.unit=some [49]:=lookI_putI _ _ _
   rw [hlk] at hi
   simp only [List.foldl_cons] at hi
   have hlk2:lkS (putI (valsI m) s.unit [49]) s.unit= .tup [.str [49],.bool true]:=by unfold lkS;rw [hlk]
   obtain ⟨hc1,hc2⟩:=hcl [49] [.var 26 [.lst c.ln c.lz L1,.lst c.bn c.bz L2,.lst c.sn 6 L3],.mp ((setI m cm s.unit [49]).map (enA .str)) (tickI m cm s.unit),.mp (q.map (enA iA)) cq,.var 73 [.int .i64 s.unit,.int .i64 s.par,.int .i64 s.level,.str s.mark,.str s.title,.lst s.fn s.fz (s.facts.map fcA)]] (by simp) (hJ _ _ _ _)
   have hk2:=hKl (stp st (s, [49]))
   have tk3:=take3 hk2
   have hkm2:=shut_map (show n0≤n0+3 by omega) (hKs (stp st (s, [49])))
   simp (maxSteps:=9^9) (disch:=omega) [-List.map_replicate,-List.map_set,-List.getD_eq_getElem?_getD,-getElem?_pos,-getElem?_neg,om,h1,hg,splice,hk1,g0,g1,g2,g3,s0,s1,s2,s3,b0,b1,b2,b3,tk,e1,e2,e3,look1,look2,put1,put2,n1,n2,n3,n4,hcL,hcP,b3',g3',s3',vals_set,hlk2,hc1,hk2,tk3,hkm2,fv_str,fv_int,hcu3]
   refine ⟨i+1,stp st (s, [49]),setI m cm s.unit [49],tickI m cm s.unit,q,⟨by rw [vals_set];exact hi,by omega,hc2,?_,?_⟩,by omega,by omega,cq,rfl⟩
   ·intro u v hv
    rw [vals_set,look_put] at hv
    split at hv
    ·cases hv;simp;omega
    ·have:=hm u v hv;omega
   ·intro u;have:=hq u;omega
  ·cases hpar:lookI (valsI m) s.par with
   | none=>
    have hst:numStep Lib.itoa root ⟨valsI m,valsI q⟩ s=⟨valsI m,valsI q⟩:=by unfold numStep;rw [if_neg hr,hpar]
    rw [hst] at hi
    have hlp:lkS (valsI m) s.par= .tup [.str [],.bool false]:=by unfold lkS;rw [hpar]
    cases hun:lookI (valsI m) s.unit with
    | none=>
     rw [hun] at hi
     have hlk2:lkS (valsI m) s.unit= .tup [.str [],.bool false]:=by unfold lkS;rw [hun]
     have tk3:=take3 hk1
     have hkm2:=shut_map (show n0≤n0+3 by omega) hks
     simp (maxSteps:=9^9) (disch:=omega) [-List.map_replicate,-List.map_set,-List.getD_eq_getElem?_getD,-getElem?_pos,-getElem?_neg,om,h1,hg,splice,hk1,g0,g1,g2,g3,s0,s1,s2,s3,b0,b1,b2,b3,tk,e1,e2,e3,look1,look2,put1,put2,n1,n2,n3,n4,hcL,hcP,b3',g3',s3',vals_set,fv_str,fv_int,hcu3,hr,hlk2,hlp,tk3,hkm2]
     refine ⟨i+1,st,m,cm,q,⟨hi,by omega,hInv _ _ hI,fun u v hv=>by have:=hm u v hv;omega,fun u=>by have:=hq u;omega⟩,by omega,by omega,cq,rfl⟩
    | some n=>
     rw [hun] at hi
     simp only [List.foldl_cons] at hi
     have hlk2:lkS (valsI m) s.unit= .tup [.str n,.bool true]:=by unfold lkS;rw [hun]
     obtain ⟨hc1,hc2⟩:=hcl n [.var 26 [.lst c.ln c.lz L1,.lst c.bn c.bz L2,.lst c.sn 6 L3],.mp (m.map (enA .str)) cm,.mp (q.map (enA iA)) cq,.var 73 [.int .i64 s.unit,.int .i64 s.par,.int .i64 s.level,.str s.mark,.str s.title,.lst s.fn s.fz (s.facts.map fcA)]] (by have:=hm _ _ hun;omega) (hJ _ _ _ _)
     have hk2:=hKl (stp st (s,n))
     have tk3:=take3 hk2
     have hkm2:=shut_map (show n0≤n0+3 by omega) (hKs (stp st (s,n)))
     simp (maxSteps:=9^9) (disch:=omega) [-List.map_replicate,-List.map_set,-List.getD_eq_getElem?_getD,-getElem?_pos,-getElem?_neg,om,h1,hg,splice,hk1,g0,g1,g2,g3,s0,s1,s2,s3,b0,b1,b2,b3,tk,e1,e2,e3,look1,look2,put1,put2,n1,n2,n3,n4,hcL,hcP,b3',g3',s3',vals_set,fv_str,fv_int,hcu3,hr,hlk2,hlp,hc1,hk2,tk3,hkm2]
     refine ⟨i+1,stp st (s,n),m,cm,q,⟨hi,by omega,hc2,fun u v hv=>by have:=hm u v hv;omega,fun u=>by have:=hq u;omega⟩,by omega,by omega,cq,rfl⟩
   | some above=>
    have hxq:=hq s.par
    generalize hx:(lookI (valsI q) s.par).getD 0=x at*
    have hst:numStep Lib.itoa root ⟨valsI m,valsI q⟩ s=⟨putI (valsI m) s.unit (above++46::Lib.itoa (x+1)),putI (valsI q) s.par (x+1)⟩:=by unfold numStep;rw [if_neg hr,hpar];simp [hx]
    rw [hst] at hi
    have hal:=hm _ _ hpar
    have hit:(Lib.itoa (x+1)).length≤21:=Lib.itoa_length_le (x+1) (by omega) (by omega)
    have hlp:lkS (valsI m) s.par= .tup [.str above,.bool true]:=by unfold lkS;rw [hpar]
    have hw:IntKind.i64.wrap (x+1)=x+1:=wrap_i64 (by omega) (by omega)
    have hk3:(lookI (putI (valsI q) s.par (x+1)) s.par).getD 0=x+1:=by rw [lookI_putI];rfl
    have hid1: -9223372036854775808≤x+1:=by omega
    have hid2:x+1≤9223372036854775807:=by omega
    have hlk:lookI (putI (valsI m) s.unit (above++46::Lib.itoa (x+1))) s.unit=some (above++46::Lib.itoa (x+1)):=lookI_putI _ _ _
    rw [hlk] at hi
    simp only [List.foldl_cons] at hi
    have hlk2:lkS (putI (valsI m) s.unit (above++46::Lib.itoa (x+1))) s.unit= .tup [.str (above++46::Lib.itoa (x+1)),.bool true]:=by unfold lkS;rw [hlk]
    generalize hit2:Lib.itoa (x+1)=it at*
    obtain ⟨hc1,hc2⟩:=hcl (above++46::it) [.var 26 [.lst c.ln c.lz L1,.lst c.bn c.bz L2,.lst c.sn 6 L3],.mp ((setI m cm s.unit (above++46::it)).map (enA .str)) (tickI m cm s.unit),.mp ((setI q cq s.par (x+1)).map (enA iA)) (tickI q cq s.par),.var 73 [.int .i64 s.unit,.int .i64 s.par,.int .i64 s.level,.str s.mark,.str s.title,.lst s.fn s.fz (s.facts.map fcA)]] (by simp;omega) (hJ _ _ _ _)
    have hk2:=hKl (stp st (s,above++46::it))
    have tk3:=take3 hk2
    have hkm2:=shut_map (show n0≤n0+3 by omega) (hKs (stp st (s,above++46::it)))
    clear hlk hst
    simp (maxSteps:=9^9) (disch:=omega) [-List.map_replicate,-List.map_set,-List.getD_eq_getElem?_getD,-getElem?_pos,-getElem?_neg,om,h1,hg,splice,hk1,g0,g1,g2,g3,s0,s1,s2,s3,b0,b1,b2,b3,tk,e1,e2,e3,look1,look2,put1,put2,n1,n2,n3,n4,hcL,hcP,b3',g3',s3',vals_set,fv_str,fv_int,hcu3,hr,hlk2,hlp,hx,hw,hk3,itoaG,hid1,hid2,hit2,hc1,hk2,tk3,hkm2]
    refine ⟨i+1,stp st (s,above++46::it),setI m cm s.unit (above++46::it),tickI m cm s.unit,setI q cq s.par (x+1),⟨by rw [vals_set,vals_set];exact hi,by omega,hc2,?_,?_⟩,by omega,by omega,tickI q cq s.par,rfl⟩
    ·intro u v hv
     rw [vals_set,look_put] at hv
     split at hv
     ·cases hv;simp;omega
     ·have:=hm u v hv;omega
    ·intro u
     rw [vals_set,look_put]
     split
     ·simp;omega
     ·have:=hq u;omega
 ·rw [List.drop_eq_nil_of_le (by omega)] at hi
  rw [show (numRun Lib.itoa root ⟨valsI m,valsI q⟩ []).foldl stp st=st from rfl] at hi
  rw [hi]
  have hk1:=hKl st
  generalize K st=KS at*
  simp (maxSteps:=9^9) (disch:=omega) [-List.map_replicate,-List.map_set,-List.getD_eq_getElem?_getD,-getElem?_pos,-getElem?_neg,om,h1,tk,hkm,hk1]
end Go.Proofs.YtfnkchadeaedlaaGreatDoor
namespace Go.Proofs.YtfnkchadeaedlaaGreatDoor
open Go.Am
set_option maxRecDepth 10000
set_option maxHeartbeats 4000000
theorem foundP_fold (u:Int): ∀(l:List (Sh×Str)) (st:Str),l.foldl (fun st x=>if x.1.unit=u then x.2 else st) st=foundP u st l
 | [],_=>rfl
 | x::r,st=>by
  rw [List.foldl_cons,foundP_fold u r,foundP]
  split <;> rfl
def nmK (c:Ct) (u:Int) (f:Str):List Box:= [.var 26 (ctC c),.var 3 [.int .i64 u],.var 9 [.str f]]
theorem ansNum1 (c:Ct) (u:Int) (st:Str) (s:Sh) (n:Str) (J:List Box) (hJ:shut (3+J.length) J=true):
  ansF cfg 77 (shA s:: .str n:: [.ptr 1 0,.ptr 2 0]) (nmK c u st++J)=some (.tup [],nmK c u (if s.unit=u then n else st)++J):=by
 refine ans_of_wp fn77 low77 ?_
 have hJm:=shut_map (show 3+J.length≤J.length+1+1+1 by omega) hJ
 unfold shA nmK ctC
 generalize strA c.langs=L1 at*
 generalize c.labs.map lbA=L2 at*
 generalize c.shs.map shA=L3 at*
 by_cases h:s.unit=u
 ·simp (maxSteps:=9^9) (disch:=omega) [-List.map_replicate,-List.map_set,-List.getD_eq_getElem?_getD,-getElem?_pos,-getElem?_neg,om,ir77,h,splice,hJm]
 ·simp (maxSteps:=9^9) (disch:=omega) [-List.map_replicate,-List.map_set,-List.getD_eq_getElem?_getD,-getElem?_pos,-getElem?_neg,om,ir77,h,splice,hJm]
theorem ansNumber (c:Ct) (hc:c.ok) (root u:Int):
  ansF cfg 38 [ctA c,.int .i64 root,.int .i64 u] []=some (.tup (if chkC c=0 then [.str (numberP Lib.itoa c root u),.bool (decide (numberP Lib.itoa c root u≠ []))] else [.str [],.bool false]), []):=by
 refine ans_of_wp fn38 low38 ?_
 have h1:=ansChk c hc
 by_cases h:chkC c=0
 ·rw [if_pos h]
  rw [h] at h1
  have h2:=ansNumbered (nmK c u) (fun st x=>if x.1.unit=u then x.2 else st) (fun _ _=>True) 3 (fun st=>rfl) (fun st=>rfl) 77 ⟨rfl,rfl,rfl,rfl⟩ [.ptr 1 0,.ptr 2 0] c hc (Nat.le_trans (chkC_ok h).slen (by omega)) (fun n hn=>by simp [underAll,AV.under];omega) (fun B=>rfl) rfl
   (fun i st s n J _ _ _ _ hJ=>⟨ansNum1 c u st s n J hJ,trivial⟩) (fun _ _ _=>trivial) root [] trivial
  rw [foundP_fold] at h2
  have h3:foundP u [] (numRun Lib.itoa root ⟨[], []⟩ c.shs)=numberP Lib.itoa c root u:=rfl
  rw [h3] at h2
  generalize numberP Lib.itoa c root u=N at*
  unfold nmK ctA ctC at*
  generalize strA c.langs=L1 at*
  generalize c.labs.map lbA=L2 at*
  generalize c.shs.map shA=L3 at*
  simp (maxSteps:=9^9) (disch:=omega) [-List.map_replicate,-List.map_set,-List.getD_eq_getElem?_getD,-getElem?_pos,-getElem?_neg,om,ir38,h1,h2,splice]
  cases N <;> rfl
 ·rw [if_neg h]
  unfold ctA ctC at*
  generalize strA c.langs=L1 at*
  generalize c.labs.map lbA=L2 at*
  generalize c.shs.map shA=L3 at*
  simp (maxSteps:=9^9) (disch:=omega) [-List.map_replicate,-List.map_set,-List.getD_eq_getElem?_getD,-getElem?_pos,-getElem?_neg,om,ir38,h1,h,splice]
end Go.Proofs.YtfnkchadeaedlaaGreatDoor
namespace Go.Proofs.YtfnkchadeaedlaaGreatDoor
open Go.Am
set_option maxRecDepth 10000
set_option maxHeartbeats 4000000
theorem nameGo_len {N:Nat} (order:List Str) (el:Int): ∀(l:List Lb) (t:Str) (b:Int),t.length≤N→(∀x∈l,x.text.length≤N)→(nameGo order el t b l).length≤N
 | [],t,b,h,_=>h
 | x::r,t,b,h,hl=>by
  unfold nameGo
  split
  ·exact nameGo_len order el r _ _ (hl x (by simp)) (fun y hy=>hl y (by simp [hy]))
  ·exact nameGo_len order el r _ _ h (fun y hy=>hl y (by simp [hy]))
theorem cite_len {l:List Sh} (h: ∀s∈l,s.mark.length≤64∧s.title.length≤64) (u:Int):(citeS l u).length≤1000:=by
 unfold citeS
 split
 ·simp
 ·split
  ·rename_i s hs
   obtain ⟨h1,h2⟩:=h s (List.mem_of_getElem? hs)
   split
   ·omega
   ·simp;omega
  ·simp
theorem ansSectionOk (c:Ct) (hc:c.ok) (hk:CtOk c) (x:Sh) (hx:x∈c.shs) (num:Str) (hnl:num.length<10000) (on:Option Bool) (order:List Str) (ho:order.length<1000000):
  ansF cfg 62 [ctA c,shA x,.str num,.lst on 1 (strA order)] []=some (secA (secP Lib.itoa order c (x,num)), []):=by
 have hs:=hk.shs x hx
 refine ansSection c hc (fun s hs=>by have:=hk.shs s hs;exact ⟨by have:=this.mark;omega,by have:=this.tlen;omega⟩) (fun u=>cite_len (fun s hs=>⟨(hk.shs s hs).mark,(hk.shs s hs).tlen⟩) u) x num hnl (hc.sh x hx) ⟨hs.l1,hs.l2⟩ (by have:=hs.tlen;omega) on order ho (fun el h0 h9=> ?_) (fun f hf=> ?_)
 ·refine Nat.le_trans (nameGo_len (N:=64) order el c.labs _ _ ?_ (fun y hy=>(hk.labs y hy).len)) (by omega)
  have:=Lib.itoa_length_le el h0 h9
  simp [elemS];omega
 ·have:=hs.facts f hf
  exact ⟨by have:=this.len;omega,by have:=this.el1;omega,by have:=this.el2;omega⟩
def cmK (c:Ct) (root:Int) (lang:Str) (order:List Str) (l:List Sec):List Box:= [.var 26 (ctC c),.var 41 [.int .i64 0,.str [],.osl 2 0],.sl ⟨false,some 46,none⟩ 3 [],.var 41 [.int .i64 root,.str lang,.osl 5 l.length],.var 22 [.lst none 1 (strA order)],.sl ⟨false,some 46,none⟩ 3 (l.map secA)]
theorem ansCmp1 (c:Ct) (hc:c.ok) (hk:CtOk c) (root:Int) (lang:Str) (order:List Str) (ho:order.length<1000000) (l:List Sec) (hl:l.length<1000) (s:Sh) (hs:s∈c.shs) (n:Str) (hn:n.length<10000) (J:List Box) (hJ:shut (6+J.length) J=true):
  ansF cfg 61 (shA s:: .str n:: [.ptr 3 0,.ptr 0 0,.ptr 4 0]) (cmK c root lang order l++J)=some (.tup [],cmK c root lang order (l++ [secP Lib.itoa order c (s,n)])++J):=by
 refine ans_of_wp fn61 low61 ?_
 have hJm:=shut_map (show 6+J.length≤J.length+1+1+1+1+1+1 by omega) hJ
 have hsec:=ansSectionOk c hc hk s hs n hn none order ho
 have hll:(l.map secA).length=l.length:=by simp
 have hse: ∀x:Sec,secA x= .agg [.int .i64 x.unit,.str x.num,.lst none 3 (x.nodes.map ndA)]:=fun x=>rfl
 generalize secP Lib.itoa order c (s,n)=X at*
 have hlx:(l++ [X]).map secA=l.map secA++ [.agg [.int .i64 X.unit,.str X.num,.lst none 3 (X.nodes.map ndA)]]:=by simp [hse]
 have hxp:plainAll (X.nodes.map ndA)=true:=plainAll_map (fun _=>rfl) _
 rw [hse X] at hsec
 unfold cmK
 rw [hlx]
 unfold shA ctA ctC at*
 generalize strA c.langs=L1 at*
 generalize c.labs.map lbA=L2 at*
 generalize c.shs.map _=L3 at*
 generalize strA order=OA at*
 generalize s.facts.map fcA=FA at*
 generalize X.nodes.map ndA=XN at*
 generalize l.map secA=LA at*
 simp (maxSteps:=9^9) (disch:=omega) [-List.map_replicate,-List.map_set,-List.getD_eq_getElem?_getD,-getElem?_pos,-getElem?_neg,om,ir61,hsec,splice,hJm,hll,hxp]
theorem preferP_len (l:List Str) (s:Str):(preferP l s).length≤l.length+1:=by
 unfold preferP
 split
 ·simp only [List.length_cons,List.length_append,List.length_take,List.length_drop];omega
 ·simp
theorem fold_snoc {α β:Type} (g:α→β): ∀(l:List α) (a:List β),l.foldl (fun a x=>a++ [g x]) a=a++l.map g
 | [],a=>by simp
 | x::r,a=>by rw [List.foldl_cons,fold_snoc g r];simp
def aidA (root:Int) (lang:Str) (l:List Sec):AV:= .agg [.int .i64 root,.str lang,.lst none 3 (l.map secA)]
def aid0:AV:= .agg [.int .i64 0,.str [],.lst (some true) 0 []]
theorem ansCompile (c:Ct) (hc:c.ok) (root:Int) (lang:Str):
  ansF cfg 18 [ctA c,.int .i64 root,.str lang] []=some (.tup [if compE c root lang=0 then aidA root lang (aidP Lib.itoa c root lang) else aid0,.int .i64 (compE c root lang)], []):=by
 refine ans_of_wp fn18 low18 ?_
 have h1:=ansChk c hc
 have h2:=ansHasS c.ln c.lz c.langs hc.lz hc.ll lang
 have h3:=ansFind c.sn c.sz c.shs hc.sz hc.sl root
 by_cases hE:compE c root lang=0
 ·obtain ⟨hk0,hlang,i,hi⟩:=compE_ok hE
  have hk:=chkC_ok hk0
  have h4:=ansPrefer c hc lang hlang
  have hol:(preferP c.langs lang).length<1000000:=by have:=preferP_len c.langs lang;have:=hk.l2;omega
  have h5:=ansNumbered (cmK c root lang (preferP c.langs lang)) (fun l x=>l++ [secP Lib.itoa (preferP c.langs lang) c x]) (fun i l=>l.length≤i) 6 (fun l=>rfl) (fun l=>by simp [cmK,shut,underAll,AV.under,linkUnder,ctC]) 61 ⟨rfl,rfl,rfl,rfl⟩ [.ptr 3 0,.ptr 0 0,.ptr 4 0] c hc (Nat.le_trans hk.slen (by omega)) (fun n hn=>by simp [underAll,AV.under];omega) (fun B=>rfl) rfl
   (fun i l s n J hil hI hs hn hJ=>⟨ansCmp1 c hc hk root lang _ hol l (by have:=hk.slen;omega) s hs n hn J hJ,by simpa using hI⟩) (fun i l h=>by omega) root [] (by simp)
  rw [fold_snoc,List.nil_append] at h5
  have h6:(numRun Lib.itoa root ⟨[], []⟩ c.shs).map (secP Lib.itoa (preferP c.langs lang) c)=aidP Lib.itoa c root lang:=rfl
  rw [h6] at h5
  rw [if_pos hE,hE]
  rw [hlang] at h2
  rw [hi] at h3
  rw [hk0] at h1
  unfold aidA
  have hpl:plainAll ((aidP Lib.itoa c root lang).map secA)=true:=plainAll_map (fun x=>by simp [secA,AV.plain,plainAll]) _
  have hll:((aidP Lib.itoa c root lang).map secA).length=(aidP Lib.itoa c root lang).length:=by simp
  generalize hAP:aidP Lib.itoa c root lang=AP at*
  unfold cmK ctA ctC at*
  simp only [List.map_nil,List.length_nil] at h5
  have hoz:(strA (preferP c.langs lang)).length=(preferP c.langs lang).length:=strA_len _
  generalize strA (preferP c.langs lang)=OA at*
  generalize strA c.langs=L1 at*
  generalize c.labs.map lbA=L2 at*
  generalize c.shs.map shA=L3 at*
  generalize AP.map secA=AL at*
  simp (maxSteps:=9^9) (disch:=omega) [-List.map_replicate,-List.map_set,-List.getD_eq_getElem?_getD,-getElem?_pos,-getElem?_neg,om,ir18,h1,h2,h3,h4,h5,splice,numOpt,hll,hpl]
 ·rw [if_neg hE]
  unfold compE at*
  unfold aid0 ctA ctC at*
  generalize strA c.langs=L1 at*
  generalize c.labs.map lbA=L2 at*
  generalize c.shs.map shA=L3 at*
  by_cases e1:chkC c=0
  ·rw [if_neg (by simp [e1])] at hE⊢
   rw [e1] at h1
   cases e2:hasS c.langs lang with
   | false=>
    rw [e2] at h2
    simp (maxSteps:=9^9) (disch:=omega) [-List.map_replicate,-List.map_set,-List.getD_eq_getElem?_getD,-getElem?_pos,-getElem?_neg,om,ir18,h1,h2,splice]
   | true=>
    rw [e2] at h2 hE
    cases e3:idxU c.shs root with
    | none=>
     rw [e3] at h3
     simp (maxSteps:=9^9) (disch:=omega) [-List.map_replicate,-List.map_set,-List.getD_eq_getElem?_getD,-getElem?_pos,-getElem?_neg,om,ir18,h1,h2,h3,splice,numOpt]
    | some i=>rw [e3] at hE;simp at hE
  ·rw [if_pos e1] at hE⊢
   simp (maxSteps:=9^9) (disch:=omega) [-List.map_replicate,-List.map_set,-List.getD_eq_getElem?_getD,-getElem?_pos,-getElem?_neg,om,ir18,h1,e1,splice]
end Go.Proofs.YtfnkchadeaedlaaGreatDoor
namespace Go.Proofs.YtfnkchadeaedlaaGreatDoor
open Go.Am
set_option maxRecDepth 10000
set_option maxHeartbeats 4000000
theorem ansSpeaks (c:Ct) (hc:c.ok) (s:Str):ansF cfg 78 [ctA c,.str s] []=some (.bool (rightB c s), []):=by
 refine ans_of_wp fn78 low78 ?_
 have h1:=ansChk c hc
 have h2:=ansHasS c.ln c.lz c.langs hc.lz hc.ll s
 unfold rightB
 unfold ctA ctC at*
 generalize strA c.langs=L1 at*
 generalize c.labs.map lbA=L2 at*
 generalize c.shs.map shA=L3 at*
 by_cases h:chkC c=0
 ·rw [h] at h1
  simp (maxSteps:=9^9) (disch:=omega) [-List.map_replicate,-List.map_set,-List.getD_eq_getElem?_getD,-getElem?_pos,-getElem?_neg,om,ir78,h1,h2,h]
 ·have hb:(chkC c==0)=false:=by simp [h]
  simp (maxSteps:=9^9) (disch:=omega) [-List.map_replicate,-List.map_set,-List.getD_eq_getElem?_getD,-getElem?_pos,-getElem?_neg,om,ir78,h1,h,hb]
theorem ansRight (c:Ct) (hc:c.ok) (s:Str):ansF cfg 50 [ctA c,.str s] []=some (.bool (rightB c s), []):=by
 refine ans_of_wp fn50 low50 ?_
 have h1:=ansChk c hc
 have h2:=ansHasS c.ln c.lz c.langs hc.lz hc.ll s
 unfold rightB
 unfold ctA ctC at*
 generalize strA c.langs=L1 at*
 generalize c.labs.map lbA=L2 at*
 generalize c.shs.map shA=L3 at*
 by_cases h:chkC c=0
 ·rw [h] at h1
  simp (maxSteps:=9^9) (disch:=omega) [-List.map_replicate,-List.map_set,-List.getD_eq_getElem?_getD,-getElem?_pos,-getElem?_neg,om,ir50,h1,h2,h]
 ·have hb:(chkC c==0)=false:=by simp [h]
  simp (maxSteps:=9^9) (disch:=omega) [-List.map_replicate,-List.map_set,-List.getD_eq_getElem?_getD,-getElem?_pos,-getElem?_neg,om,ir50,h1,h,hb]
theorem ansCiteC (c:Ct) (hc:c.ok) (u:Int):ansF cfg 84 [ctA c,.int .i64 u] []=some (.str (if chkC c=0 then citeS c.shs u else []), []):=by
 refine ans_of_wp fn84 low84 ?_
 have h1:=ansChk c hc
 by_cases h:chkC c=0
 ·have hk:=chkC_ok h
  have h2:=ansCiteU c hc u (fun s hs=>by have:=(hk.shs s hs).mark;have:=(hk.shs s hs).tlen;omega)
  rw [if_pos h]
  rw [h] at h1
  unfold ctA ctC at*
  generalize strA c.langs=L1 at*
  generalize c.labs.map lbA=L2 at*
  generalize c.shs.map shA=L3 at*
  simp (maxSteps:=9^9) (disch:=omega) [-List.map_replicate,-List.map_set,-List.getD_eq_getElem?_getD,-getElem?_pos,-getElem?_neg,om,ir84,h1,h2]
 ·rw [if_neg h]
  unfold ctA ctC at*
  generalize strA c.langs=L1 at*
  generalize c.labs.map lbA=L2 at*
  generalize c.shs.map shA=L3 at*
  simp (maxSteps:=9^9) (disch:=omega) [-List.map_replicate,-List.map_set,-List.getD_eq_getElem?_getD,-getElem?_pos,-getElem?_neg,om,ir84,h1,h]
theorem rightB_has {c:Ct} {s:Str} (h:rightB c s=true):hasS c.langs s=true:=by
 unfold rightB at h;simp at h;exact h.2
theorem prefer_lt {c:Ct} (hc:c.ok) (s:Str):(preferP c.langs s).length<1000000∨(preferP c.langs s).length≤c.langs.length+1:=by
 right
 unfold preferP
 split
 ·simp only [List.length_cons,List.length_append,List.length_take,List.length_drop];omega
 ·simp
theorem ansNameC (c:Ct) (hc:c.ok) (el:Int) (s:Str):ansF cfg 83 [ctA c,.int .i64 el,.str s] []=some (.str (if el<1∨64<el∨rightB c s=false then [] else nameP (preferP c.langs s) c.labs el (elemS Lib.itoa el)), []):=by
 refine ans_of_wp fn83 low83 ?_
 have h1:=ansSpeaks c hc s
 by_cases h:el<1∨64<el
 ·rw [if_pos (by omega)]
  unfold ctA ctC at*
  generalize strA c.langs=L1 at*
  generalize c.labs.map lbA=L2 at*
  generalize c.shs.map shA=L3 at*
  rcases h with h | h
  ·simp (maxSteps:=9^9) (disch:=omega) [-List.map_replicate,-List.map_set,-List.getD_eq_getElem?_getD,-getElem?_pos,-getElem?_neg,om,ir83,h]
  ·simp (maxSteps:=9^9) (disch:=omega) [-List.map_replicate,-List.map_set,-List.getD_eq_getElem?_getD,-getElem?_pos,-getElem?_neg,om,ir83,h]
 ·cases hr:rightB c s with
  | false=>
   rw [if_pos (.inr (.inr rfl))]
   rw [hr] at h1
   unfold ctA ctC at*
   generalize strA c.langs=L1 at*
   generalize c.labs.map lbA=L2 at*
   generalize c.shs.map shA=L3 at*
   simp (maxSteps:=9^9) (disch:=omega) [-List.map_replicate,-List.map_set,-List.getD_eq_getElem?_getD,-getElem?_pos,-getElem?_neg,om,ir83,h1,h]
  | true=>
   rw [if_neg (by simp;omega)]
   rw [hr] at h1
   have h2:=ansPrefer c hc s (rightB_has hr)
   have hk:chkC c=0:=by unfold rightB at hr;simp at hr;exact hr.1
   have hl:=(prefer_lt hc s).resolve_left
   have h3:=ansNameP c hc el (by omega) (by omega) none (preferP c.langs s) (by have:=(chkC_ok hk).l2;rcases prefer_lt hc s with h | h <;> omega)
   unfold ctA ctC at*
   generalize strA c.langs=L1 at*
   generalize c.labs.map lbA=L2 at*
   generalize c.shs.map shA=L3 at*
   generalize strA (preferP c.langs s)=OA at*
   simp (maxSteps:=9^9) (disch:=omega) [-List.map_replicate,-List.map_set,-List.getD_eq_getElem?_getD,-getElem?_pos,-getElem?_neg,om,ir83,h1,h2,h3,h]
theorem ansChoose (c:Ct) (hc:c.ok) (u:Int) (s:Str): ∃nl z,ansF cfg 39 [ctA c,.int .i64 u,.str s] []=some (.lst nl z ((chosenP c u s).map fcA), [])∧(chosenP c u s≠ []→z=3):=by
 have h1:=ansSpeaks c hc s
 have h2:=ansFind c.sn c.sz c.shs hc.sz hc.sl u
 unfold chosenP factsU
 cases hx:idxU c.shs u with
 | none=>
  rw [hx] at h2
  have hsU:sheetU c u=none:=by unfold sheetU;rw [hx]
  rw [hsU]
  have he:(if rightB c s=true then chooseP (preferP c.langs s) [] else [])= []:=by split <;> rfl
  simp only [he]
  refine ⟨some true,0,?_,fun h=>absurd rfl h⟩
  refine ans_of_wp fn39 low39 ?_
  unfold ctA ctC at*
  generalize strA c.langs=L1 at*
  generalize c.labs.map lbA=L2 at*
  generalize c.shs.map shA=L3 at*
  simp (maxSteps:=9^9) (disch:=omega) [-List.map_replicate,-List.map_set,-List.getD_eq_getElem?_getD,-getElem?_pos,-getElem?_neg,om,ir39,h2,numOpt]
 | some i=>
  rw [hx] at h2
  have hi:=idxU_lt hx
  have hgo:c.shs[i]?=some c.shs[i]:=List.getElem?_eq_getElem hi
  have hsU:sheetU c u=some c.shs[i]:=by unfold sheetU;rw [hx];exact hgo
  rw [hsU]
  have hsz:=hc.sz (ne_of_lt hi)
  have hg:(c.shs.map shA)[i]?=some (.agg [.int .i64 c.shs[i].unit,.int .i64 c.shs[i].par,.int .i64 c.shs[i].level,.str c.shs[i].mark,.str c.shs[i].title,.lst c.shs[i].fn c.shs[i].fz (c.shs[i].facts.map fcA)]):=get_map _ _ hi
  have hso:=hc.sh _ (List.getElem_mem hi)
  have hEl:(c.shs.map shA).length=c.shs.length:=by simp
  have hil:i<1000000:=by have:=hc.sl;omega
  cases hr:rightB c s with
  | false=>
   rw [hr] at h1
   refine ⟨some true,0,?_,by simp⟩
   refine ans_of_wp fn39 low39 ?_
   unfold ctA ctC at*
   generalize strA c.langs=L1 at*
   generalize c.labs.map lbA=L2 at*
   generalize c.shs.map shA=L3 at*
   simp (maxSteps:=9^9) (disch:=omega) [-List.map_replicate,-List.map_set,-List.getD_eq_getElem?_getD,-getElem?_pos,-getElem?_neg,om,ir39,h1,h2,numOpt]
  | true=>
   rw [hr] at h1
   have h3:=ansPrefer c hc s (rightB_has hr)
   have hk:chkC c=0:=by unfold rightB at hr;simp at hr;exact hr.1
   have h4:=ansChooseP c.shs[i].fn c.shs[i].fz c.shs[i].facts hso.fz hso.fl none (preferP c.langs s) (by have:=(chkC_ok hk).l2;rcases prefer_lt hc s with h | h <;> omega)
   refine ⟨none,3,?_,fun _=>rfl⟩
   refine ans_of_wp fn39 low39 ?_
   unfold ctA ctC at*
   simp only [if_true]
   generalize c.shs[i]=x at*
   generalize strA c.langs=L1 at*
   generalize c.labs.map lbA=L2 at*
   generalize c.shs.map shA=L3 at*
   generalize strA (preferP c.langs s)=OA at*
   generalize (chooseP (preferP c.langs s) x.facts).map fcA=CA at*
   rw [hsz] at*
   simp (maxSteps:=9^9) (disch:=omega) [-List.map_replicate,-List.map_set,-List.getD_eq_getElem?_getD,-getElem?_pos,-getElem?_neg,om,ir39,h1,h2,h3,h4,numOpt,hg,hEl,hi]
end Go.Proofs.YtfnkchadeaedlaaGreatDoor
