/-
 Stale and Differ, of the program and of the reference; equal reads. Equal lists of nodes, of cells and of reads; equal sections; copies of lists; a cell in a list. Differ, of the program and of the reference. Catalogs that are few. Reads and catalogs that are few. The copy of a catalog. depend.Reads of a section that there is. The town of the example: what its reads, its sections and its changes are. How long reads and their values are. Cells and reads that come in.
-/
import Derived.Test.YtfnkchadeaedlaaGreatDoorRdM
import Derived.Test.YtfnkchadeaedlaaGreatDoorAdM
import Derived.Test.YtfnkchadeaedlaaGreatDoorDpM
import Derived.Test.YtfnkchadeaedlaaGreatDoorCatM
import Derived.Test.YtfnkchadeaedlaaGreatDoorDqM
import Derived.Test.YtfnkchadeaedlaaGreatDoorRfM
set_option linter.all false
namespace Go.Proofs.YtfnkchadeaedlaaGreatDoor
open Go.Am
set_option maxRecDepth 10000
set_option maxHeartbeats 8000000
theorem valQ_I {c:Ct} {lang:Str} {root:Int} (x:Cell):valQ Lib.itoa esc c lang root x=if rightB c lang=true then valI Lib.itoa esc c lang root x else []:=by
 unfold valQ
 by_cases h:rightB c lang=true
 ·rw [if_pos h,if_pos h,valI_is itoa_dec2 (chkC_ok (right_ok h).1)]
 ·rw [if_neg h,if_neg h]
theorem staleB_cons (val:Cell→Str) (r:Cell×Str) (l:List (Cell×Str)):staleB val (r::l)=(decide (val r.1≠r.2) || staleB val l):=rfl
theorem ansStaleD (c:Ct) (hc:c.ok) (root:Int) (lang:Str) (nl:Option Bool) (z:Nat) (l:List (Cell×Str)) (hz:l≠ []→z=3) (hl:l.length<1000000):
  ansF cfg 21 [ctA c,.int .i64 root,.str lang,.lst nl z (rdsA l)] []=some (.bool (staleB (valQ Lib.itoa esc c lang root) l), []):=by
 refine ans_of_wp fn21 low21 ?_
 have w1:=ansRight c hc lang
 have w2:rightB c lang=true→ ∀x:Cell,_:=fun h x=>ansValue1 c hc root lang x h
 have hv: ∀x,valQ Lib.itoa esc c lang root x=_:=fun x=>valQ_I x
 have hE: ∀k (h:k<l.length),(rdsA l)[k]?=some (.agg [.int .i64 l[k].1.1,.int .i64 l[k].1.2,.str l[k].2]):=fun k h=>get_map _ _ h
 have hEl:(rdsA l).length=l.length:=by simp [rdsA]
 generalize rdsA l=E at*
 generalize valQ Lib.itoa esc c lang root=val at*
 generalize valI Lib.itoa esc c lang root=vi at*
 generalize rightB c lang=rb at*
 unfold ctA ctC at*
 generalize strA c.langs=L1 at*
 generalize c.labs.map lbA=L2 at*
 generalize c.shs.map shA=L3 at*
 simp (maxSteps:=9^9) (disch:=omega) [-List.map_replicate,-List.map_set,-List.getD_eq_getElem?_getD,-getElem?_pos,-getElem?_neg,om,ir21,w1,hEl]
 refine Wp.loopM (fun (i:Nat)=>l.length-i) (fun i=> [none,some (.int .i64 root),some (.str lang),none,some (.ptr 0 0),none,some (.bool rb),none,none,none,some (.lst nl z E),some (.int .i64 l.length),some (.int .i64 i),none,none,none,none,none]) (fun _=> [.var 26 [.lst c.ln c.lz L1,.lst c.bn c.bz L2,.lst c.sn c.sz L3]]) (fun i=>staleB val l=staleB val (l.drop i)∧i≤l.length) ?_ 0 ⟨by simp,by omega⟩ (by simp) rfl
 rintro i ⟨hi,hil⟩
 rw [hi]
 clear hi
 by_cases h1:i<l.length
 ·have hg:=hE i h1
  obtain rfl:=hz (ne_of_lt h1)
  rw [List.drop_eq_getElem_cons h1,staleB_cons]
  have hvi:=hv l[i].1
  have w3:=fun h=>w2 h l[i].1
  clear hE w2 hv w1
  generalize l[i]=r at*
  obtain ⟨⟨r1,r2⟩,t⟩:=r
  simp only at hg hvi w3⊢
  rw [hvi]
  cases rb with
  | true=>
   have w4:=w3 rfl
   rw [if_pos rfl]
   generalize vi (r1,r2)=x at*
   clear w3 hvi
   by_cases he:x=t
   ·have he2:(x !=t)=false:=by simp [he]
    rw [show decide (x≠t)=false by simp [he],Bool.false_or]
    simp (maxSteps:=9^9) (disch:=omega) [-List.map_replicate,-List.map_set,-List.getD_eq_getElem?_getD,-getElem?_pos,-getElem?_neg,om,h1,hg,splice,w4,he,he2]
    exact ⟨i+1,⟨rfl,by omega⟩,by omega,by simp⟩
   ·have he2:(x !=t)=true:=by simpa using he
    rw [show decide (x≠t)=true by simpa using he,Bool.true_or]
    simp (maxSteps:=9^9) (disch:=omega) [-List.map_replicate,-List.map_set,-List.getD_eq_getElem?_getD,-getElem?_pos,-getElem?_neg,om,h1,hg,splice,w4,he,he2]
  | false=>
   rw [if_neg (by simp)]
   clear w3 hvi
   by_cases he:t= []
   ·subst he
    rw [show decide (([]:Str)≠ [])=false by simp,Bool.false_or]
    simp (maxSteps:=9^9) (disch:=omega) [-List.map_replicate,-List.map_set,-List.getD_eq_getElem?_getD,-getElem?_pos,-getElem?_neg,om,h1,hg,splice]
    exact ⟨i+1,⟨rfl,by omega⟩,by omega,by simp⟩
   ·have he2:(([]:Str) !=t)=true:=by simpa using Ne.symm he
    rw [show decide (([]:Str)≠t)=true by simpa using Ne.symm he,Bool.true_or]
    simp (maxSteps:=9^9) (disch:=omega) [-List.map_replicate,-List.map_set,-List.getD_eq_getElem?_getD,-getElem?_pos,-getElem?_neg,om,h1,hg,splice,he,he2]
 ·rw [List.drop_eq_nil_of_le (by omega)]
  simp (maxSteps:=9^9) (disch:=omega) [-List.map_replicate,-List.map_set,-List.getD_eq_getElem?_getD,-getElem?_pos,-getElem?_neg,om,h1,staleB]
instance:DecidableEq Nd:=fun a b=>decidable_of_iff (a.depth=b.depth∧a.tag=b.tag∧a.text=b.text) (by cases a;cases b;simp)
instance:DecidableEq Sec:=fun a b=>decidable_of_iff (a.unit=b.unit∧a.num=b.num∧a.nodes=b.nodes) (by cases a;cases b;simp)
theorem ansSameN (nl nl':Option Bool) (z z':Nat) (l m:List Nd) (hz:l≠ []→z=3) (hz':m≠ []→z'=3) (hl:l.length<1000000) (hm:m.length<1000000):ansF cfg 68 [.lst nl z (l.map ndA),.lst nl' z' (m.map ndA)] []=some (.bool (decide (l=m)), []):=by
 refine ans_of_wp fn68 low68 ?_
 have hE: ∀k (h:k<l.length),(l.map ndA)[k]?=some (.agg [.int .i64 l[k].depth,.str l[k].tag,.str l[k].text]):=fun k h=>get_map _ _ h
 have hE': ∀k (h:k<m.length),(m.map ndA)[k]?=some (.agg [.int .i64 m[k].depth,.str m[k].tag,.str m[k].text]):=fun k h=>get_map _ _ h
 have hEl:(l.map ndA).length=l.length:=by simp
 have hEm:(m.map ndA).length=m.length:=by simp
 generalize l.map ndA=E at*
 generalize m.map ndA=E' at*
 by_cases hlm:l.length=m.length
 case neg=>
  have h2:((l.length:Int) !=(m.length:Int))=true:=by rw [bne_iff_ne];omega
  have h3: ¬ l=m:=fun h=>hlm (by rw [h])
  simp (maxSteps:=9^9) (disch:=omega) [-List.map_replicate,-List.map_set,-List.getD_eq_getElem?_getD,-getElem?_pos,-getElem?_neg,om,ir68,hEl,hEm,h2,h3]
 have h2:((l.length:Int) !=(m.length:Int))=false:=by rw [bne_eq_false_iff_eq];omega
 simp (maxSteps:=9^9) (disch:=omega) [-List.map_replicate,-List.map_set,-List.getD_eq_getElem?_getD,-getElem?_pos,-getElem?_neg,om,ir68,hEl,hEm,h2]
 refine Wp.loopM (fun (i:Nat)=>l.length-i) (fun i=> [some (.lst nl z E),some (.lst nl' z' E'),none,some (.int .i64 i),none,none,none]) (fun _=> []) (fun i=>(l=m↔l.drop i=m.drop i)∧i≤l.length) ?_ 0 ⟨by simp,by omega⟩ (by simp) rfl
 rintro i ⟨hi,hil⟩
 by_cases h1:i<l.length
 ·have h1':i<m.length:=by omega
  have hg:=hE i h1
  have hg':=hE' i h1'
  obtain rfl:=hz (ne_of_lt h1)
  obtain rfl:=hz' (ne_of_lt h1')
  rw [List.drop_eq_getElem_cons h1,List.drop_eq_getElem_cons h1',List.cons.injEq] at hi
  clear hE hE'
  generalize l[i]=r at*
  generalize m[i]=r' at*
  obtain ⟨r1,r2,t⟩:=r
  obtain ⟨r1',r2',t'⟩:=r'
  simp only at hg hg'
  simp (maxSteps:=9^9) (disch:=omega) [-List.map_replicate,-List.map_set,-List.getD_eq_getElem?_getD,-getElem?_pos,-getElem?_neg,om,h1,h1',hg,hg',hEl,hEm]
  split
  ·rename_i q
   intro e
   obtain ⟨e1,_⟩:=hi.1 e
   simp only [Nd.mk.injEq] at e1
   obtain ⟨e2,e3,e4⟩:=e1
   rcases q with q | q | q
   ·exact q e2
   ·exact q e3
   ·exact q e4
  ·rename_i q
   simp only [not_or,Classical.not_not] at q
   obtain ⟨rfl,rfl,rfl⟩:=q
   exact ⟨i+1,⟨by rw [hi];simp,by omega⟩,by omega,by simp⟩
 ·rw [List.drop_eq_nil_of_le (by omega),List.drop_eq_nil_of_le (by omega)] at hi
  have hi2:l=m:=hi.2 rfl
  simp (maxSteps:=9^9) (disch:=omega) [-List.map_replicate,-List.map_set,-List.getD_eq_getElem?_getD,-getElem?_pos,-getElem?_neg,om,h1,hEl,hEm,hi2]
theorem ansSameSec (s t:Sec) (nl nl':Option Bool) (z z':Nat) (hz:s.nodes≠ []→z=3) (hz':t.nodes≠ []→z'=3) (hl:s.nodes.length<1000000) (hm:t.nodes.length<1000000):
  ansF cfg 20 [.agg [.int .i64 s.unit,.str s.num,.lst nl z (s.nodes.map ndA)],.agg [.int .i64 t.unit,.str t.num,.lst nl' z' (t.nodes.map ndA)]] []=some (.bool (decide (s=t)), []):=by
 refine ans_of_wp fn20 low20 ?_
 have w:=ansSameN nl nl' z z' s.nodes t.nodes hz hz' hl hm
 obtain ⟨a,b,l⟩:=s
 obtain ⟨a',b',l'⟩:=t
 simp only at w⊢
 have hd:decide (Sec.mk a b l=⟨a',b',l'⟩)=(decide (a=a')&&(decide (b=b')&&decide (l=l'))):=by
  rw [Bool.eq_iff_iff];simp
 rw [hd]
 generalize decide (l=l')=dl at*
 generalize l.map ndA=E at*
 generalize l'.map ndA=E' at*
 by_cases h1:a=a'
 ·by_cases h2:b=b'
  ·simp (maxSteps:=9^9) (disch:=omega) [-List.map_replicate,-List.map_set,-List.getD_eq_getElem?_getD,-getElem?_pos,-getElem?_neg,om,ir20,w,h1,h2]
  ·have h2':(b==b')=false:=by simpa using h2
   simp (maxSteps:=9^9) (disch:=omega) [-List.map_replicate,-List.map_set,-List.getD_eq_getElem?_getD,-getElem?_pos,-getElem?_neg,om,ir20,w,h1,h2,h2']
 ·have h1':(a==a')=false:=by simpa using h1
  simp (maxSteps:=9^9) (disch:=omega) [-List.map_replicate,-List.map_set,-List.getD_eq_getElem?_getD,-getElem?_pos,-getElem?_neg,om,ir20,w,h1,h1']
def clsA (l:List Cell):List AV:=l.map clA
theorem ansEqR (nl nl':Option Bool) (z z':Nat) (l m:List (Cell×Str)) (hz:l≠ []→z=3) (hz':m≠ []→z'=3) (hl:l.length<1000000) (hm:m.length<1000000):ansF cfg 37 [.lst nl z (rdsA l),.lst nl' z' (rdsA m)] []=some (.bool (decide (l=m)), []):=by
 refine ans_of_wp fn37 low37 ?_
 have hE: ∀k (h:k<l.length),(rdsA l)[k]?=some (.agg [.int .i64 l[k].1.1,.int .i64 l[k].1.2,.str l[k].2]):=fun k h=>get_map _ _ h
 have hE': ∀k (h:k<m.length),(rdsA m)[k]?=some (.agg [.int .i64 m[k].1.1,.int .i64 m[k].1.2,.str m[k].2]):=fun k h=>get_map _ _ h
 have hEl:(rdsA l).length=l.length:=by simp [rdsA]
 have hEm:(rdsA m).length=m.length:=by simp [rdsA]
 generalize rdsA l=E at*
 generalize rdsA m=E' at*
 by_cases hlm:l.length=m.length
 case neg=>
  have h2:((l.length:Int) !=(m.length:Int))=true:=by rw [bne_iff_ne];omega
  have h3: ¬ l=m:=fun h=>hlm (by rw [h])
  simp (maxSteps:=9^9) (disch:=omega) [-List.map_replicate,-List.map_set,-List.getD_eq_getElem?_getD,-getElem?_pos,-getElem?_neg,om,ir37,hEl,hEm,h2,h3]
 have h2:((l.length:Int) !=(m.length:Int))=false:=by rw [bne_eq_false_iff_eq];omega
 simp (maxSteps:=9^9) (disch:=omega) [-List.map_replicate,-List.map_set,-List.getD_eq_getElem?_getD,-getElem?_pos,-getElem?_neg,om,ir37,hEl,hEm,h2]
 refine Wp.loopM (fun (i:Nat)=>l.length-i) (fun i=> [some (.lst nl z E),some (.lst nl' z' E'),none,none,none,some (.int .i64 l.length),some (.int .i64 i),none,none]) (fun _=> []) (fun i=>(l=m↔l.drop i=m.drop i)∧i≤l.length) ?_ 0 ⟨by simp,by omega⟩ (by simp) rfl
 rintro i ⟨hi,hil⟩
 by_cases h1:i<l.length
 ·have h1':i<m.length:=by omega
  have hg:=hE i h1
  have hg':=hE' i h1'
  obtain rfl:=hz (ne_of_lt h1)
  obtain rfl:=hz' (ne_of_lt h1')
  rw [List.drop_eq_getElem_cons h1,List.drop_eq_getElem_cons h1',List.cons.injEq] at hi
  clear hE hE'
  generalize l[i]=r at*
  generalize m[i]=r' at*
  obtain ⟨⟨r1,r2⟩,t⟩:=r
  obtain ⟨⟨r1',r2'⟩,t'⟩:=r'
  simp only at hg hg'
  simp (maxSteps:=9^9) (disch:=omega) [-List.map_replicate,-List.map_set,-List.getD_eq_getElem?_getD,-getElem?_pos,-getElem?_neg,om,h1,h1',hg,hg',hEl,hEm]
  split
  ·rename_i q
   intro e
   obtain ⟨e1,_⟩:=hi.1 e
   simp only [Prod.mk.injEq] at e1
   obtain ⟨⟨e2,e3⟩,e4⟩:=e1
   rcases q with (q | q) | q
   ·exact q e2
   ·exact q e3
   ·exact q e4
  ·rename_i q
   simp only [not_or,Classical.not_not] at q
   obtain ⟨⟨rfl,rfl⟩,rfl⟩:=q
   exact ⟨i+1,⟨by rw [hi];simp,by omega⟩,by omega,by simp⟩
 ·rw [List.drop_eq_nil_of_le (by omega),List.drop_eq_nil_of_le (by omega)] at hi
  have hi2:l=m:=hi.2 rfl
  simp (maxSteps:=9^9) (disch:=omega) [-List.map_replicate,-List.map_set,-List.getD_eq_getElem?_getD,-getElem?_pos,-getElem?_neg,om,h1,hEl,hEm,hi2]
theorem plain_clsA: ∀l:List Cell,plainAll (clsA l)=true
 | []=>rfl
 | x::r=>by simp [clsA,clA,plainAll,AV.plain];exact plain_clsA r
theorem differL_cons (f g:Cell→Str) (x:Cell) (l:List Cell):differL f g (x::l)=if f x=g x then differL f g l else x::differL f g l:=by
 unfold differL
 rw [List.filter_cons]
 by_cases h:f x=g x
 ·rw [if_neg (by simpa using h),if_pos h]
 ·rw [if_pos (by simpa using h),if_neg h]
theorem ansDiffer (a b:Ct) (ha:a.ok) (hb:b.ok) (root:Int) (lang:Str) (nl:Option Bool) (z:Nat) (l:List Cell) (hz:l≠ []→z=2) (hl:l.length<1000000):
  ansF cfg 24 [ctA a,ctA b,.int .i64 root,.str lang,.lst nl z (clsA l)] []=some (.lst none 2 (clsA (differL (valQ Lib.itoa esc a lang root) (valQ Lib.itoa esc b lang root) l)), []):=by
 refine ans_of_wp fn24 low24 ?_
 have w1: ∀x:Cell,_:=fun x=>ansValueC a ha root lang x
 have w2: ∀x:Cell,_:=fun x=>ansValueC b hb root lang x
 simp only [←valQ_I] at w1 w2
 have hE: ∀k (h:k<l.length),(clsA l)[k]?=some (.agg [.int .i64 l[k].1,.int .i64 l[k].2]):=fun k h=>get_map _ _ h
 have hEl:(clsA l).length=l.length:=by simp [clsA]
 generalize clsA l=E at*
 generalize valQ Lib.itoa esc a lang root=va at*
 generalize valQ Lib.itoa esc b lang root=vb at*
 unfold ctA ctC at*
 generalize strA a.langs=L1 at*
 generalize a.labs.map lbA=L2 at*
 generalize a.shs.map shA=L3 at*
 generalize strA b.langs=M1 at*
 generalize b.labs.map lbA=M2 at*
 generalize b.shs.map shA=M3 at*
 simp (maxSteps:=9^9) (disch:=omega) [-List.map_replicate,-List.map_set,-List.getD_eq_getElem?_getD,-getElem?_pos,-getElem?_neg,om,ir24,hEl]
 refine Wp.loopM (fun (x:Nat×List Cell)=>l.length-x.1) (fun x=> [none,none,some (.int .i64 root),some (.str lang),none,some (.ptr 0 0),some (.ptr 1 0),none,some (.osl 2 x.2.length),none,some (.lst nl z E),some (.int .i64 l.length),some (.int .i64 x.1),none,none,none,none,none,none,none]) (fun x=> [.var 26 [.lst a.ln a.lz L1,.lst a.bn a.bz L2,.lst a.sn a.sz L3],.var 26 [.lst b.ln b.lz M1,.lst b.bn b.bz M2,.lst b.sn b.sz M3],.sl ⟨false,some 28,none⟩ 2 (clsA x.2)]) (fun x=>differL va vb l=x.2++differL va vb (l.drop x.1)∧x.1≤l.length∧x.2.length≤x.1) ?_ (0, []) ⟨by simp,by simp,by simp⟩ (by simp) (by simp [clsA])
 rintro ⟨i,out⟩ ⟨hi,hil,hol⟩
 simp only at hi hil hol⊢
 rw [hi]
 clear hi
 have hol2:(clsA out).length=out.length:=by simp [clsA]
 by_cases h1:i<l.length
 ·have hg:=hE i h1
  obtain rfl:=hz (ne_of_lt h1)
  rw [List.drop_eq_getElem_cons h1,differL_cons]
  have w3:=w1 l[i]
  have w4:=w2 l[i]
  clear hE w1 w2
  generalize l[i]=r at*
  obtain ⟨r1,r2⟩:=r
  simp only at hg w3 w4⊢
  generalize va (r1,r2)=x at*
  generalize vb (r1,r2)=y at*
  by_cases he:x=y
  ·rw [if_pos he]
   have he2:(x !=y)=false:=by simp [he]
   simp (maxSteps:=9^9) (disch:=omega) [-List.map_replicate,-List.map_set,-List.getD_eq_getElem?_getD,-getElem?_pos,-getElem?_neg,om,h1,hg,hEl,splice,w3,w4,he,he2]
   exact ⟨i+1,out,⟨rfl,by omega,by omega⟩,by omega,by simp,rfl⟩
  ·rw [if_neg he]
   have he2:(x !=y)=true:=by simpa using he
   simp (maxSteps:=9^9) (disch:=omega) [-List.map_replicate,-List.map_set,-List.getD_eq_getElem?_getD,-getElem?_pos,-getElem?_neg,om,h1,hg,hEl,splice,w3,w4,he,he2,hol2]
   exact ⟨i+1,out++ [(r1,r2)],⟨by simp,by omega,by simp;omega⟩,by omega,by simp,by simp [clsA,clA]⟩
 ·rw [List.drop_eq_nil_of_le (by omega)]
  have hpl:=plain_clsA out
  simp (maxSteps:=9^9) (disch:=omega) [-List.map_replicate,-List.map_set,-List.getD_eq_getElem?_getD,-getElem?_pos,-getElem?_neg,om,h1,hEl,differL,hpl]
def fewN (a b n:Nat):Bool:=decide (n≤a∨b<n∧n≤b+1)
def fewF (f:Fc):Bool:=decide (f.lang.length≤10)&&fewN 60 4096 f.text.length
def fewS (s:Sh):Bool:=(decide (s.mark.length≤70)&&decide (s.title.length≤70)&&fewN 6 32 s.facts.length)&&s.facts.all fewF
def fewB (b:Lb):Bool:=decide (b.text.length≤70)&&decide (b.lang.length≤10)
def fewC (c:Ct):Bool:=(decide (c.langs.length≤10)&&fewN 20 256 c.labs.length&&fewN 14 256 c.shs.length)&&(c.langs.all (fun s=>decide (s.length≤10))&&(c.labs.all fewB&&c.shs.all fewS))
theorem few_ct {c:Ct} (hi:c.inn) (h:fewC c=true):c.ok:=by
 unfold fewC fewN at h
 simp only [Bool.and_eq_true,decide_eq_true_eq,List.all_eq_true] at h
 obtain ⟨⟨⟨h1,h2⟩,h3⟩,h4,h5,h6⟩:=h
 refine ⟨hi.lz,hi.bz,hi.sz,by omega,by omega,by omega,fun s hs=>⟨(hi.sh s hs).fz,?_⟩⟩
 have:=h6 s hs
 unfold fewS fewN at this
 simp only [Bool.and_eq_true,decide_eq_true_eq] at this
 omega
theorem ansFewC (c:Ct) (hi:c.inn):ansF cfg 11 [ctA c] []=some (.bool (fewC c), []):=by
 refine ans_of_wp fn11 low11 ?_
 have hl:=hi.ll
 have hb:=hi.bl
 have hs:=hi.sl
 unfold maxLen at hl hb hs
 unfold fewC ctA ctC
 generalize hL:c.langs.length=nL at*
 generalize hB:c.labs.length=nB at*
 generalize hS:c.shs.length=nS at*
 have hL':(strA c.langs).length=nL:=by simp [hL]
 have hB':(c.labs.map lbA).length=nB:=by simp [hB]
 have hS':(c.shs.map shA).length=nS:=by simp [hS]
 obtain ⟨AA,hA⟩: ∃A,A=(c.langs.all (fun s=>decide (s.length≤10))&&(c.labs.all fewB&&c.shs.all fewS)):=⟨_,rfl⟩
 rw [←hA]
 have hE1: ∀k (h:k<c.langs.length),(strA c.langs)[k]?=some (.str c.langs[k]):=fun k h=>get_map _ _ (by omega)
 have hE2: ∀k (h:k<c.labs.length),(c.labs.map lbA)[k]?=some (lbA c.labs[k]):=fun k h=>get_map _ _ (by omega)
 have hE3: ∀k (h:k<c.shs.length),(c.shs.map shA)[k]?=some (shA c.shs[k]):=fun k h=>get_map _ _ (by omega)
 have z1:=hi.lz
 have z2:=hi.bz
 have z3:=hi.sz
 generalize strA c.langs=L1 at*
 generalize c.labs.map lbA=L2 at*
 generalize c.shs.map shA=L3 at*
 by_cases hQ:(decide (nL≤10)&&fewN 20 256 nB&&fewN 14 256 nS)=true
 case neg=>
  rw [Bool.eq_false_iff.2 hQ,Bool.false_and]
  clear hE1 hE2 hE3 z1 z2 z3
  simp (maxSteps:=9^9) (disch:=omega) [-List.map_replicate,-List.map_set,-List.getD_eq_getElem?_getD,-getElem?_pos,-getElem?_neg,om,ir11,hL',hB',hS']
  unfold fewN at hQ
  simp only [Bool.and_eq_true,decide_eq_true_eq] at hQ
  intros
  exfalso
  omega
 rw [hQ,Bool.true_and]
 have hq:=hQ
 unfold fewN at hq
 simp only [Bool.and_eq_true,decide_eq_true_eq] at hq
 obtain ⟨⟨q1,q2⟩,q3⟩:=hq
 simp (maxSteps:=9^9) (disch:=omega) [-List.map_replicate,-List.map_set,-List.getD_eq_getElem?_getD,-getElem?_pos,-getElem?_neg,om,ir11,hL',hB',hS']
 rw [if_neg (by omega)]
 refine Wp.loopM (fun (i:Nat)=>nL-i) (fun i=> [none,some (.ptr 0 0),none,some (.int .i64 i),none,none,none,none,none,none,none,none,none,none,none,none,none,none]) (fun _=> [.var 26 [.lst c.ln c.lz L1,.lst c.bn c.bz L2,.lst c.sn c.sz L3]]) (fun i=>AA=((c.langs.drop i).all (fun s=>decide (s.length≤10))&&(c.labs.all fewB&&c.shs.all fewS))∧i≤nL) ?_ 0 ⟨by rw [List.drop_zero];exact hA,by omega⟩ (by simp) rfl
 clear hA
 rintro i ⟨hA,hil⟩
 by_cases h1:i<nL
 ·have hg:=hE1 i (by omega)
  have h1':i<c.langs.length:=by omega
  obtain hzz:=z1 (ne_of_lt h1')
  rw [List.drop_eq_getElem_cons h1',List.all_cons] at hA
  generalize c.langs[i]=x at*
  clear hE1 hE2 hE3 z1 z2 z3 q2 q3
  by_cases hx:x.length≤10
  ·rw [show decide (x.length≤10)=true by simpa using hx,Bool.true_and] at hA
   simp (maxSteps:=9^9) (disch:=omega) [-List.map_replicate,-List.map_set,-List.getD_eq_getElem?_getD,-getElem?_pos,-getElem?_neg,om,h1,hg,hL',hx,hzz]
   exact ⟨i+1,⟨hA,by omega⟩,by omega,by simp⟩
  ·rw [show decide (x.length≤10)=false by simpa using hx,Bool.false_and,Bool.false_and] at hA
   subst hA
   simp (maxSteps:=9^9) (disch:=omega) [-List.map_replicate,-List.map_set,-List.getD_eq_getElem?_getD,-getElem?_pos,-getElem?_neg,om,h1,hg,hL',hx,hzz]
 ·rw [List.drop_eq_nil_of_le (by omega),List.all_nil,Bool.true_and] at hA
  clear hE1 z1
  simp (maxSteps:=9^9) (disch:=omega) [-List.map_replicate,-List.map_set,-List.getD_eq_getElem?_getD,-getElem?_pos,-getElem?_neg,om,h1,hL']
  refine Wp.loopM (fun (i:Nat)=>nB-i) (fun i=> [none,some (.ptr 0 0),none,none,some (.int .i64 i),none,none,none,none,none,none,none,none,none,none,none,none,none]) (fun _=> [.var 26 [.lst c.ln c.lz L1,.lst c.bn c.bz L2,.lst c.sn c.sz L3]]) (fun i=>AA=((c.labs.drop i).all fewB&&c.shs.all fewS)∧i≤nB) ?_ 0 ⟨by rw [List.drop_zero];exact hA,by omega⟩ (by simp) rfl
  clear hA
  rintro i ⟨hA,hil⟩
  by_cases h1:i<nB
  ·have hg:=hE2 i (by omega)
   have h1':i<c.labs.length:=by omega
   obtain hzz:=z2 (ne_of_lt h1')
   rw [List.drop_eq_getElem_cons h1',List.all_cons] at hA
   generalize c.labs[i]=x at*
   unfold lbA at hg
   clear hE2 hE3 z2 z3 q2 q3
   by_cases hx:fewB x=true
   ·rw [hx,Bool.true_and] at hA
    unfold fewB at hx
    simp only [Bool.and_eq_true,decide_eq_true_eq] at hx
    obtain ⟨x1,x2⟩:=hx
    simp (maxSteps:=9^9) (disch:=omega) [-List.map_replicate,-List.map_set,-List.getD_eq_getElem?_getD,-getElem?_pos,-getElem?_neg,om,h1,hg,hB',x1,x2,hzz]
    exact ⟨i+1,⟨hA,by omega⟩,by omega,by simp⟩
   ·rw [Bool.eq_false_iff.2 hx,Bool.false_and,Bool.false_and] at hA
    subst hA
    unfold fewB at hx
    simp only [Bool.and_eq_true,decide_eq_true_eq] at hx
    simp (maxSteps:=9^9) (disch:=omega) [-List.map_replicate,-List.map_set,-List.getD_eq_getElem?_getD,-getElem?_pos,-getElem?_neg,om,h1,hg,hB',hzz]
    omega
  ·rw [List.drop_eq_nil_of_le (by omega),List.all_nil,Bool.true_and] at hA
   clear hE2 z2
   simp (maxSteps:=9^9) (disch:=omega) [-List.map_replicate,-List.map_set,-List.getD_eq_getElem?_getD,-getElem?_pos,-getElem?_neg,om,h1,hB']
   refine Wp.loopM (fun (i:Nat)=>nS-i) (fun i=> [none,some (.ptr 0 0),none,none,none,some (.int .i64 i),none,none,none,none,none,none,none,none,none,none,none,none]) (fun _=> [.var 26 [.lst c.ln c.lz L1,.lst c.bn c.bz L2,.lst c.sn c.sz L3]]) (fun i=>AA=((c.shs.drop i).all fewS)∧i≤nS) ?_ 0 ⟨by rw [List.drop_zero];exact hA,by omega⟩ (by simp) rfl
   clear hA
   rintro i ⟨hA,hil⟩
   by_cases h1:i<nS
   ·have hg:=hE3 i (by omega)
    have h1':i<c.shs.length:=by omega
    obtain hzz:=z3 (ne_of_lt h1')
    have hxi:=hi.sh _ (List.getElem_mem h1')
    rw [List.drop_eq_getElem_cons h1',List.all_cons] at hA
    generalize c.shs[i]=x at*
    unfold shA at hg
    clear hE3 z3 q2 q3
    have hfz:=hxi.fz
    have hfl:=hxi.fl
    unfold maxLen at hfl
    have hF:(x.facts.map fcA).length=x.facts.length:=by simp
    have hE4: ∀k (h:k<x.facts.length),(x.facts.map fcA)[k]?=some (.agg [.int .i64 x.facts[k].el,.str x.facts[k].lang,.str x.facts[k].text]):=fun k h=>get_map _ _ (by omega)
    generalize x.facts.map fcA=L4 at*
    by_cases hQ2:(decide (x.mark.length≤70)&&decide (x.title.length≤70)&&fewN 6 32 x.facts.length)=true
    case neg=>
     unfold fewS at hA
     rw [Bool.eq_false_iff.2 hQ2,Bool.false_and,Bool.false_and] at hA
     subst hA
     simp (maxSteps:=9^9) (disch:=omega) [-List.map_replicate,-List.map_set,-List.getD_eq_getElem?_getD,-getElem?_pos,-getElem?_neg,om,h1,hg,hS',hF,hzz,splice]
     unfold fewN at hQ2
     simp only [Bool.and_eq_true,decide_eq_true_eq] at hQ2
     intros
     exfalso
     omega
    unfold fewS at hA
    rw [hQ2,Bool.true_and] at hA
    unfold fewN at hQ2
    simp only [Bool.and_eq_true,decide_eq_true_eq] at hQ2
    obtain ⟨⟨y1,y2⟩,y3⟩:=hQ2
    simp (maxSteps:=9^9) (disch:=omega) [-List.map_replicate,-List.map_set,-List.getD_eq_getElem?_getD,-getElem?_pos,-getElem?_neg,om,h1,hg,hS',hF,hzz,splice]
    rw [if_neg (by omega)]
    refine Wp.loopM (fun (j:Nat)=>x.facts.length-j) (fun j=> [none,some (.ptr 0 0),none,none,none,some (.int .i64 i),some (.ptr 1 0),some (.int .i64 j),none,none,none,none,none,none,none,none,none,none]) (fun _=> [.var 26 [.lst c.ln c.lz L1,.lst c.bn c.bz L2,.lst c.sn c.sz L3],.var 73 [.int .i64 x.unit,.int .i64 x.par,.int .i64 x.level,.str x.mark,.str x.title,.lst x.fn x.fz L4]]) (fun j=>AA=((x.facts.drop j).all fewF&&(c.shs.drop (i+1)).all fewS)∧j≤x.facts.length) ?_ 0 ⟨by rw [List.drop_zero];exact hA,by omega⟩ (by simp) (by rw [hzz])
    clear hA
    rintro j ⟨hA,hjl⟩
    by_cases h2:j<x.facts.length
    ·have hg4:=hE4 j h2
     obtain hzz2:=hfz (ne_of_lt h2)
     rw [List.drop_eq_getElem_cons h2,List.all_cons] at hA
     generalize x.facts[j]=f at*
     clear hE4 hfz y3
     by_cases hx:fewF f=true
     ·rw [hx,Bool.true_and] at hA
      unfold fewF fewN at hx
      simp only [Bool.and_eq_true,decide_eq_true_eq] at hx
      simp (maxSteps:=9^9) (disch:=omega) [-List.map_replicate,-List.map_set,-List.getD_eq_getElem?_getD,-getElem?_pos,-getElem?_neg,om,h2,hg4,hF,hzz2]
      rw [if_neg (by omega)]
      exact ⟨j+1,⟨hA,by omega⟩,by omega,by simp⟩
     ·rw [Bool.eq_false_iff.2 hx,Bool.false_and,Bool.false_and] at hA
      subst hA
      unfold fewF fewN at hx
      simp only [Bool.and_eq_true,decide_eq_true_eq] at hx
      simp (maxSteps:=9^9) (disch:=omega) [-List.map_replicate,-List.map_set,-List.getD_eq_getElem?_getD,-getElem?_pos,-getElem?_neg,om,h2,hg4,hF,hzz2]
      omega
    ·rw [List.drop_eq_nil_of_le (by omega),List.all_nil,Bool.true_and] at hA
     simp (maxSteps:=9^9) (disch:=omega) [-List.map_replicate,-List.map_set,-List.getD_eq_getElem?_getD,-getElem?_pos,-getElem?_neg,om,h2,hF]
     exact ⟨i+1,⟨hA,by omega⟩,by omega,by simp⟩
   ·rw [List.drop_eq_nil_of_le (by omega),List.all_nil] at hA
    simp (maxSteps:=9^9) (disch:=omega) [-List.map_replicate,-List.map_set,-List.getD_eq_getElem?_getD,-getElem?_pos,-getElem?_neg,om,h1,hS',hA]
def cpS (s:Sh):Sh:=⟨s.unit,s.par,s.level,s.mark,s.title,s.facts,if s.facts= [] then some false else none,if s.facts= [] then 0 else 3⟩
def cpC (c:Ct):Ct:=⟨c.langs,c.labs,c.shs.map cpS,if c.langs= [] then some false else none,if c.langs= [] then 0 else 1,if c.labs= [] then some false else none,if c.labs= [] then 0 else 4,none,6⟩
theorem cpC_sim (c:Ct):(cpC c).sim c:=by
 unfold Ct.sim Ct.nrm cpC
 simp only [List.map_map]
 congr 1
theorem cpC_ok {c:Ct} (h:c.ok):(cpC c).ok:=by
 refine ⟨fun h=>by simp only [cpC] at h⊢;rw [if_neg h],fun h=>by simp only [cpC] at h⊢;rw [if_neg h],fun _=>rfl,h.ll,h.bl,by simp only [cpC,List.length_map];exact h.sl,fun s hs=> ?_⟩
 simp only [cpC,List.mem_map] at hs
 obtain ⟨t,ht,rfl⟩:=hs
 exact ⟨fun h=>by simp only [cpS] at h⊢;rw [if_neg h],(h.sh t ht).fl⟩
theorem ansCopyC (c:Ct) (hc:c.ok):ansF cfg 13 [ctA c] []=some (ctA (cpC c), []):=by
 refine ans_of_wp fn13 low13 ?_
 obtain ⟨langs,labs,shs,ln,lz,bn,bz,sn,sz⟩:=c
 have l1:=hc.ll
 have l2:=hc.bl
 have l3:=hc.sl
 have z1:=hc.lz
 have z2:=hc.bz
 have z3:=hc.sz
 have hsh:=hc.sh
 clear hc
 unfold ctA ctC cpC
 simp only at l1 l2 l3 z1 z2 z3 hsh⊢
 have p3:=plain_shA shs
 have e3:(shs.map shA).length=shs.length:=by simp
 have hE: ∀k (h:k<shs.length),(shs.map shA)[k]?=some (shA shs[k]):=fun k h=>get_map _ _ h
 generalize shs.map shA=L3 at*
 obtain ⟨OUT,hOUT⟩: ∃O,O=(shs.map cpS).map shA:=⟨_,rfl⟩
 rw [←hOUT]
 cases langs with
 | nil=>
  cases labs with
  | nil=>
   simp (maxSteps:=9^9) (disch:=omega) [-List.map_replicate,-List.map_set,-List.getD_eq_getElem?_getD,-getElem?_pos,-getElem?_neg,om,ir13,p3,e3,splice,strA,lbA]
   refine Wp.loopM (fun (i:Nat)=>shs.length-i) (fun i=> [none,some (.ptr 0 0),some (.ptr 1 0),some (.ptr 9 0),some (.int .i64 i),none,none,none,none,none,none,none,none,none,none,none,none,none]) (fun i=> [.var 26 [.lst ln lz [],.lst bn bz [],.lst sn sz L3],.var 26 [.osl 2 0,.osl 3 0,.osl 4 0],.sl ⟨false,some 9,none⟩ 1 [],.sl ⟨false,some 77,none⟩ 4 [],.sl ⟨false,some 73,none⟩ 6 [],.dead,.dead,.dead,.dead,.var 26 [.cap0 (some false),.cap0 (some false),.osl 10 i],.sl ⟨false,some 73,none⟩ 6 (((shs.take i).map cpS).map shA)]) (fun i=>i≤shs.length) ?_ 0 (by omega) (by simp) (by simp)
   rintro i hil
   have hcl:(((shs.take i).map cpS).map shA).length=i:=by simp;omega
   by_cases q1:i<shs.length
   ·have hg:=hE i q1
    obtain rfl:=z3 (ne_of_lt q1)
    have htk:((shs.take (i+1)).map cpS).map shA=((shs.take i).map cpS).map shA++ [shA (cpS shs[i])]:=by
     rw [List.take_succ_eq_append_getElem q1,List.map_append,List.map_append];rfl
    have hso:=hsh _ (List.getElem_mem q1)
    have hpl:=plain_shA ((shs.take i).map cpS)
    generalize shs[i]=w at*
    have hst:shA (cpS w)= .agg [.int .i64 w.unit,.int .i64 w.par,.int .i64 w.level,.str w.mark,.str w.title,.lst (if w.facts= [] then some false else none) (if w.facts= [] then 0 else 3) (w.facts.map fcA)]:=rfl
    rw [hst] at htk
    unfold shA at hg
    clear hst
    have hfz:=hso.fz
    have hfl:=hso.fl
    generalize ((shs.take i).map cpS).map shA=DONE at*
    cases hw:w.facts with
    | nil=>
     rw [hw] at hg htk
     simp only [List.map_nil,if_true] at hg htk
     simp (maxSteps:=9^9) (disch:=omega) [-List.map_replicate,-List.map_set,-List.getD_eq_getElem?_getD,-getElem?_pos,-getElem?_neg,om,q1,hg,e3,hcl,splice,hpl]
     exact ⟨i+1,by omega,by omega,by simp,by simp only [List.map_map,List.map_take] at htk;exact ⟨rfl,htk.symm⟩⟩
    | cons f fs=>
     have hfz3:=hfz (by rw [hw];simp)
     rw [hw] at hg htk hfl
     rw [hfz3] at hg
     rw [if_neg (by simp)] at htk
     simp only [List.map_cons,List.length_cons] at hg htk hfl
     have hfp:=plain_fcA fs
     have hfn:(fs.map fcA).length=fs.length:=by simp
     unfold fcA at hg htk hfp hfn
     generalize fs.map _=FS at*
     simp (maxSteps:=9^9) (disch:=omega) [-List.map_replicate,-List.map_set,-List.getD_eq_getElem?_getD,-getElem?_pos,-getElem?_neg,om,q1,hg,e3,hcl,splice,hpl,hfp,hfn]
     exact ⟨i+1,by omega,by omega,by simp,by simp only [List.map_map,List.map_take] at htk;exact ⟨rfl,htk.symm⟩⟩
   ·obtain rfl:i=shs.length:=by omega
    have hpl:=plain_shA ((shs.take shs.length).map cpS)
    rw [List.take_length] at hcl hpl⊢
    rw [←hOUT] at hcl hpl⊢
    simp (maxSteps:=9^9) (disch:=omega) [-List.map_replicate,-List.map_set,-List.getD_eq_getElem?_getD,-getElem?_pos,-getElem?_neg,om,q1,e3,hcl,splice,hpl]
  | cons y s=>
   have z2:=z2 (by simp)
   have p2:=plain_lbA s
   have e2:(s.map lbA).length=s.length:=by simp
   simp only [List.length_cons] at l2
   rw [z2,List.map_cons]
   unfold lbA at*
   generalize s.map _=L2 at*
   simp (maxSteps:=9^9) (disch:=omega) [-List.map_replicate,-List.map_set,-List.getD_eq_getElem?_getD,-getElem?_pos,-getElem?_neg,om,ir13,p3,e3,splice,strA,lbA,p2,e2]
   refine Wp.loopM (fun (i:Nat)=>shs.length-i) (fun i=> [none,some (.ptr 0 0),some (.ptr 1 0),some (.ptr 9 0),some (.int .i64 i),none,none,none,none,none,none,none,none,none,none,none,none,none]) (fun i=> [.var 26 [.lst ln lz [],.lst bn 4 (.agg [.int .i64 y.el,.str y.lang,.str y.text,.int .i64 y.ix]::L2),.lst sn sz L3],.var 26 [.osl 2 0,.osl 3 0,.osl 4 0],.sl ⟨false,some 9,none⟩ 1 [],.sl ⟨false,some 77,none⟩ 4 [],.sl ⟨false,some 73,none⟩ 6 [],.dead,.dead,.dead,.sl ⟨false,some 77,none⟩ 4 (.agg [.int .i64 y.el,.str y.lang,.str y.text,.int .i64 y.ix]::L2),.var 26 [.cap0 (some false),.osl 8 (s.length+1),.osl 10 i],.sl ⟨false,some 73,none⟩ 6 (((shs.take i).map cpS).map shA)]) (fun i=>i≤shs.length) ?_ 0 (by omega) (by simp) (by simp)
   rintro i hil
   have hcl:(((shs.take i).map cpS).map shA).length=i:=by simp;omega
   by_cases q1:i<shs.length
   ·have hg:=hE i q1
    obtain rfl:=z3 (ne_of_lt q1)
    have htk:((shs.take (i+1)).map cpS).map shA=((shs.take i).map cpS).map shA++ [shA (cpS shs[i])]:=by
     rw [List.take_succ_eq_append_getElem q1,List.map_append,List.map_append];rfl
    have hso:=hsh _ (List.getElem_mem q1)
    have hpl:=plain_shA ((shs.take i).map cpS)
    generalize shs[i]=w at*
    have hst:shA (cpS w)= .agg [.int .i64 w.unit,.int .i64 w.par,.int .i64 w.level,.str w.mark,.str w.title,.lst (if w.facts= [] then some false else none) (if w.facts= [] then 0 else 3) (w.facts.map fcA)]:=rfl
    rw [hst] at htk
    unfold shA at hg
    clear hst
    have hfz:=hso.fz
    have hfl:=hso.fl
    generalize ((shs.take i).map cpS).map shA=DONE at*
    cases hw:w.facts with
    | nil=>
     rw [hw] at hg htk
     simp only [List.map_nil,if_true] at hg htk
     simp (maxSteps:=9^9) (disch:=omega) [-List.map_replicate,-List.map_set,-List.getD_eq_getElem?_getD,-getElem?_pos,-getElem?_neg,om,q1,hg,e3,hcl,splice,hpl]
     exact ⟨i+1,by omega,by omega,by simp,by simp only [List.map_map,List.map_take] at htk;exact ⟨rfl,htk.symm⟩⟩
    | cons f fs=>
     have hfz3:=hfz (by rw [hw];simp)
     rw [hw] at hg htk hfl
     rw [hfz3] at hg
     rw [if_neg (by simp)] at htk
     simp only [List.map_cons,List.length_cons] at hg htk hfl
     have hfp:=plain_fcA fs
     have hfn:(fs.map fcA).length=fs.length:=by simp
     unfold fcA at hg htk hfp hfn
     generalize fs.map _=FS at*
     simp (maxSteps:=9^9) (disch:=omega) [-List.map_replicate,-List.map_set,-List.getD_eq_getElem?_getD,-getElem?_pos,-getElem?_neg,om,q1,hg,e3,hcl,splice,hpl,hfp,hfn]
     exact ⟨i+1,by omega,by omega,by simp,by simp only [List.map_map,List.map_take] at htk;exact ⟨rfl,htk.symm⟩⟩
   ·obtain rfl:i=shs.length:=by omega
    have hpl:=plain_shA ((shs.take shs.length).map cpS)
    rw [List.take_length] at hcl hpl⊢
    rw [←hOUT] at hcl hpl⊢
    simp (maxSteps:=9^9) (disch:=omega) [-List.map_replicate,-List.map_set,-List.getD_eq_getElem?_getD,-getElem?_pos,-getElem?_neg,om,q1,e3,hcl,splice,hpl,p2,e2]
 | cons x r=>
  have z1:=z1 (by simp)
  have p1:=plain_strA r
  have e1:(strA r).length=r.length:=by simp
  have hx:strA (x::r)= .str x::strA r:=rfl
  simp only [List.length_cons] at l1
  rw [z1,hx]
  generalize strA r=L1 at*
  cases labs with
  | nil=>
   simp (maxSteps:=9^9) (disch:=omega) [-List.map_replicate,-List.map_set,-List.getD_eq_getElem?_getD,-getElem?_pos,-getElem?_neg,om,ir13,p3,e3,splice,strA,lbA,p1,e1]
   refine Wp.loopM (fun (i:Nat)=>shs.length-i) (fun i=> [none,some (.ptr 0 0),some (.ptr 1 0),some (.ptr 9 0),some (.int .i64 i),none,none,none,none,none,none,none,none,none,none,none,none,none]) (fun i=> [.var 26 [.lst ln 1 (.str x::L1),.lst bn bz [],.lst sn sz L3],.var 26 [.osl 2 0,.osl 3 0,.osl 4 0],.sl ⟨false,some 9,none⟩ 1 [],.sl ⟨false,some 77,none⟩ 4 [],.sl ⟨false,some 73,none⟩ 6 [],.dead,.sl ⟨false,some 9,none⟩ 1 (.str x::L1),.dead,.dead,.var 26 [.osl 6 (r.length+1),.cap0 (some false),.osl 10 i],.sl ⟨false,some 73,none⟩ 6 (((shs.take i).map cpS).map shA)]) (fun i=>i≤shs.length) ?_ 0 (by omega) (by simp) (by simp)
   rintro i hil
   have hcl:(((shs.take i).map cpS).map shA).length=i:=by simp;omega
   by_cases q1:i<shs.length
   ·have hg:=hE i q1
    obtain rfl:=z3 (ne_of_lt q1)
    have htk:((shs.take (i+1)).map cpS).map shA=((shs.take i).map cpS).map shA++ [shA (cpS shs[i])]:=by
     rw [List.take_succ_eq_append_getElem q1,List.map_append,List.map_append];rfl
    have hso:=hsh _ (List.getElem_mem q1)
    have hpl:=plain_shA ((shs.take i).map cpS)
    generalize shs[i]=w at*
    have hst:shA (cpS w)= .agg [.int .i64 w.unit,.int .i64 w.par,.int .i64 w.level,.str w.mark,.str w.title,.lst (if w.facts= [] then some false else none) (if w.facts= [] then 0 else 3) (w.facts.map fcA)]:=rfl
    rw [hst] at htk
    unfold shA at hg
    clear hst
    have hfz:=hso.fz
    have hfl:=hso.fl
    generalize ((shs.take i).map cpS).map shA=DONE at*
    cases hw:w.facts with
    | nil=>
     rw [hw] at hg htk
     simp only [List.map_nil,if_true] at hg htk
     simp (maxSteps:=9^9) (disch:=omega) [-List.map_replicate,-List.map_set,-List.getD_eq_getElem?_getD,-getElem?_pos,-getElem?_neg,om,q1,hg,e3,hcl,splice,hpl]
     exact ⟨i+1,by omega,by omega,by simp,by simp only [List.map_map,List.map_take] at htk;exact ⟨rfl,htk.symm⟩⟩
    | cons f fs=>
     have hfz3:=hfz (by rw [hw];simp)
     rw [hw] at hg htk hfl
     rw [hfz3] at hg
     rw [if_neg (by simp)] at htk
     simp only [List.map_cons,List.length_cons] at hg htk hfl
     have hfp:=plain_fcA fs
     have hfn:(fs.map fcA).length=fs.length:=by simp
     unfold fcA at hg htk hfp hfn
     generalize fs.map _=FS at*
     simp (maxSteps:=9^9) (disch:=omega) [-List.map_replicate,-List.map_set,-List.getD_eq_getElem?_getD,-getElem?_pos,-getElem?_neg,om,q1,hg,e3,hcl,splice,hpl,hfp,hfn]
     exact ⟨i+1,by omega,by omega,by simp,by simp only [List.map_map,List.map_take] at htk;exact ⟨rfl,htk.symm⟩⟩
   ·obtain rfl:i=shs.length:=by omega
    have hpl:=plain_shA ((shs.take shs.length).map cpS)
    rw [List.take_length] at hcl hpl⊢
    rw [←hOUT] at hcl hpl⊢
    simp (maxSteps:=9^9) (disch:=omega) [-List.map_replicate,-List.map_set,-List.getD_eq_getElem?_getD,-getElem?_pos,-getElem?_neg,om,q1,e3,hcl,splice,hpl,p1,e1]
  | cons y s=>
   have z2:=z2 (by simp)
   have p2:=plain_lbA s
   have e2:(s.map lbA).length=s.length:=by simp
   simp only [List.length_cons] at l2
   rw [z2,List.map_cons]
   unfold lbA at*
   generalize s.map _=L2 at*
   simp (maxSteps:=9^9) (disch:=omega) [-List.map_replicate,-List.map_set,-List.getD_eq_getElem?_getD,-getElem?_pos,-getElem?_neg,om,ir13,p3,e3,splice,strA,lbA,p1,e1,p2,e2]
   refine Wp.loopM (fun (i:Nat)=>shs.length-i) (fun i=> [none,some (.ptr 0 0),some (.ptr 1 0),some (.ptr 9 0),some (.int .i64 i),none,none,none,none,none,none,none,none,none,none,none,none,none]) (fun i=> [.var 26 [.lst ln 1 (.str x::L1),.lst bn 4 (.agg [.int .i64 y.el,.str y.lang,.str y.text,.int .i64 y.ix]::L2),.lst sn sz L3],.var 26 [.osl 2 0,.osl 3 0,.osl 4 0],.sl ⟨false,some 9,none⟩ 1 [],.sl ⟨false,some 77,none⟩ 4 [],.sl ⟨false,some 73,none⟩ 6 [],.dead,.sl ⟨false,some 9,none⟩ 1 (.str x::L1),.dead,.sl ⟨false,some 77,none⟩ 4 (.agg [.int .i64 y.el,.str y.lang,.str y.text,.int .i64 y.ix]::L2),.var 26 [.osl 6 (r.length+1),.osl 8 (s.length+1),.osl 10 i],.sl ⟨false,some 73,none⟩ 6 (((shs.take i).map cpS).map shA)]) (fun i=>i≤shs.length) ?_ 0 (by omega) (by simp) (by simp)
   rintro i hil
   have hcl:(((shs.take i).map cpS).map shA).length=i:=by simp;omega
   by_cases q1:i<shs.length
   ·have hg:=hE i q1
    obtain rfl:=z3 (ne_of_lt q1)
    have htk:((shs.take (i+1)).map cpS).map shA=((shs.take i).map cpS).map shA++ [shA (cpS shs[i])]:=by
     rw [List.take_succ_eq_append_getElem q1,List.map_append,List.map_append];rfl
    have hso:=hsh _ (List.getElem_mem q1)
    have hpl:=plain_shA ((shs.take i).map cpS)
    generalize shs[i]=w at*
    have hst:shA (cpS w)= .agg [.int .i64 w.unit,.int .i64 w.par,.int .i64 w.level,.str w.mark,.str w.title,.lst (if w.facts= [] then some false else none) (if w.facts= [] then 0 else 3) (w.facts.map fcA)]:=rfl
    rw [hst] at htk
    unfold shA at hg
    clear hst
    have hfz:=hso.fz
    have hfl:=hso.fl
    generalize ((shs.take i).map cpS).map shA=DONE at*
    cases hw:w.facts with
    | nil=>
     rw [hw] at hg htk
     simp only [List.map_nil,if_true] at hg htk
     simp (maxSteps:=9^9) (disch:=omega) [-List.map_replicate,-List.map_set,-List.getD_eq_getElem?_getD,-getElem?_pos,-getElem?_neg,om,q1,hg,e3,hcl,splice,hpl]
     exact ⟨i+1,by omega,by omega,by simp,by simp only [List.map_map,List.map_take] at htk;exact ⟨rfl,htk.symm⟩⟩
    | cons f fs=>
     have hfz3:=hfz (by rw [hw];simp)
     rw [hw] at hg htk hfl
     rw [hfz3] at hg
     rw [if_neg (by simp)] at htk
     simp only [List.map_cons,List.length_cons] at hg htk hfl
     have hfp:=plain_fcA fs
     have hfn:(fs.map fcA).length=fs.length:=by simp
     unfold fcA at hg htk hfp hfn
     generalize fs.map _=FS at*
     simp (maxSteps:=9^9) (disch:=omega) [-List.map_replicate,-List.map_set,-List.getD_eq_getElem?_getD,-getElem?_pos,-getElem?_neg,om,q1,hg,e3,hcl,splice,hpl,hfp,hfn]
     exact ⟨i+1,by omega,by omega,by simp,by simp only [List.map_map,List.map_take] at htk;exact ⟨rfl,htk.symm⟩⟩
   ·obtain rfl:i=shs.length:=by omega
    have hpl:=plain_shA ((shs.take shs.length).map cpS)
    rw [List.take_length] at hcl hpl⊢
    rw [←hOUT] at hcl hpl⊢
    simp (maxSteps:=9^9) (disch:=omega) [-List.map_replicate,-List.map_set,-List.getD_eq_getElem?_getD,-getElem?_pos,-getElem?_neg,om,q1,e3,hcl,splice,hpl,p1,e1,p2,e2]
theorem ansReadsN (c:Ct) (hc:c.ok) (root u:Int) (lang:Str) (h:(readsQ Lib.itoa esc c root lang u).2=0):ansF cfg 12 [ctA c,.int .i64 root,.str lang,.int .i64 u] []=some (.tup [.lst none 3 (rdsA (readsQ Lib.itoa esc c root lang u).1),.int .i64 0], []):=by
 unfold readsQ at h⊢
 by_cases h0:compE c root lang=0
 ·rw [if_neg (by simpa using h0)] at h⊢
  by_cases h1:numberP Lib.itoa c root u= []
  ·rw [if_pos h1] at h;cases h
  ·rw [if_neg h1]
   have e:((cellsOf u (chosenP c u lang)).map fun z=>(z,valQ Lib.itoa esc c lang root z))=((cellsOf u (chosenP c u lang)).map fun z=>(z,valI Lib.itoa esc c lang root z)):=by
    have hr:=comp_right h0
    congr 1
    funext z
    rw [valQ_I,if_pos hr]
   rw [e]
   exact ansReads0 c hc root u lang h0 h1
 ·rw [if_pos h0] at h
  exact absurd h h0
theorem ansReadsE (c:Ct) (hc:c.ok) (root u:Int) (lang:Str) (h:(readsQ Lib.itoa esc c root lang u).2≠0): ∃nl z,ansF cfg 12 [ctA c,.int .i64 root,.str lang,.int .i64 u] []=some (.tup [.lst nl z [],.int .i64 (readsQ Lib.itoa esc c root lang u).2], []):=by
 obtain ⟨nl,z,h1,_⟩:=ansReads c hc root u lang
 rw [readsQ_err h] at h1
 exact ⟨nl,z,h1⟩
set_option maxRecDepth 100000
def townT (t:Str):Ct:=⟨[[101,110], [100,101]], [⟨1, [100,101], [73,110,104,97,108,116],0⟩,⟨1, [101,110], [67,111,110,116,101,110,116,115],0⟩],
 [⟨7,0,1, [65], [84,111,119,110], [⟨1, [100,101], [65,108,108,101,115]⟩,⟨1, [101,110], [83,101,101,32,91,57,93]⟩],none,3⟩,⟨9,7,3, [],t, [],some true,0⟩],none,1,none,4,none,6⟩
def townC:Ct:=townT [87,97,108,108,115]
def townG:Ct:=townT [71,97,116,101]
def townR:List (Cell×Str):= [((1,7), [49]),((2,7), [102,111,110,100,115,32,84,111,119,110,10,109,97,114,107,32,65,10,49,32,83,101,101,32,91,57,93,10]),((3,1), [67,111,110,116,101,110,116,115]),((4,9), [87,97,108,108,115])]
theorem town_ok (t:Str):(townT t).ok:=⟨by simp [townT],by simp [townT],by simp [townT],by simp [townT],by simp [townT],by simp [townT],fun s hs=>by
 simp only [townT,List.mem_cons,List.not_mem_nil,or_false] at hs
 rcases hs with rfl | rfl <;> exact ⟨by simp,by simp⟩⟩
theorem town_reads:readsQ Lib.itoa esc townC 7 [101,110] 7=(townR,0):=by decide+kernel
def townS:Sec:=⟨7, [49], [⟨0, [102,111,110,100,115], [49,32,84,111,119,110]⟩,⟨1, [109,97,114,107], [65]⟩,⟨1, [112], [67,111,110,116,101,110,116,115,58,32,83,101,101,32,87,97,108,108,115]⟩]⟩
theorem town_sect:sectQ unesc 7 townR=(0,some townS):=by decide+kernel
theorem town_stale:staleB (valQ Lib.itoa esc townG [101,110] 7) townR=true:=by decide+kernel
theorem town_fresh:staleB (valQ Lib.itoa esc townC [101,110] 7) townR=false:=by decide+kernel
theorem town_differ:differL (valQ Lib.itoa esc townC [101,110] 7) (valQ Lib.itoa esc townG [101,110] 7) [(4,9)]= [(4,9)]:=by decide+kernel
def twL:List AV:= [.agg [.int .i64 1,.str [100,101],.str [73,110,104,97,108,116],.int .i64 0],.agg [.int .i64 1,.str [101,110],.str [67,111,110,116,101,110,116,115],.int .i64 0]]
def twF:List AV:= [.agg [.int .i64 1,.str [100,101],.str [65,108,108,101,115]],.agg [.int .i64 1,.str [101,110],.str [83,101,101,32,91,57,93]]]
def twS:List AV:= [.agg [.int .i64 7,.int .i64 0,.int .i64 1,.str [65],.str [84,111,119,110],.lst none 3 twF],.agg [.int .i64 9,.int .i64 7,.int .i64 3,.str [],.str [87,97,108,108,115],.lst (some true) 0 []]]
theorem ansTown0 : ansF cfg 36 [] [] = some (.agg [.osl 4 2, .osl 5 2, .osl 7 2], [.var 26 [.osl 4 2, .osl 5 2, .osl 7 2], .sl ⟨false, some 9, none⟩ 1 [], .sl ⟨false, some 77, none⟩ 4 [], .sl ⟨false, some 73, none⟩ 6 [],
     .sl ⟨false, some 9, none⟩ 1 [.str [101, 110], .str [100, 101]],
     .sl ⟨false, some 77, none⟩ 4 twL,
     .sl ⟨true, some 79, none⟩ 3 twF,
     .sl ⟨false, some 73, none⟩ 6 twS]) := by
 refine ans_of_wp fn36 low36 ?_
 simp (maxSteps:=9^9) (disch:=omega) [-List.map_replicate,-List.map_set,-List.getD_eq_getElem?_getD,-getElem?_pos,-getElem?_neg,om,ir36,splice,twL,twF,twS]
theorem ansTown1 : ansF cfg 36 [] [.dead] = some (.agg [.osl 5 2, .osl 6 2, .osl 8 2], [.dead, .var 26 [.osl 5 2, .osl 6 2, .osl 8 2], .sl ⟨false, some 9, none⟩ 1 [], .sl ⟨false, some 77, none⟩ 4 [], .sl ⟨false, some 73, none⟩ 6 [],
     .sl ⟨false, some 9, none⟩ 1 [.str [101, 110], .str [100, 101]],
     .sl ⟨false, some 77, none⟩ 4 twL,
     .sl ⟨true, some 79, none⟩ 3 twF,
     .sl ⟨false, some 73, none⟩ 6 twS]) := by
 refine ans_of_wp fn36 low36 ?_
 simp (maxSteps:=9^9) (disch:=omega) [-List.map_replicate,-List.map_set,-List.getD_eq_getElem?_getD,-getElem?_pos,-getElem?_neg,om,ir36,splice,twL,twF,twS]
theorem ansTown2 : ansF cfg 36 [] [.var 26 [.osl 5 2, .osl 6 2, .osl 8 2], .var 26 [.osl 5 2, .osl 6 2, .osl 8 2], .sl ⟨false, some 9, none⟩ 1 [], .sl ⟨false, some 77, none⟩ 4 [], .sl ⟨false, some 73, none⟩ 6 [], .sl ⟨true, some 9, none⟩ 1 [.str [101, 110], .str [100, 101]], .sl ⟨true, some 77, none⟩ 4 twL, .sl ⟨true, some 79, none⟩ 3 twF, .sl ⟨true, some 73, none⟩ 6 twS, .var 46 [.int .i64 7, .str [49], .lst none 3 [.agg [.int .i64 0, .str [102, 111, 110, 100, 115], .str [49, 32, 84, 111, 119, 110]], .agg [.int .i64 1, .str [109, 97, 114, 107], .str [65]], .agg [.int .i64 1, .str [112], .str [67, 111, 110, 116, 101, 110, 116, 115, 58, 32, 83, 101, 101, 32, 87, 97, 108, 108, 115]]]], .dead] = some (.agg [.osl 15 2, .osl 16 2, .osl 18 2], [.var 26 [.osl 5 2, .osl 6 2, .osl 8 2], .var 26 [.osl 5 2, .osl 6 2, .osl 8 2], .sl ⟨false, some 9, none⟩ 1 [], .sl ⟨false, some 77, none⟩ 4 [], .sl ⟨false, some 73, none⟩ 6 [], .sl ⟨true, some 9, none⟩ 1 [.str [101, 110], .str [100, 101]], .sl ⟨true, some 77, none⟩ 4 twL, .sl ⟨true, some 79, none⟩ 3 twF, .sl ⟨true, some 73, none⟩ 6 twS, .var 46 [.int .i64 7, .str [49], .lst none 3 [.agg [.int .i64 0, .str [102, 111, 110, 100, 115], .str [49, 32, 84, 111, 119, 110]], .agg [.int .i64 1, .str [109, 97, 114, 107], .str [65]], .agg [.int .i64 1, .str [112], .str [67, 111, 110, 116, 101, 110, 116, 115, 58, 32, 83, 101, 101, 32, 87, 97, 108, 108, 115]]]], .dead, .var 26 [.osl 15 2, .osl 16 2, .osl 18 2], .sl ⟨false, some 9, none⟩ 1 [], .sl ⟨false, some 77, none⟩ 4 [], .sl ⟨false, some 73, none⟩ 6 [],
     .sl ⟨false, some 9, none⟩ 1 [.str [101, 110], .str [100, 101]],
     .sl ⟨false, some 77, none⟩ 4 twL,
     .sl ⟨true, some 79, none⟩ 3 twF,
     .sl ⟨false, some 73, none⟩ 6 twS]) := by
 refine ans_of_wp fn36 low36 ?_
 simp (maxSteps:=9^9) (disch:=omega) [-List.map_replicate,-List.map_set,-List.getD_eq_getElem?_getD,-getElem?_pos,-getElem?_neg,om,ir36,splice,twL,twF,twS]
theorem awake:ansF cfg 10 [] []=some (.bool true, []):=by
 refine ans_of_wp fn10 low10 ?_
 have hT0:=ansTown0
 have hT1:=ansTown1
 have hT2:=ansTown2
 have h1:=ansReadsN townC (town_ok _) 7 7 [101,110] (by rw [town_reads])
 rw [town_reads] at h1
 have hb: ∀k u,((lookC townR (k,u)).getD []).length≤30:=fun k u=>by
  unfold lookC
  cases hf:townR.find? (fun x=>decide (x.1=(k,u))) with
  | none=>simp
  | some x=>
   have hm:=List.mem_of_find?_eq_some hf
   have: ∀x∈townR,x.2.length≤30:=by decide
   exact this x hm
 have h2:=ansSectD 7 townR (by simp [townR]) (by simp [townR]) (by have:=hb 1 7;omega) (by have:=hb 2 7;omega) (by decide+kernel) (fun k u _=>by have:=hb k u;omega)
 rw [town_sect] at h2
 have h3:=ansEqR none none 3 3 townR townR (fun _=>rfl) (fun _=>rfl) (by simp [townR]) (by simp [townR])
 have h4:=ansStaleD townG (town_ok _) 7 [101,110] none 3 townR (fun _=>rfl) (by simp [townR])
 rw [town_stale] at h4
 have h5:=ansStaleD townC (town_ok _) 7 [101,110] none 3 townR (fun _=>rfl) (by simp [townR])
 rw [town_fresh] at h5
 have h6:=ansDiffer townC townG (town_ok _) (town_ok _) 7 [101,110] none 2 [(4,9)] (fun _=>rfl) (by simp)
 rw [town_differ] at h6
 simp only [ctA,ctC,townC,townG,townT,townR,townS,rdsA,rdA,clsA,clA,sectA,secA,ndA,strA,lbA,shA,fcA,List.map_cons,List.map_nil,decide_true] at h1 h2 h3 h4 h5 h6
 simp only [twL,twF,twS] at hT0 hT1 hT2
 simp (maxSteps:=9^9) (disch:=omega) [-List.map_replicate,-List.map_set,-List.getD_eq_getElem?_getD,-getElem?_pos,-getElem?_neg,om,ir10,splice,hT0,hT1,hT2,h1,h2,h3,h4,h5,h6]
set_option maxRecDepth 10000
set_option maxHeartbeats 4000000
theorem foldA_len: ∀(l K:List Cell),(l.foldl addC K).length≤K.length+l.length
 | [],K=>by simp
 | x::r,K=>by
  have h1:=foldA_len r (addC K x)
  have h2:=addC_len K x
  simp only [List.foldl_cons,List.length_cons]
  omega
theorem citeCells_len (t:Str):(citeCells t).length≤t.length:=by
 unfold citeCells
 refine Nat.le_trans (List.length_filterMap_le _ _) (by simp)
theorem flat_len {N:Nat}: ∀(l:List Fc),(∀f∈l,f.text.length≤N)→(l.flatMap factCells).length≤l.length*(N+1)
 | [],_=>by simp
 | f::r,h=>by
  have h1:=flat_len r (fun g hg=>h g (by simp [hg]))
  have h2:=citeCells_len f.text
  have h3:=h f (by simp)
  rw [List.flatMap_cons,List.length_append,List.length_cons,Nat.succ_mul]
  have:(factCells f).length=(citeCells f.text).length+1:=rfl
  omega
theorem chosen_mem {c:Ct} (hc:CtOk c) {u:Int} {lang:Str}:(chosenP c u lang).length≤32∧ ∀f∈chosenP c u lang,FcOk c.langs f:=by
 unfold chosenP
 split
 ·unfold factsU
  cases hs:sheetU c u with
  | none=>simp [chooseP]
  | some s=>
   obtain ⟨_,_,_,_,hm⟩:=sheetU_some hs
   have ho:=hc.shs s hm
   exact ⟨Nat.le_trans (chooseP_len _ _) ho.flen,fun f hf=>ho.facts f (chooseP_mem hf)⟩
 ·simp
theorem reads_len (c:Ct) (root u:Int) (lang:Str):(readsQ Lib.itoa esc c root lang u).1.length<1000000:=by
 unfold readsQ
 split
 ·simp
 ·rename_i h0
  have h0:compE c root lang=0:=by simpa using h0
  split
  ·simp
  ·have hc:=chkC_ok (right_ok (comp_right h0)).1
   obtain ⟨h1,h2⟩:=chosen_mem hc (u:=u) (lang:=lang)
   have h3:=flat_len (N:=4096) _ (fun f hf=>(h2 f hf).len)
   have h4:=foldA_len ((chosenP c u lang).flatMap factCells) [(1,u),(2,u)]
   have h5:(chosenP c u lang).length*(4096+1)≤32*(4096+1):=Nat.mul_le_mul_right _ h1
   simp only [List.length_map,cellsOf]
   simp only [List.length_cons,List.length_nil] at h4
   omega
theorem numR_len (l:List Sh) (root:Int): ∀(i:Nat),i<l.length→l.length≤400→(numR Lib.itoa l root i).length≤30*(i+1):=by
 intro i
 induction i using Nat.strongRecOn with
 | _ i ih=>
 intro hil hl
 rw [numR_some Lib.itoa (List.getElem?_eq_getElem hil)]
 split
 ·simp only [List.length_cons,List.length_nil];omega
 ·have hcnt:=cnt_le (parB l l[i].par) (i+1)
  have hi:=Lib.itoa_length_le ((cnt (parB l l[i].par) (i+1):Nat):Int) (by omega) (by omega)
  split
  ·rename_i j hj
   have hjl:=idxU_lt hj
   simp only [List.length_take] at hjl
   have:=ih j (by omega) (by omega) hl
   simp only [List.length_append,List.length_cons,List.length_nil]
   omega
  ·simp only [List.length_append,List.length_cons,List.length_nil]
   omega
theorem numberP_len {c:Ct} (hc:CtOk c) (root u:Int):(numberP Lib.itoa c root u).length≤10000:=by
 rw [number_same hc]
 unfold numberR
 split
 ·rename_i i hi
  split
  ·have hil:=idxU_lt hi
   have:=numR_len c.shs root i hil (by have:=hc.slen;omega)
   have:=hc.slen
   omega
  ·simp
 ·simp
theorem few_fact {c:Ct} (hf:fewC c=true) (hc:CtOk c) {s:Sh} (hs:s∈c.shs) {f:Fc} (h:f∈s.facts):f.text.length≤60:=by
 unfold fewC at hf
 simp only [Bool.and_eq_true,List.all_eq_true] at hf
 have h1:=hf.2.2.2 s hs
 unfold fewS at h1
 simp only [Bool.and_eq_true,List.all_eq_true] at h1
 have h2:=h1.2 f h
 unfold fewF fewN at h2
 simp only [Bool.and_eq_true,decide_eq_true_eq] at h2
 have:=((hc.shs s hs).facts f h).len
 omega
theorem tagN_len (n:Nat):(tagN n).length≤6:=by
 unfold tagN
 repeat' split
 all_goals decide
theorem dec2_len (n:Nat):(dec2 n).length≤2:=by unfold dec2;split <;> simp
theorem lines_len {lev:Nat} {title mark:Str} {facts:List (Nat×Str)} (h1:title.length≤64) (h2:mark.length≤64) (h3: ∀f∈facts,f.2.length≤60): ∀p∈linesT esc lev title mark facts,p.length≤300:=by
 intro p hp
 unfold linesT at hp
 simp only [List.mem_cons,List.mem_map] at hp
 have e:=esc_length
 rcases hp with rfl | rfl | ⟨f,hf,rfl⟩
 ·have:=tagN_len lev;have:=e title;simp only [List.length_append,List.length_cons];omega
 ·have:=e mark;simp only [List.length_append,List.length_cons,markS,List.length_nil];omega
 ·have:=h3 f hf;have:=e f.2;have:=dec2_len f.1
  unfold lineF
  simp only [List.length_append,List.length_cons];omega
theorem flatL_len {N:Nat}: ∀(l:List Str),(∀p∈l,p.length≤N)→(l.flatMap fun p=>p++ [(10:UInt8)]).length≤l.length*(N+1)
 | [],_=>by simp
 | f::r,h=>by
  have h1:=flatL_len r (fun g hg=>h g (by simp [hg]))
  have h3:=h f (by simp)
  rw [List.flatMap_cons,List.length_append,List.length_cons,Nat.succ_mul,List.length_append]
  simp only [List.length_cons,List.length_nil]
  omega
theorem flatL_pieces {l:List Str} (hl:l≠ []) (h: ∀p∈l,(10:UInt8)∉p):splitB 10 (l.flatMap fun p=>p++ [(10:UInt8)]).dropLast=l:=by
 have:=linesP_flat hl h
 unfold linesP at this
 split at this
 ·exact Option.some.inj this
 ·cases this
theorem chooseP_pairs {c:Ct} (hf:fewC c=true) (hc:CtOk c) {s:Sh} (hs:s∈c.shs) (order:List Str):(((chooseP order s.facts).map pairF).length≤32)∧(∀f∈(chooseP order s.facts).map pairF,f.2.length≤60∧1≤f.1∧f.1≤64):=by
 refine ⟨by rw [List.length_map];exact Nat.le_trans (chooseP_len _ _) (hc.shs s hs).flen,fun f h=> ?_⟩
 obtain ⟨g,hg,rfl⟩:=List.mem_map.1 h
 have hm:=chooseP_mem hg
 have h1:=few_fact hf hc hs hm
 have h2:=((hc.shs s hs).facts g hm).el1
 have h3:=((hc.shs s hs).facts g hm).el2
 unfold pairF
 simp only
 omega
theorem shText_len {c:Ct} (hf:fewC c=true) (hc:CtOk c) {s:Sh} (hs:s∈c.shs) (order:List Str):(shText esc order s).length<900000∧ ∀p∈splitB 10 (shText esc order s).dropLast,p.length≤300:=by
 obtain ⟨h1,h2⟩:=chooseP_pairs hf hc hs order
 have ho:=hc.shs s hs
 have h3:=lines_len (lev:=s.level.toNat) ho.tlen ho.mark (fun f h=>(h2 f h).1)
 have h4:=lines_no unesc_of_esc (fun s=>esc_no (by decide)) s.level.toNat s.title s.mark _ (fun f h=>(h2 f h).2)
 unfold shText textT
 rw [flatL_pieces (by simp [linesT]) h4]
 have h5:=flatL_len _ h3
 have h6:(linesT esc s.level.toNat s.title s.mark ((chooseP order s.facts).map pairF)).length≤34:=by unfold linesT;simp only [List.length_cons,List.length_map] at h1⊢;omega
 have h7:(linesT esc s.level.toNat s.title s.mark ((chooseP order s.facts).map pairF)).length*(300+1)≤34*(300+1):=Nat.mul_le_mul_right _ h6
 exact ⟨by omega,h3⟩
theorem name_len {c:Ct} (hc:CtOk c) (order:List Str) (el:Int) (h0:1≤el) (h9:el≤64):(nameP order c.labs el (elemS Lib.itoa el)).length≤1000:=by
 refine Nat.le_trans (nameGo_len (N:=64) order el c.labs _ _ ?_ (fun y hy=>(hc.labs y hy).len)) (by omega)
 have:=Lib.itoa_length_le el (by omega) (by omega)
 simp [elemS];omega
structure ValB (c:Ct) (root:Int) (lang:Str):Prop where
 one: ∀u,(valQ Lib.itoa esc c lang root (1,u)).length≤10000
 two: ∀u,(valQ Lib.itoa esc c lang root (2,u)).length<900000
 twop: ∀u,∀p∈splitB 10 (valQ Lib.itoa esc c lang root (2,u)).dropLast,p.length≤300
 more: ∀k u,k=3∨k=4→(valQ Lib.itoa esc c lang root (k,u)).length≤1000
theorem val_bounds {c:Ct} (hf:fewC c=true) (root:Int) (lang:Str):ValB c root lang:=by
 have key: ∀x:Cell,valQ Lib.itoa esc c lang root x= []∨(CtOk c∧valQ Lib.itoa esc c lang root x=valV Lib.itoa esc c (preferP c.langs lang) root x):=fun x=>by
  unfold valQ
  by_cases h:rightB c lang=true
  ·rw [if_pos h];exact .inr ⟨chkC_ok (right_ok h).1,rfl⟩
  ·rw [if_neg h];exact .inl rfl
 have k2: ∀u,valQ Lib.itoa esc c lang root (2,u)= []∨(CtOk c∧ ∃s∈c.shs,valQ Lib.itoa esc c lang root (2,u)=shText esc (preferP c.langs lang) s):=fun u=>by
  rcases key (2,u) with h | ⟨hc,h⟩
  ·exact .inl h
  ·rw [h]
   unfold valV valP
   simp only [show¬ (2:Int)=3 by decide,show¬ (2:Int)=1 by decide,if_false,if_true,false_and]
   split
   ·split
    ·rename_i i hi s hs
     exact .inr ⟨hc,s,List.mem_of_getElem? hs,rfl⟩
    ·exact .inl rfl
   ·exact .inl rfl
 refine ⟨fun u=> ?_,fun u=> ?_,fun u=> ?_,fun k u hk=> ?_⟩
 ·rcases key (1,u) with h | ⟨hc,h⟩
  ·rw [h];simp
  ·rw [h]
   unfold valV valP
   simp only [show¬ (1:Int)=3 by decide,if_false,if_true,false_and]
   exact numberP_len hc root u
 ·rcases k2 u with h | ⟨hc,s,hs,h⟩
  ·rw [h];simp
  ·rw [h];exact (shText_len hf hc hs _).1
 ·rcases k2 u with h | ⟨hc,s,hs,h⟩
  ·rw [h];simp [splitB]
  ·rw [h];exact (shText_len hf hc hs _).2
 ·rcases key (k,u) with h | ⟨hc,h⟩
  ·rw [h];simp
  ·rw [h]
   unfold valV
   rcases hk with rfl | rfl
   ·simp only [true_and]
    split
    ·simp
    ·rename_i hr
     unfold valP
     simp only [show¬ (3:Int)=1 by decide,show¬ (3:Int)=2 by decide,if_false,if_true]
     exact name_len hc _ u (by omega) (by omega)
   ·unfold valP
    simp only [show¬ (4:Int)=1 by decide,show¬ (4:Int)=2 by decide,show¬ (4:Int)=3 by decide,if_false,if_true,false_and]
    exact cite_len (fun s hs=>⟨(hc.shs s hs).mark,(hc.shs s hs).tlen⟩) u
theorem look_reads (f:Cell→Str) (S:List Cell) (x:Cell):(lookC (S.map fun z=>(z,f z)) x).getD []= []∨(lookC (S.map fun z=>(z,f z)) x).getD []=f x:=by
 rw [lookC_map]
 split
 ·exact .inr rfl
 ·exact .inl rfl
open Go.Am Go.ChangeShapes Go.WideShapes Go.RowKit
end Go.Proofs.YtfnkchadeaedlaaGreatDoor
