/-
 Stale and Differ, of the program and of the reference; equal reads. Equal lists of nodes, of cells and of reads; equal sections; copies of lists; a cell in a list. Differ, of the program and of the reference. Catalogs that are few. Reads and catalogs that are few. The copy of a catalog. depend.Reads of a section that there is. The town of the example: what its reads, its sections and its changes are. How long reads and their values are. Cells and reads that come in.
-/
import Derived.Test.YtfnkchadeaedlaaGreatDoorRdM
import Derived.Test.YtfnkchadeaedlaaGreatDoorAdM
import Derived.Test.YtfnkchadeaedlaaGreatDoorDpM
import Derived.Test.YtfnkchadeaedlaaGreatDoorCatM
import Derived.Test.YtfnkchadeaedlaaGreatDoorDqM
import Derived.Test.YtfnkchadeaedlaaGreatDoorRfM
set_option linter.all false
namespace Go.Proofs.YtfnkchadeaedlaaGreatDoor
open Go.Am
set_option maxRecDepth 10000
set_option maxHeartbeats 8000000
theorem so {c:Ct} {lang:af} {root:Int} (x:Cell):bC Lib.itoa aB c lang root x=if aD c lang=true then sf Lib.itoa aB c lang root x else []:=by
 unfold bC;by_cases h:aD c lang=true
 ·rw [if_pos h,if_pos h,zA sj (b9 (dR h).1)]
 ·rw [if_neg h,if_neg h]
theorem Pq {c:Ct} {lang:af} {root:Int} (x:Cell):bC Lib.itoa aB c lang root x=if aD c lang=true then Cb Lib.itoa aB c lang root x else []:=by
 rw [so];by_cases h:aD c lang=true
 ·rw [if_pos h,if_pos h,Fi (b9 (dR h).1) (dR h).2]
 ·rw [if_neg h,if_neg h]
theorem Cm (val:Cell→af) (r:Cell×af) (l:List (Cell×af)):kp val (r::l)=(decide (val r.1≠r.2) || kp val l):=rfl
theorem iS (c:Ct) (hc:c.ok) (root:Int) (lang:af) (nl:Option Bool) (z:Nat) (l:List (Cell×af)) (hz:l≠ []→z=3) (hl:l.length<1000000):
  ar cfg 21 [aO c,.int .i64 root,.str lang,.ah nl z (aF l)] []=some (.bool (kp (bC Lib.itoa aB c lang root) l), []):=by
 refine ab Wa TN ?_;have w1:=Ak c hc lang;have w2:aD c lang=true→ ∀x:Cell,_:=fun h x=>si c hc root lang x h;have hv: ∀x,bC Lib.itoa aB c lang root x=_:=fun x=>so x;have hE: ∀k (h:k<l.length),(aF l)[k]?=some (.agg [.int .i64 l[k].1.1,.int .i64 l[k].1.2,.str l[k].2]):=fun k h=>get_map _ _ h;have hEl:(aF l).length=l.length:=by simp [aF]
 generalize aF l=E at*
 generalize bC Lib.itoa aB c lang root=val at*
 generalize sf Lib.itoa aB c lang root=vi at*
 generalize aD c lang=rb at*
 unfold aO bU at*
 generalize ao c.aa=L1 at*
 generalize c.aq.map bF=L2 at*
 generalize c.ag.map aI=L3 at*
 simp (maxSteps:=9^9) (disch:=omega) [-List.map_replicate,-List.map_set,-List.getD_eq_getElem?_getD,-getElem?_pos,-getElem?_neg,om,TO,w1,hEl];refine Wp.aA (fun (i:Nat)=>l.length-i) (fun i=> [none,some (.int .i64 root),some (.str lang),none,some (.ptr 0 0),none,some (.bool rb),none,none,none,some (.ah nl z E),some (.int .i64 l.length),some (.int .i64 i),none,none,none,none,none]) (fun _=> [.var 26 [.ah c.ln c.lz L1,.ah c.bn c.bz L2,.ah c.sn c.sz L3]]) (fun i=>kp val l=kp val (l.drop i)∧i≤l.length) ?_ 0 ⟨by simp,by omega⟩ (by simp) rfl;rintro i ⟨hi,hil⟩;rw [hi];clear hi;by_cases h1:i<l.length
 ·have hg:=hE i h1;obtain rfl:=hz (ne_of_lt h1);rw [List.drop_eq_getElem_cons h1,Cm];have hvi:=hv l[i].1;have w3:=fun h=>w2 h l[i].1;clear hE w2 hv w1;generalize l[i]=r at*
  obtain ⟨⟨r1,r2⟩,t⟩:=r;simp only at hg hvi w3⊢;rw [hvi];cases rb with
  | true=>
   have w4:=w3 rfl;rw [if_pos rfl];generalize vi (r1,r2)=x at*
   clear w3 hvi;by_cases he:x=t
   ·have he2:(x !=t)=false:=by simp [he]
    rw [show decide (x≠t)=false by simp [he],Bool.false_or];simp (maxSteps:=9^9) (disch:=omega) [-List.map_replicate,-List.map_set,-List.getD_eq_getElem?_getD,-getElem?_pos,-getElem?_neg,om,h1,hg,ae,w4,he,he2];exact ⟨i+1,⟨rfl,by omega⟩,by omega,by simp⟩
   ·have he2:(x !=t)=true:=by simpa using he
    rw [show decide (x≠t)=true by simpa using he,Bool.true_or];simp (maxSteps:=9^9) (disch:=omega) [-List.map_replicate,-List.map_set,-List.getD_eq_getElem?_getD,-getElem?_pos,-getElem?_neg,om,h1,hg,ae,w4,he,he2]
  | false=>
   rw [if_neg (by simp)];clear w3 hvi;by_cases he:t= []
   ·subst he;rw [show decide (([]:af)≠ [])=false by simp,Bool.false_or];simp (maxSteps:=9^9) (disch:=omega) [-List.map_replicate,-List.map_set,-List.getD_eq_getElem?_getD,-getElem?_pos,-getElem?_neg,om,h1,hg,ae];exact ⟨i+1,⟨rfl,by omega⟩,by omega,by simp⟩
   ·have he2:(([]:af) !=t)=true:=by simpa using Ne.symm he
    rw [show decide (([]:af)≠t)=true by simpa using Ne.symm he,Bool.true_or];simp (maxSteps:=9^9) (disch:=omega) [-List.map_replicate,-List.map_set,-List.getD_eq_getElem?_getD,-getElem?_pos,-getElem?_neg,om,h1,hg,ae,he,he2]
 ·rw [List.drop_eq_nil_of_le (by omega)];simp (maxSteps:=9^9) (disch:=omega) [-List.map_replicate,-List.map_set,-List.getD_eq_getElem?_getD,-getElem?_pos,-getElem?_neg,om,h1,kp]
theorem Jg (nl nl':Option Bool) (z z':Nat) (l m:List (Cell×af)) (hz:l≠ []→z=3) (hz':m≠ []→z'=3) (hl:l.length<1000000) (hm:m.length<1000000):ar cfg 15 [.ah nl z (aF l),.ah nl' z' (aF m)] []=some (.bool (decide (l=m)), []):=by
 refine ab Wb TP ?_;have hE: ∀k (h:k<l.length),(aF l)[k]?=some (.agg [.int .i64 l[k].1.1,.int .i64 l[k].1.2,.str l[k].2]):=fun k h=>get_map _ _ h;have hE': ∀k (h:k<m.length),(aF m)[k]?=some (.agg [.int .i64 m[k].1.1,.int .i64 m[k].1.2,.str m[k].2]):=fun k h=>get_map _ _ h;have hEl:(aF l).length=l.length:=by simp [aF]
 have hEm:(aF m).length=m.length:=by simp [aF]
 generalize aF l=E at*
 generalize aF m=E' at*
 by_cases hlm:l.length=m.length
 case neg=>
  have h2:((l.length:Int) !=(m.length:Int))=true:=by rw [bne_iff_ne];omega
  have h3: ¬ l=m:=fun h=>hlm (by rw [h]);simp (maxSteps:=9^9) (disch:=omega) [-List.map_replicate,-List.map_set,-List.getD_eq_getElem?_getD,-getElem?_pos,-getElem?_neg,om,Pr,hEl,hEm,h2,h3]
 have h2:((l.length:Int) !=(m.length:Int))=false:=by rw [bne_eq_false_iff_eq];omega
 simp (maxSteps:=9^9) (disch:=omega) [-List.map_replicate,-List.map_set,-List.getD_eq_getElem?_getD,-getElem?_pos,-getElem?_neg,om,Pr,hEl,hEm,h2];refine Wp.aA (fun (i:Nat)=>l.length-i) (fun i=> [some (.ah nl z E),some (.ah nl' z' E'),none,some (.int .i64 i),none,none,none]) (fun _=> []) (fun i=>(l=m↔l.drop i=m.drop i)∧i≤l.length) ?_ 0 ⟨by simp,by omega⟩ (by simp) rfl;rintro i ⟨hi,hil⟩;by_cases h1:i<l.length
 ·have h1':i<m.length:=by omega
  have hg:=hE i h1;have hg':=hE' i h1';obtain rfl:=hz (ne_of_lt h1);obtain rfl:=hz' (ne_of_lt h1');rw [List.drop_eq_getElem_cons h1,List.drop_eq_getElem_cons h1',List.cons.injEq] at hi;clear hE hE';generalize l[i]=r at*
  generalize m[i]=r' at*
  obtain ⟨⟨r1,r2⟩,t⟩:=r;obtain ⟨⟨r1',r2'⟩,t'⟩:=r';simp only at hg hg';simp (maxSteps:=9^9) (disch:=omega) [-List.map_replicate,-List.map_set,-List.getD_eq_getElem?_getD,-getElem?_pos,-getElem?_neg,om,h1,h1',hg,hg',hEl,hEm];split
  ·rename_i q;intro e;obtain ⟨e1,_⟩:=hi.1 e;simp only [Prod.mk.injEq] at e1;obtain ⟨⟨e2,e3⟩,e4⟩:=e1;rcases q with (q | q) | q
   ·exact q e2
   ·exact q e3
   ·exact q e4
  ·rename_i q;simp only [not_or,Classical.not_not] at q;obtain ⟨⟨rfl,rfl⟩,rfl⟩:=q;exact ⟨i+1,⟨by rw [hi];simp,by omega⟩,by omega,by simp⟩
 ·rw [List.drop_eq_nil_of_le (by omega),List.drop_eq_nil_of_le (by omega)] at hi;have hi2:l=m:=hi.2 rfl;simp (maxSteps:=9^9) (disch:=omega) [-List.map_replicate,-List.map_set,-List.getD_eq_getElem?_getD,-getElem?_pos,-getElem?_neg,om,h1,hEl,hEm,hi2]
def db (l:List Cell):List AV:=l.map iC
theorem Ps (nl nl':Option Bool) (z z':Nat) (l m:List (Cell×af)) (hz:l≠ []→z=3) (hz':m≠ []→z'=3) (hl:l.length<1000000) (hm:m.length<1000000):ar cfg 37 [.ah nl z (aF l),.ah nl' z' (aF m)] []=some (.bool (decide (l=m)), []):=by
 refine ab Wc TQ ?_;have hE: ∀k (h:k<l.length),(aF l)[k]?=some (.agg [.int .i64 l[k].1.1,.int .i64 l[k].1.2,.str l[k].2]):=fun k h=>get_map _ _ h;have hE': ∀k (h:k<m.length),(aF m)[k]?=some (.agg [.int .i64 m[k].1.1,.int .i64 m[k].1.2,.str m[k].2]):=fun k h=>get_map _ _ h;have hEl:(aF l).length=l.length:=by simp [aF]
 have hEm:(aF m).length=m.length:=by simp [aF]
 generalize aF l=E at*
 generalize aF m=E' at*
 by_cases hlm:l.length=m.length
 case neg=>
  have h2:((l.length:Int) !=(m.length:Int))=true:=by rw [bne_iff_ne];omega
  have h3: ¬ l=m:=fun h=>hlm (by rw [h]);simp (maxSteps:=9^9) (disch:=omega) [-List.map_replicate,-List.map_set,-List.getD_eq_getElem?_getD,-getElem?_pos,-getElem?_neg,om,Pt,hEl,hEm,h2,h3]
 have h2:((l.length:Int) !=(m.length:Int))=false:=by rw [bne_eq_false_iff_eq];omega
 simp (maxSteps:=9^9) (disch:=omega) [-List.map_replicate,-List.map_set,-List.getD_eq_getElem?_getD,-getElem?_pos,-getElem?_neg,om,Pt,hEl,hEm,h2];refine Wp.aA (fun (i:Nat)=>l.length-i) (fun i=> [some (.ah nl z E),some (.ah nl' z' E'),none,none,none,some (.int .i64 l.length),some (.int .i64 i),none,none]) (fun _=> []) (fun i=>(l=m↔l.drop i=m.drop i)∧i≤l.length) ?_ 0 ⟨by simp,by omega⟩ (by simp) rfl;rintro i ⟨hi,hil⟩;by_cases h1:i<l.length
 ·have h1':i<m.length:=by omega
  have hg:=hE i h1;have hg':=hE' i h1';obtain rfl:=hz (ne_of_lt h1);obtain rfl:=hz' (ne_of_lt h1');rw [List.drop_eq_getElem_cons h1,List.drop_eq_getElem_cons h1',List.cons.injEq] at hi;clear hE hE';generalize l[i]=r at*
  generalize m[i]=r' at*
  obtain ⟨⟨r1,r2⟩,t⟩:=r;obtain ⟨⟨r1',r2'⟩,t'⟩:=r';simp only at hg hg';simp (maxSteps:=9^9) (disch:=omega) [-List.map_replicate,-List.map_set,-List.getD_eq_getElem?_getD,-getElem?_pos,-getElem?_neg,om,h1,h1',hg,hg',hEl,hEm];split
  ·rename_i q;intro e;obtain ⟨e1,_⟩:=hi.1 e;simp only [Prod.mk.injEq] at e1;obtain ⟨⟨e2,e3⟩,e4⟩:=e1;rcases q with (q | q) | q
   ·exact q e2
   ·exact q e3
   ·exact q e4
  ·rename_i q;simp only [not_or,Classical.not_not] at q;obtain ⟨⟨rfl,rfl⟩,rfl⟩:=q;exact ⟨i+1,⟨by rw [hi];simp,by omega⟩,by omega,by simp⟩
 ·rw [List.drop_eq_nil_of_le (by omega),List.drop_eq_nil_of_le (by omega)] at hi;have hi2:l=m:=hi.2 rfl;simp (maxSteps:=9^9) (disch:=omega) [-List.map_replicate,-List.map_set,-List.getD_eq_getElem?_getD,-getElem?_pos,-getElem?_neg,om,h1,hEl,hEm,hi2]
theorem fA: ∀l:List Cell,al (db l)=true
 | []=>rfl
 | x::r=>by simp [db,iC,al,AV.plain];exact fA r
theorem zJ (f g:Cell→af) (x:Cell) (l:List Cell):ef f g (x::l)=if f x=g x then ef f g l else x::ef f g l:=by
 unfold ef;rw [List.filter_cons];by_cases h:f x=g x
 ·rw [if_neg (by simpa using h),if_pos h]
 ·rw [if_pos (by simpa using h),if_neg h]
theorem k9 (a b:Ct) (ha:a.ok) (hb:b.ok) (root:Int) (lang:af) (nl:Option Bool) (z:Nat) (l:List Cell) (hz:l≠ []→z=2) (hl:l.length<1000000):
  ar cfg 24 [aO a,aO b,.int .i64 root,.str lang,.ah nl z (db l)] []=some (.ah none 2 (db (ef (bC Lib.itoa aB a lang root) (bC Lib.itoa aB b lang root) l)), []):=by
 refine ab Wd TR ?_;have w1: ∀x:Cell,_:=fun x=>nW a ha root lang x;have w2: ∀x:Cell,_:=fun x=>nW b hb root lang x;simp only [←so] at w1 w2;have hE: ∀k (h:k<l.length),(db l)[k]?=some (.agg [.int .i64 l[k].1,.int .i64 l[k].2]):=fun k h=>get_map _ _ h;have hEl:(db l).length=l.length:=by simp [db]
 generalize db l=E at*
 generalize bC Lib.itoa aB a lang root=va at*
 generalize bC Lib.itoa aB b lang root=vb at*
 unfold aO bU at*
 generalize ao a.aa=L1 at*
 generalize a.aq.map bF=L2 at*
 generalize a.ag.map aI=L3 at*
 generalize ao b.aa=M1 at*
 generalize b.aq.map bF=M2 at*
 generalize b.ag.map aI=M3 at*
 simp (maxSteps:=9^9) (disch:=omega) [-List.map_replicate,-List.map_set,-List.getD_eq_getElem?_getD,-getElem?_pos,-getElem?_neg,om,TS,hEl];refine Wp.aA (fun (x:Nat×List Cell)=>l.length-x.1) (fun x=> [none,none,some (.int .i64 root),some (.str lang),none,some (.ptr 0 0),some (.ptr 1 0),none,some (.ay 2 x.2.length),none,some (.ah nl z E),some (.int .i64 l.length),some (.int .i64 x.1),none,none,none,none,none,none,none]) (fun x=> [.var 26 [.ah a.ln a.lz L1,.ah a.bn a.bz L2,.ah a.sn a.sz L3],.var 26 [.ah b.ln b.lz M1,.ah b.bn b.bz M2,.ah b.sn b.sz M3],.sl ⟨false,some 28,none⟩ 2 (db x.2)]) (fun x=>ef va vb l=x.2++ef va vb (l.drop x.1)∧x.1≤l.length∧x.2.length≤x.1) ?_ (0, []) ⟨by simp,by simp,by simp⟩ (by simp) (by simp [db]);rintro ⟨i,out⟩ ⟨hi,hil,hol⟩;simp only at hi hil hol⊢;rw [hi];clear hi;have hol2:(db out).length=out.length:=by simp [db]
 by_cases h1:i<l.length
 ·have hg:=hE i h1;obtain rfl:=hz (ne_of_lt h1);rw [List.drop_eq_getElem_cons h1,zJ];have w3:=w1 l[i];have w4:=w2 l[i];clear hE w1 w2;generalize l[i]=r at*
  obtain ⟨r1,r2⟩:=r;simp only at hg w3 w4⊢;generalize va (r1,r2)=x at*
  generalize vb (r1,r2)=y at*
  by_cases he:x=y
  ·rw [if_pos he];have he2:(x !=y)=false:=by simp [he]
   simp (maxSteps:=9^9) (disch:=omega) [-List.map_replicate,-List.map_set,-List.getD_eq_getElem?_getD,-getElem?_pos,-getElem?_neg,om,h1,hg,hEl,ae,w3,w4,he,he2];exact ⟨i+1,out,⟨rfl,by omega,by omega⟩,by omega,by simp,rfl⟩
  ·rw [if_neg he];have he2:(x !=y)=true:=by simpa using he
   simp (maxSteps:=9^9) (disch:=omega) [-List.map_replicate,-List.map_set,-List.getD_eq_getElem?_getD,-getElem?_pos,-getElem?_neg,om,h1,hg,hEl,ae,w3,w4,he,he2,hol2];exact ⟨i+1,out++ [(r1,r2)],⟨by simp,by omega,by simp;omega⟩,by omega,by simp,by simp [db,iC]⟩
 ·rw [List.drop_eq_nil_of_le (by omega)];have hpl:=fA out;simp (maxSteps:=9^9) (disch:=omega) [-List.map_replicate,-List.map_set,-List.getD_eq_getElem?_getD,-getElem?_pos,-getElem?_neg,om,h1,hEl,ef,hpl]
def pG (a b n:Nat):Bool:=decide (n≤a∨b<n∧n≤b+1)
def Jh (f:Fc):Bool:=decide (f.lang.length≤10)&&pG 60 4096 f.text.length
def zK (s:Sh):Bool:=(decide (s.mark.length≤70)&&decide (s.title.length≤70)&&pG 6 32 s.facts.length)&&s.facts.all Jh
def D9 (b:Lb):Bool:=decide (b.text.length≤70)&&decide (b.lang.length≤10)
def jz (c:Ct):Bool:=(decide (c.aa.length≤10)&&pG 20 256 c.aq.length&&pG 14 256 c.ag.length)&&(c.aa.all (fun s=>decide (s.length≤10))&&(c.aq.all D9&&c.ag.all zK))
theorem lX {c:Ct} (hi:c.CG) (h:jz c=true):c.ok:=by unfold jz pG at h;simp only [Bool.and_eq_true,decide_eq_true_eq,List.all_eq_true] at h;obtain ⟨⟨⟨h1,h2⟩,h3⟩,h4,h5,h6⟩:=h;refine ⟨hi.lz,hi.bz,hi.sz,by omega,by omega,by omega,fun s hs=>⟨(hi.sh s hs).fz,?_⟩⟩;have:=h6 s hs;unfold zK pG at this;simp only [Bool.and_eq_true,decide_eq_true_eq] at this;omega
theorem iF (c:Ct) (hi:c.CG):ar cfg 11 [aO c] []=some (.bool (jz c), []):=by
 refine ab We TU ?_;have hl:=hi.ll;have hb:=hi.bl;have hs:=hi.sl;unfold maxLen at hl hb hs;unfold jz aO bU;generalize hL:c.aa.length=nL at*
 generalize hB:c.aq.length=nB at*
 generalize hS:c.ag.length=nS at*
 have hL':(ao c.aa).length=nL:=by simp [hL]
 have hB':(c.aq.map bF).length=nB:=by simp [hB]
 have hS':(c.ag.map aI).length=nS:=by simp [hS]
 obtain ⟨AA,hA⟩: ∃A,A=(c.aa.all (fun s=>decide (s.length≤10))&&(c.aq.all D9&&c.ag.all zK)):=⟨_,rfl⟩;rw [←hA];have hE1: ∀k (h:k<c.aa.length),(ao c.aa)[k]?=some (.str c.aa[k]):=fun k h=>get_map _ _ (by omega);have hE2: ∀k (h:k<c.aq.length),(c.aq.map bF)[k]?=some (bF c.aq[k]):=fun k h=>get_map _ _ (by omega);have hE3: ∀k (h:k<c.ag.length),(c.ag.map aI)[k]?=some (aI c.ag[k]):=fun k h=>get_map _ _ (by omega);have z1:=hi.lz;have z2:=hi.bz;have z3:=hi.sz;generalize ao c.aa=L1 at*
 generalize c.aq.map bF=L2 at*
 generalize c.ag.map aI=L3 at*
 by_cases hQ:(decide (nL≤10)&&pG 20 256 nB&&pG 14 256 nS)=true
 case neg=>
  rw [Bool.eq_false_iff.2 hQ,Bool.false_and];clear hE1 hE2 hE3 z1 z2 z3;simp (maxSteps:=9^9) (disch:=omega) [-List.map_replicate,-List.map_set,-List.getD_eq_getElem?_getD,-getElem?_pos,-getElem?_neg,om,Pv,hL',hB',hS'];unfold pG at hQ;simp only [Bool.and_eq_true,decide_eq_true_eq] at hQ
  intros
  exfalso;omega
 rw [hQ,Bool.true_and];have hq:=hQ;unfold pG at hq;simp only [Bool.and_eq_true,decide_eq_true_eq] at hq;obtain ⟨⟨q1,q2⟩,q3⟩:=hq;simp (maxSteps:=9^9) (disch:=omega) [-List.map_replicate,-List.map_set,-List.getD_eq_getElem?_getD,-getElem?_pos,-getElem?_neg,om,Pv,hL',hB',hS'];rw [if_neg (by omega)];refine Wp.aA (fun (i:Nat)=>nL-i) (fun i=> [none,some (.ptr 0 0),none,some (.int .i64 i),none,none,none,none,none,none,none,none,none,none,none,none,none,none]) (fun _=> [.var 26 [.ah c.ln c.lz L1,.ah c.bn c.bz L2,.ah c.sn c.sz L3]]) (fun i=>AA=((c.aa.drop i).all (fun s=>decide (s.length≤10))&&(c.aq.all D9&&c.ag.all zK))∧i≤nL) ?_ 0 ⟨by rw [List.drop_zero];exact hA,by omega⟩ (by simp) rfl;clear hA;rintro i ⟨hA,hil⟩;by_cases h1:i<nL
 ·have hg:=hE1 i (by omega);have h1':i<c.aa.length:=by omega
  obtain hzz:=z1 (ne_of_lt h1');rw [List.drop_eq_getElem_cons h1',List.all_cons] at hA;generalize c.aa[i]=x at*
  clear hE1 hE2 hE3 z1 z2 z3 q2 q3;by_cases hx:x.length≤10
  ·rw [show decide (x.length≤10)=true by simpa using hx,Bool.true_and] at hA;simp (maxSteps:=9^9) (disch:=omega) [-List.map_replicate,-List.map_set,-List.getD_eq_getElem?_getD,-getElem?_pos,-getElem?_neg,om,h1,hg,hL',hx,hzz];exact ⟨i+1,⟨hA,by omega⟩,by omega,by simp⟩
  ·rw [show decide (x.length≤10)=false by simpa using hx,Bool.false_and,Bool.false_and] at hA;subst hA;simp (maxSteps:=9^9) (disch:=omega) [-List.map_replicate,-List.map_set,-List.getD_eq_getElem?_getD,-getElem?_pos,-getElem?_neg,om,h1,hg,hL',hx,hzz]
 ·rw [List.drop_eq_nil_of_le (by omega),List.all_nil,Bool.true_and] at hA;clear hE1 z1;simp (maxSteps:=9^9) (disch:=omega) [-List.map_replicate,-List.map_set,-List.getD_eq_getElem?_getD,-getElem?_pos,-getElem?_neg,om,h1,hL'];refine Wp.aA (fun (i:Nat)=>nB-i) (fun i=> [none,some (.ptr 0 0),none,none,some (.int .i64 i),none,none,none,none,none,none,none,none,none,none,none,none,none]) (fun _=> [.var 26 [.ah c.ln c.lz L1,.ah c.bn c.bz L2,.ah c.sn c.sz L3]]) (fun i=>AA=((c.aq.drop i).all D9&&c.ag.all zK)∧i≤nB) ?_ 0 ⟨by rw [List.drop_zero];exact hA,by omega⟩ (by simp) rfl;clear hA;rintro i ⟨hA,hil⟩;by_cases h1:i<nB
  ·have hg:=hE2 i (by omega);have h1':i<c.aq.length:=by omega
   obtain hzz:=z2 (ne_of_lt h1');rw [List.drop_eq_getElem_cons h1',List.all_cons] at hA;generalize c.aq[i]=x at*
   unfold bF at hg;clear hE2 hE3 z2 z3 q2 q3;by_cases hx:D9 x=true
   ·rw [hx,Bool.true_and] at hA;unfold D9 at hx;simp only [Bool.and_eq_true,decide_eq_true_eq] at hx;obtain ⟨x1,x2⟩:=hx;simp (maxSteps:=9^9) (disch:=omega) [-List.map_replicate,-List.map_set,-List.getD_eq_getElem?_getD,-getElem?_pos,-getElem?_neg,om,h1,hg,hB',x1,x2,hzz];exact ⟨i+1,⟨hA,by omega⟩,by omega,by simp⟩
   ·rw [Bool.eq_false_iff.2 hx,Bool.false_and,Bool.false_and] at hA;subst hA;unfold D9 at hx;simp only [Bool.and_eq_true,decide_eq_true_eq] at hx;simp (maxSteps:=9^9) (disch:=omega) [-List.map_replicate,-List.map_set,-List.getD_eq_getElem?_getD,-getElem?_pos,-getElem?_neg,om,h1,hg,hB',hzz];omega
  ·rw [List.drop_eq_nil_of_le (by omega),List.all_nil,Bool.true_and] at hA;clear hE2 z2;simp (maxSteps:=9^9) (disch:=omega) [-List.map_replicate,-List.map_set,-List.getD_eq_getElem?_getD,-getElem?_pos,-getElem?_neg,om,h1,hB'];refine Wp.aA (fun (i:Nat)=>nS-i) (fun i=> [none,some (.ptr 0 0),none,none,none,some (.int .i64 i),none,none,none,none,none,none,none,none,none,none,none,none]) (fun _=> [.var 26 [.ah c.ln c.lz L1,.ah c.bn c.bz L2,.ah c.sn c.sz L3]]) (fun i=>AA=((c.ag.drop i).all zK)∧i≤nS) ?_ 0 ⟨by rw [List.drop_zero];exact hA,by omega⟩ (by simp) rfl;clear hA;rintro i ⟨hA,hil⟩;by_cases h1:i<nS
   ·have hg:=hE3 i (by omega);have h1':i<c.ag.length:=by omega
    obtain hzz:=z3 (ne_of_lt h1');have hxi:=hi.sh _ (List.getElem_mem h1');rw [List.drop_eq_getElem_cons h1',List.all_cons] at hA;generalize c.ag[i]=x at*
    unfold aI at hg;clear hE3 z3 q2 q3;have hfz:=hxi.fz;have hfl:=hxi.fl;unfold maxLen at hfl;have hF:(x.facts.map cU).length=x.facts.length:=by simp
    have hE4: ∀k (h:k<x.facts.length),(x.facts.map cU)[k]?=some (.agg [.int .i64 x.facts[k].el,.str x.facts[k].lang,.str x.facts[k].text]):=fun k h=>get_map _ _ (by omega);generalize x.facts.map cU=L4 at*
    by_cases hQ2:(decide (x.mark.length≤70)&&decide (x.title.length≤70)&&pG 6 32 x.facts.length)=true
    case neg=>
     unfold zK at hA;rw [Bool.eq_false_iff.2 hQ2,Bool.false_and,Bool.false_and] at hA;subst hA;simp (maxSteps:=9^9) (disch:=omega) [-List.map_replicate,-List.map_set,-List.getD_eq_getElem?_getD,-getElem?_pos,-getElem?_neg,om,h1,hg,hS',hF,hzz,ae];unfold pG at hQ2;simp only [Bool.and_eq_true,decide_eq_true_eq] at hQ2
     intros
     exfalso;omega
    unfold zK at hA;rw [hQ2,Bool.true_and] at hA;unfold pG at hQ2;simp only [Bool.and_eq_true,decide_eq_true_eq] at hQ2;obtain ⟨⟨y1,y2⟩,y3⟩:=hQ2;simp (maxSteps:=9^9) (disch:=omega) [-List.map_replicate,-List.map_set,-List.getD_eq_getElem?_getD,-getElem?_pos,-getElem?_neg,om,h1,hg,hS',hF,hzz,ae];rw [if_neg (by omega)];refine Wp.aA (fun (j:Nat)=>x.facts.length-j) (fun j=> [none,some (.ptr 0 0),none,none,none,some (.int .i64 i),some (.ptr 1 0),some (.int .i64 j),none,none,none,none,none,none,none,none,none,none]) (fun _=> [.var 26 [.ah c.ln c.lz L1,.ah c.bn c.bz L2,.ah c.sn c.sz L3],.var 73 [.int .i64 x.unit,.int .i64 x.par,.int .i64 x.level,.str x.mark,.str x.title,.ah x.fn x.fz L4]]) (fun j=>AA=((x.facts.drop j).all Jh&&(c.ag.drop (i+1)).all zK)∧j≤x.facts.length) ?_ 0 ⟨by rw [List.drop_zero];exact hA,by omega⟩ (by simp) (by rw [hzz]);clear hA;rintro j ⟨hA,hjl⟩;by_cases h2:j<x.facts.length
    ·have hg4:=hE4 j h2;obtain hzz2:=hfz (ne_of_lt h2);rw [List.drop_eq_getElem_cons h2,List.all_cons] at hA;generalize x.facts[j]=f at*
     clear hE4 hfz y3;by_cases hx:Jh f=true
     ·rw [hx,Bool.true_and] at hA;unfold Jh pG at hx;simp only [Bool.and_eq_true,decide_eq_true_eq] at hx;simp (maxSteps:=9^9) (disch:=omega) [-List.map_replicate,-List.map_set,-List.getD_eq_getElem?_getD,-getElem?_pos,-getElem?_neg,om,h2,hg4,hF,hzz2];rw [if_neg (by omega)];exact ⟨j+1,⟨hA,by omega⟩,by omega,by simp⟩
     ·rw [Bool.eq_false_iff.2 hx,Bool.false_and,Bool.false_and] at hA;subst hA;unfold Jh pG at hx;simp only [Bool.and_eq_true,decide_eq_true_eq] at hx;simp (maxSteps:=9^9) (disch:=omega) [-List.map_replicate,-List.map_set,-List.getD_eq_getElem?_getD,-getElem?_pos,-getElem?_neg,om,h2,hg4,hF,hzz2];omega
    ·rw [List.drop_eq_nil_of_le (by omega),List.all_nil,Bool.true_and] at hA;simp (maxSteps:=9^9) (disch:=omega) [-List.map_replicate,-List.map_set,-List.getD_eq_getElem?_getD,-getElem?_pos,-getElem?_neg,om,h2,hF];exact ⟨i+1,⟨hA,by omega⟩,by omega,by simp⟩
   ·rw [List.drop_eq_nil_of_le (by omega),List.all_nil] at hA;simp (maxSteps:=9^9) (disch:=omega) [-List.map_replicate,-List.map_set,-List.getD_eq_getElem?_getD,-getElem?_pos,-getElem?_neg,om,h1,hS',hA]
def lY (s:Sh):Sh:=⟨s.unit,s.par,s.level,s.mark,s.title,s.facts,if s.facts= [] then some false else none,if s.facts= [] then 0 else 3⟩
def dC (c:Ct):Ct:=⟨c.aa,c.aq,c.ag.map lY,if c.aa= [] then some false else none,if c.aa= [] then 0 else 1,if c.aq= [] then some false else none,if c.aq= [] then 0 else 4,none,6⟩
theorem iG (c:Ct):(dC c).Q1 c:=by unfold Ct.Q1 Ct.jX dC;simp only [List.map_map];congr 1
theorem dc {c:Ct} (h:c.ok):(dC c).ok:=by refine ⟨fun h=>by simp only [dC] at h⊢;rw [if_neg h],fun h=>by simp only [dC] at h⊢;rw [if_neg h],fun _=>rfl,h.ll,h.bl,by simp only [dC,List.length_map];exact h.sl,fun s hs=> ?_⟩;simp only [dC,List.mem_map] at hs;obtain ⟨t,ht,rfl⟩:=hs;exact ⟨fun h=>by simp only [lY] at h⊢;rw [if_neg h],(h.sh t ht).fl⟩
theorem gd (c:Ct) (hc:c.ok):ar cfg 13 [aO c] []=some (aO (dC c), []):=by
 refine ab Wf TV ?_;obtain ⟨aa,aq,ag,ln,lz,bn,bz,sn,sz⟩:=c;have l1:=hc.ll;have l2:=hc.bl;have l3:=hc.sl;have z1:=hc.lz;have z2:=hc.bz;have z3:=hc.sz;have hsh:=hc.sh;clear hc;unfold aO bU dC;simp only at l1 l2 l3 z1 z2 z3 hsh⊢;have p3:=cy ag;have e3:(ag.map aI).length=ag.length:=by simp
 have hE: ∀k (h:k<ag.length),(ag.map aI)[k]?=some (aI ag[k]):=fun k h=>get_map _ _ h;generalize ag.map aI=L3 at*
 obtain ⟨OUT,hOUT⟩: ∃O,O=(ag.map lY).map aI:=⟨_,rfl⟩;rw [←hOUT];cases aa with
 | nil=>
  cases aq with
  | nil=>
   simp (maxSteps:=9^9) (disch:=omega) [-List.map_replicate,-List.map_set,-List.getD_eq_getElem?_getD,-getElem?_pos,-getElem?_neg,om,Ji,p3,e3,ae,ao,bF];refine Wp.aA (fun (i:Nat)=>ag.length-i) (fun i=> [none,some (.ptr 0 0),some (.ptr 1 0),some (.ptr 9 0),some (.int .i64 i),none,none,none,none,none,none,none,none,none,none,none,none,none]) (fun i=> [.var 26 [.ah ln lz [],.ah bn bz [],.ah sn sz L3],.var 26 [.ay 2 0,.ay 3 0,.ay 4 0],.sl ⟨false,some 9,none⟩ 1 [],.sl ⟨false,some 77,none⟩ 4 [],.sl ⟨false,some 73,none⟩ 6 [],.dead,.dead,.dead,.dead,.var 26 [.b8 (some false),.b8 (some false),.ay 10 i],.sl ⟨false,some 73,none⟩ 6 (((ag.take i).map lY).map aI)]) (fun i=>i≤ag.length) ?_ 0 (by omega) (by simp) (by simp);rintro i hil;have hcl:(((ag.take i).map lY).map aI).length=i:=by simp;omega
   by_cases q1:i<ag.length
   ·have hg:=hE i q1;obtain rfl:=z3 (ne_of_lt q1)
    have htk:((ag.take (i+1)).map lY).map aI=((ag.take i).map lY).map aI++ [aI (lY ag[i])]:=by rw [List.take_succ_eq_append_getElem q1,List.map_append,List.map_append];rfl
    have hso:=hsh _ (List.getElem_mem q1);have hpl:=cy ((ag.take i).map lY);generalize ag[i]=w at*
    have hst:aI (lY w)= .agg [.int .i64 w.unit,.int .i64 w.par,.int .i64 w.level,.str w.mark,.str w.title,.ah (if w.facts= [] then some false else none) (if w.facts= [] then 0 else 3) (w.facts.map cU)]:=rfl;rw [hst] at htk;unfold aI at hg;clear hst;have hfz:=hso.fz;have hfl:=hso.fl;generalize ((ag.take i).map lY).map aI=DONE at*
    cases hw:w.facts with
    | nil=>rw [hw] at hg htk;simp only [List.map_nil,if_true] at hg htk;simp (maxSteps:=9^9) (disch:=omega) [-List.map_replicate,-List.map_set,-List.getD_eq_getElem?_getD,-getElem?_pos,-getElem?_neg,om,q1,hg,e3,hcl,ae,hpl];exact ⟨i+1,by omega,by omega,by simp,by simp only [List.map_map,List.map_take] at htk;exact ⟨rfl,htk.symm⟩⟩
    | cons f fs=>
     have hfz3:=hfz (by rw [hw];simp);rw [hw] at hg htk hfl;rw [hfz3] at hg;rw [if_neg (by simp)] at htk;simp only [List.map_cons,List.length_cons] at hg htk hfl;have hfp:=gn fs;have hfn:(fs.map cU).length=fs.length:=by simp
     unfold cU at hg htk hfp hfn;generalize fs.map _=Fss at*
     simp (maxSteps:=9^9) (disch:=omega) [-List.map_replicate,-List.map_set,-List.getD_eq_getElem?_getD,-getElem?_pos,-getElem?_neg,om,q1,hg,e3,hcl,ae,hpl,hfp,hfn];exact ⟨i+1,by omega,by omega,by simp,by simp only [List.map_map,List.map_take] at htk;exact ⟨rfl,htk.symm⟩⟩
   ·obtain rfl:i=ag.length:=by omega
    have hpl:=cy ((ag.take ag.length).map lY);rw [List.take_length] at hcl hpl⊢;rw [←hOUT] at hcl hpl⊢;simp (maxSteps:=9^9) (disch:=omega) [-List.map_replicate,-List.map_set,-List.getD_eq_getElem?_getD,-getElem?_pos,-getElem?_neg,om,q1,e3,hcl,ae,hpl]
  | cons y s=>
   have z2:=z2 (by simp);have p2:=ku s;have e2:(s.map bF).length=s.length:=by simp
   simp only [List.length_cons] at l2;rw [z2,List.map_cons];unfold bF at*
   generalize s.map _=L2 at*
   simp (maxSteps:=9^9) (disch:=omega) [-List.map_replicate,-List.map_set,-List.getD_eq_getElem?_getD,-getElem?_pos,-getElem?_neg,om,Ji,p3,e3,ae,ao,bF,p2,e2];refine Wp.aA (fun (i:Nat)=>ag.length-i) (fun i=> [none,some (.ptr 0 0),some (.ptr 1 0),some (.ptr 9 0),some (.int .i64 i),none,none,none,none,none,none,none,none,none,none,none,none,none]) (fun i=> [.var 26 [.ah ln lz [],.ah bn 4 (.agg [.int .i64 y.el,.str y.lang,.str y.text,.int .i64 y.ix]::L2),.ah sn sz L3],.var 26 [.ay 2 0,.ay 3 0,.ay 4 0],.sl ⟨false,some 9,none⟩ 1 [],.sl ⟨false,some 77,none⟩ 4 [],.sl ⟨false,some 73,none⟩ 6 [],.dead,.dead,.dead,.sl ⟨false,some 77,none⟩ 4 (.agg [.int .i64 y.el,.str y.lang,.str y.text,.int .i64 y.ix]::L2),.var 26 [.b8 (some false),.ay 8 (s.length+1),.ay 10 i],.sl ⟨false,some 73,none⟩ 6 (((ag.take i).map lY).map aI)]) (fun i=>i≤ag.length) ?_ 0 (by omega) (by simp) (by simp);rintro i hil;have hcl:(((ag.take i).map lY).map aI).length=i:=by simp;omega
   by_cases q1:i<ag.length
   ·have hg:=hE i q1;obtain rfl:=z3 (ne_of_lt q1)
    have htk:((ag.take (i+1)).map lY).map aI=((ag.take i).map lY).map aI++ [aI (lY ag[i])]:=by rw [List.take_succ_eq_append_getElem q1,List.map_append,List.map_append];rfl
    have hso:=hsh _ (List.getElem_mem q1);have hpl:=cy ((ag.take i).map lY);generalize ag[i]=w at*
    have hst:aI (lY w)= .agg [.int .i64 w.unit,.int .i64 w.par,.int .i64 w.level,.str w.mark,.str w.title,.ah (if w.facts= [] then some false else none) (if w.facts= [] then 0 else 3) (w.facts.map cU)]:=rfl;rw [hst] at htk;unfold aI at hg;clear hst;have hfz:=hso.fz;have hfl:=hso.fl;generalize ((ag.take i).map lY).map aI=DONE at*
    cases hw:w.facts with
    | nil=>rw [hw] at hg htk;simp only [List.map_nil,if_true] at hg htk;simp (maxSteps:=9^9) (disch:=omega) [-List.map_replicate,-List.map_set,-List.getD_eq_getElem?_getD,-getElem?_pos,-getElem?_neg,om,q1,hg,e3,hcl,ae,hpl];exact ⟨i+1,by omega,by omega,by simp,by simp only [List.map_map,List.map_take] at htk;exact ⟨rfl,htk.symm⟩⟩
    | cons f fs=>
     have hfz3:=hfz (by rw [hw];simp);rw [hw] at hg htk hfl;rw [hfz3] at hg;rw [if_neg (by simp)] at htk;simp only [List.map_cons,List.length_cons] at hg htk hfl;have hfp:=gn fs;have hfn:(fs.map cU).length=fs.length:=by simp
     unfold cU at hg htk hfp hfn;generalize fs.map _=Fss at*
     simp (maxSteps:=9^9) (disch:=omega) [-List.map_replicate,-List.map_set,-List.getD_eq_getElem?_getD,-getElem?_pos,-getElem?_neg,om,q1,hg,e3,hcl,ae,hpl,hfp,hfn];exact ⟨i+1,by omega,by omega,by simp,by simp only [List.map_map,List.map_take] at htk;exact ⟨rfl,htk.symm⟩⟩
   ·obtain rfl:i=ag.length:=by omega
    have hpl:=cy ((ag.take ag.length).map lY);rw [List.take_length] at hcl hpl⊢;rw [←hOUT] at hcl hpl⊢;simp (maxSteps:=9^9) (disch:=omega) [-List.map_replicate,-List.map_set,-List.getD_eq_getElem?_getD,-getElem?_pos,-getElem?_neg,om,q1,e3,hcl,ae,hpl,p2,e2]
 | cons x r=>
  have z1:=z1 (by simp);have p1:=ui r;have e1:(ao r).length=r.length:=by simp
  have hx:ao (x::r)= .str x::ao r:=rfl;simp only [List.length_cons] at l1;rw [z1,hx];generalize ao r=L1 at*
  cases aq with
  | nil=>
   simp (maxSteps:=9^9) (disch:=omega) [-List.map_replicate,-List.map_set,-List.getD_eq_getElem?_getD,-getElem?_pos,-getElem?_neg,om,Ji,p3,e3,ae,ao,bF,p1,e1];refine Wp.aA (fun (i:Nat)=>ag.length-i) (fun i=> [none,some (.ptr 0 0),some (.ptr 1 0),some (.ptr 9 0),some (.int .i64 i),none,none,none,none,none,none,none,none,none,none,none,none,none]) (fun i=> [.var 26 [.ah ln 1 (.str x::L1),.ah bn bz [],.ah sn sz L3],.var 26 [.ay 2 0,.ay 3 0,.ay 4 0],.sl ⟨false,some 9,none⟩ 1 [],.sl ⟨false,some 77,none⟩ 4 [],.sl ⟨false,some 73,none⟩ 6 [],.dead,.sl ⟨false,some 9,none⟩ 1 (.str x::L1),.dead,.dead,.var 26 [.ay 6 (r.length+1),.b8 (some false),.ay 10 i],.sl ⟨false,some 73,none⟩ 6 (((ag.take i).map lY).map aI)]) (fun i=>i≤ag.length) ?_ 0 (by omega) (by simp) (by simp);rintro i hil;have hcl:(((ag.take i).map lY).map aI).length=i:=by simp;omega
   by_cases q1:i<ag.length
   ·have hg:=hE i q1;obtain rfl:=z3 (ne_of_lt q1)
    have htk:((ag.take (i+1)).map lY).map aI=((ag.take i).map lY).map aI++ [aI (lY ag[i])]:=by rw [List.take_succ_eq_append_getElem q1,List.map_append,List.map_append];rfl
    have hso:=hsh _ (List.getElem_mem q1);have hpl:=cy ((ag.take i).map lY);generalize ag[i]=w at*
    have hst:aI (lY w)= .agg [.int .i64 w.unit,.int .i64 w.par,.int .i64 w.level,.str w.mark,.str w.title,.ah (if w.facts= [] then some false else none) (if w.facts= [] then 0 else 3) (w.facts.map cU)]:=rfl;rw [hst] at htk;unfold aI at hg;clear hst;have hfz:=hso.fz;have hfl:=hso.fl;generalize ((ag.take i).map lY).map aI=DONE at*
    cases hw:w.facts with
    | nil=>rw [hw] at hg htk;simp only [List.map_nil,if_true] at hg htk;simp (maxSteps:=9^9) (disch:=omega) [-List.map_replicate,-List.map_set,-List.getD_eq_getElem?_getD,-getElem?_pos,-getElem?_neg,om,q1,hg,e3,hcl,ae,hpl];exact ⟨i+1,by omega,by omega,by simp,by simp only [List.map_map,List.map_take] at htk;exact ⟨rfl,htk.symm⟩⟩
    | cons f fs=>
     have hfz3:=hfz (by rw [hw];simp);rw [hw] at hg htk hfl;rw [hfz3] at hg;rw [if_neg (by simp)] at htk;simp only [List.map_cons,List.length_cons] at hg htk hfl;have hfp:=gn fs;have hfn:(fs.map cU).length=fs.length:=by simp
     unfold cU at hg htk hfp hfn;generalize fs.map _=Fss at*
     simp (maxSteps:=9^9) (disch:=omega) [-List.map_replicate,-List.map_set,-List.getD_eq_getElem?_getD,-getElem?_pos,-getElem?_neg,om,q1,hg,e3,hcl,ae,hpl,hfp,hfn];exact ⟨i+1,by omega,by omega,by simp,by simp only [List.map_map,List.map_take] at htk;exact ⟨rfl,htk.symm⟩⟩
   ·obtain rfl:i=ag.length:=by omega
    have hpl:=cy ((ag.take ag.length).map lY);rw [List.take_length] at hcl hpl⊢;rw [←hOUT] at hcl hpl⊢;simp (maxSteps:=9^9) (disch:=omega) [-List.map_replicate,-List.map_set,-List.getD_eq_getElem?_getD,-getElem?_pos,-getElem?_neg,om,q1,e3,hcl,ae,hpl,p1,e1]
  | cons y s=>
   have z2:=z2 (by simp);have p2:=ku s;have e2:(s.map bF).length=s.length:=by simp
   simp only [List.length_cons] at l2;rw [z2,List.map_cons];unfold bF at*
   generalize s.map _=L2 at*
   simp (maxSteps:=9^9) (disch:=omega) [-List.map_replicate,-List.map_set,-List.getD_eq_getElem?_getD,-getElem?_pos,-getElem?_neg,om,Ji,p3,e3,ae,ao,bF,p1,e1,p2,e2];refine Wp.aA (fun (i:Nat)=>ag.length-i) (fun i=> [none,some (.ptr 0 0),some (.ptr 1 0),some (.ptr 9 0),some (.int .i64 i),none,none,none,none,none,none,none,none,none,none,none,none,none]) (fun i=> [.var 26 [.ah ln 1 (.str x::L1),.ah bn 4 (.agg [.int .i64 y.el,.str y.lang,.str y.text,.int .i64 y.ix]::L2),.ah sn sz L3],.var 26 [.ay 2 0,.ay 3 0,.ay 4 0],.sl ⟨false,some 9,none⟩ 1 [],.sl ⟨false,some 77,none⟩ 4 [],.sl ⟨false,some 73,none⟩ 6 [],.dead,.sl ⟨false,some 9,none⟩ 1 (.str x::L1),.dead,.sl ⟨false,some 77,none⟩ 4 (.agg [.int .i64 y.el,.str y.lang,.str y.text,.int .i64 y.ix]::L2),.var 26 [.ay 6 (r.length+1),.ay 8 (s.length+1),.ay 10 i],.sl ⟨false,some 73,none⟩ 6 (((ag.take i).map lY).map aI)]) (fun i=>i≤ag.length) ?_ 0 (by omega) (by simp) (by simp);rintro i hil;have hcl:(((ag.take i).map lY).map aI).length=i:=by simp;omega
   by_cases q1:i<ag.length
   ·have hg:=hE i q1;obtain rfl:=z3 (ne_of_lt q1)
    have htk:((ag.take (i+1)).map lY).map aI=((ag.take i).map lY).map aI++ [aI (lY ag[i])]:=by rw [List.take_succ_eq_append_getElem q1,List.map_append,List.map_append];rfl
    have hso:=hsh _ (List.getElem_mem q1);have hpl:=cy ((ag.take i).map lY);generalize ag[i]=w at*
    have hst:aI (lY w)= .agg [.int .i64 w.unit,.int .i64 w.par,.int .i64 w.level,.str w.mark,.str w.title,.ah (if w.facts= [] then some false else none) (if w.facts= [] then 0 else 3) (w.facts.map cU)]:=rfl;rw [hst] at htk;unfold aI at hg;clear hst;have hfz:=hso.fz;have hfl:=hso.fl;generalize ((ag.take i).map lY).map aI=DONE at*
    cases hw:w.facts with
    | nil=>rw [hw] at hg htk;simp only [List.map_nil,if_true] at hg htk;simp (maxSteps:=9^9) (disch:=omega) [-List.map_replicate,-List.map_set,-List.getD_eq_getElem?_getD,-getElem?_pos,-getElem?_neg,om,q1,hg,e3,hcl,ae,hpl];exact ⟨i+1,by omega,by omega,by simp,by simp only [List.map_map,List.map_take] at htk;exact ⟨rfl,htk.symm⟩⟩
    | cons f fs=>
     have hfz3:=hfz (by rw [hw];simp);rw [hw] at hg htk hfl;rw [hfz3] at hg;rw [if_neg (by simp)] at htk;simp only [List.map_cons,List.length_cons] at hg htk hfl;have hfp:=gn fs;have hfn:(fs.map cU).length=fs.length:=by simp
     unfold cU at hg htk hfp hfn;generalize fs.map _=Fss at*
     simp (maxSteps:=9^9) (disch:=omega) [-List.map_replicate,-List.map_set,-List.getD_eq_getElem?_getD,-getElem?_pos,-getElem?_neg,om,q1,hg,e3,hcl,ae,hpl,hfp,hfn];exact ⟨i+1,by omega,by omega,by simp,by simp only [List.map_map,List.map_take] at htk;exact ⟨rfl,htk.symm⟩⟩
   ·obtain rfl:i=ag.length:=by omega
    have hpl:=cy ((ag.take ag.length).map lY);rw [List.take_length] at hcl hpl⊢;rw [←hOUT] at hcl hpl⊢;simp (maxSteps:=9^9) (disch:=omega) [-List.map_replicate,-List.map_set,-List.getD_eq_getElem?_getD,-getElem?_pos,-getElem?_neg,om,q1,e3,hcl,ae,hpl,p1,e1,p2,e2]
theorem la (c:Ct) (hc:c.ok) (root u:Int) (lang:af) (h:(aM Lib.itoa aB c root lang u).2=0):ar cfg 12 [aO c,.int .i64 root,.str lang,.int .i64 u] []=some (.aT [.ah none 3 (aF (aM Lib.itoa aB c root lang u).1),.int .i64 0], []):=by
 unfold aM at h⊢;by_cases h0:cO c root lang=0
 ·rw [if_neg (by simpa using h0)] at h⊢;by_cases h1:dy Lib.itoa c root u= []
  ·rw [if_pos h1] at h;cases h
  ·rw [if_neg h1]
   have e:((cellsOf u (bh c u lang)).map fun z=>(z,bC Lib.itoa aB c lang root z))=((cellsOf u (bh c u lang)).map fun z=>(z,sf Lib.itoa aB c lang root z)):=by have hr:=ei h0;congr 1;funext z;rw [so,if_pos hr]
   rw [e];exact yl c hc root u lang h0 h1
 ·rw [if_pos h0] at h;exact absurd h h0
set_option maxRecDepth 100000
def nr (t:af):Ct:=⟨[[101,110], [100,101]], [⟨1, [100,101], [73,110,104,97,108,116],0⟩,⟨1, [101,110], [67,111,110,116,101,110,116,115],0⟩],
 [⟨7,0,1, [65], [84,111,119,110], [⟨1, [100,101], [65,108,108,101,115]⟩,⟨1, [101,110], [83,101,101,32,91,57,93]⟩],none,3⟩,⟨9,7,3, [],t, [],some true,0⟩],none,1,none,4,none,6⟩
def wj:Ct:=nr [87,97,108,108,115]
def Cn:Ct:=nr [71,97,116,101]
def gf:List (Cell×af):= [((1,7), [49]),((2,7), [102,111,110,100,115,32,84,111,119,110,10,109,97,114,107,32,65,10,49,32,83,101,101,32,91,57,93,10]),((3,1), [67,111,110,116,101,110,116,115]),((4,9), [87,97,108,108,115])]
theorem qX (t:af):(nr t).ok:=⟨by simp [nr],by simp [nr],by simp [nr],by simp [nr],by simp [nr],by simp [nr],fun s hs=>by
 simp only [nr,List.mem_cons,List.not_mem_nil,or_false] at hs;rcases hs with rfl | rfl <;> exact ⟨by simp,by simp⟩⟩
theorem wk:aM Lib.itoa aB wj 7 [101,110] 7=(gf,0):=by decide+kernel
def MQ:pO:=⟨7, [49], [⟨0, [102,111,110,100,115], [49,32,84,111,119,110]⟩,⟨1, [109,97,114,107], [65]⟩,⟨1, [112], [67,111,110,116,101,110,116,115,58,32,83,101,101,32,87,97,108,108,115]⟩]⟩
theorem GY:mc aZ 7 gf=(0,some MQ):=by decide+kernel
theorem Ea:kp (bC Lib.itoa aB Cn [101,110] 7) gf=true:=by decide+kernel
theorem Eb:kp (bC Lib.itoa aB wj [101,110] 7) gf=false:=by decide+kernel
theorem Co:ef (bC Lib.itoa aB wj [101,110] 7) (bC Lib.itoa aB Cn [101,110] 7) [(4,9)]= [(4,9)]:=by decide+kernel
def Lq:List AV:= [.agg [.int .i64 1,.str [100,101],.str [73,110,104,97,108,116],.int .i64 0],.agg [.int .i64 1,.str [101,110],.str [67,111,110,116,101,110,116,115],.int .i64 0]]
def JV:List AV:= [.agg [.int .i64 1,.str [100,101],.str [65,108,108,101,115]],.agg [.int .i64 1,.str [101,110],.str [83,101,101,32,91,57,93]]]
def Lr:List AV:= [.agg [.int .i64 7,.int .i64 0,.int .i64 1,.str [65],.str [84,111,119,110],.ah none 3 JV],.agg [.int .i64 9,.int .i64 7,.int .i64 3,.str [],.str [87,97,108,108,115],.ah (some true) 0 []]]
theorem Jj : ar cfg 36 [] [] = some (.agg [.ay 4 2, .ay 5 2, .ay 7 2], [.var 26 [.ay 4 2, .ay 5 2, .ay 7 2], .sl ⟨false, some 9, none⟩ 1 [], .sl ⟨false, some 77, none⟩ 4 [], .sl ⟨false, some 73, none⟩ 6 [],
     .sl ⟨false, some 9, none⟩ 1 [.str [101, 110], .str [100, 101]],
     .sl ⟨false, some 77, none⟩ 4 Lq,
     .sl ⟨true, some 79, none⟩ 3 JV,
     .sl ⟨false, some 73, none⟩ 6 Lr]) := by
 refine ab Pw Jk ?_;simp (maxSteps:=9^9) (disch:=omega) [-List.map_replicate,-List.map_set,-List.getD_eq_getElem?_getD,-getElem?_pos,-getElem?_neg,om,Ls,ae,Lq,JV,Lr]
theorem Jl : ar cfg 36 [] [.dead] = some (.agg [.ay 5 2, .ay 6 2, .ay 8 2], [.dead, .var 26 [.ay 5 2, .ay 6 2, .ay 8 2], .sl ⟨false, some 9, none⟩ 1 [], .sl ⟨false, some 77, none⟩ 4 [], .sl ⟨false, some 73, none⟩ 6 [],
     .sl ⟨false, some 9, none⟩ 1 [.str [101, 110], .str [100, 101]],
     .sl ⟨false, some 77, none⟩ 4 Lq,
     .sl ⟨true, some 79, none⟩ 3 JV,
     .sl ⟨false, some 73, none⟩ 6 Lr]) := by
 refine ab Pw Jk ?_;simp (maxSteps:=9^9) (disch:=omega) [-List.map_replicate,-List.map_set,-List.getD_eq_getElem?_getD,-getElem?_pos,-getElem?_neg,om,Ls,ae,Lq,JV,Lr]
theorem Jm : ar cfg 36 [] [.var 26 [.ay 5 2, .ay 6 2, .ay 8 2], .var 26 [.ay 5 2, .ay 6 2, .ay 8 2], .sl ⟨false, some 9, none⟩ 1 [], .sl ⟨false, some 77, none⟩ 4 [], .sl ⟨false, some 73, none⟩ 6 [], .sl ⟨true, some 9, none⟩ 1 [.str [101, 110], .str [100, 101]], .sl ⟨true, some 77, none⟩ 4 Lq, .sl ⟨true, some 79, none⟩ 3 JV, .sl ⟨true, some 73, none⟩ 6 Lr, .var 46 [.int .i64 7, .str [49], .ah none 3 [.agg [.int .i64 0, .str [102, 111, 110, 100, 115], .str [49, 32, 84, 111, 119, 110]], .agg [.int .i64 1, .str [109, 97, 114, 107], .str [65]], .agg [.int .i64 1, .str [112], .str [67, 111, 110, 116, 101, 110, 116, 115, 58, 32, 83, 101, 101, 32, 87, 97, 108, 108, 115]]]], .dead] = some (.agg [.ay 15 2, .ay 16 2, .ay 18 2], [.var 26 [.ay 5 2, .ay 6 2, .ay 8 2], .var 26 [.ay 5 2, .ay 6 2, .ay 8 2], .sl ⟨false, some 9, none⟩ 1 [], .sl ⟨false, some 77, none⟩ 4 [], .sl ⟨false, some 73, none⟩ 6 [], .sl ⟨true, some 9, none⟩ 1 [.str [101, 110], .str [100, 101]], .sl ⟨true, some 77, none⟩ 4 Lq, .sl ⟨true, some 79, none⟩ 3 JV, .sl ⟨true, some 73, none⟩ 6 Lr, .var 46 [.int .i64 7, .str [49], .ah none 3 [.agg [.int .i64 0, .str [102, 111, 110, 100, 115], .str [49, 32, 84, 111, 119, 110]], .agg [.int .i64 1, .str [109, 97, 114, 107], .str [65]], .agg [.int .i64 1, .str [112], .str [67, 111, 110, 116, 101, 110, 116, 115, 58, 32, 83, 101, 101, 32, 87, 97, 108, 108, 115]]]], .dead, .var 26 [.ay 15 2, .ay 16 2, .ay 18 2], .sl ⟨false, some 9, none⟩ 1 [], .sl ⟨false, some 77, none⟩ 4 [], .sl ⟨false, some 73, none⟩ 6 [],
     .sl ⟨false, some 9, none⟩ 1 [.str [101, 110], .str [100, 101]],
     .sl ⟨false, some 77, none⟩ 4 Lq,
     .sl ⟨true, some 79, none⟩ 3 JV,
     .sl ⟨false, some 73, none⟩ 6 Lr]) := by
 refine ab Pw Jk ?_;simp (maxSteps:=9^9) (disch:=omega) [-List.map_replicate,-List.map_set,-List.getD_eq_getElem?_getD,-getElem?_pos,-getElem?_neg,om,Ls,ae,Lq,JV,Lr]
theorem wm:ar cfg 10 [] []=some (.bool true, []):=by
 refine ab Wg TW ?_;have hT0:=Jj;have hT1:=Jl;have hT2:=Jm;have h1:=la wj (qX _) 7 7 [101,110] (by rw [wk]);rw [wk] at h1
 have hb: ∀k u,((aJ gf (k,u)).getD []).length≤30:=fun k u=>by
  unfold aJ;cases hf:gf.find? (fun x=>decide (x.1=(k,u))) with
  | none=>simp
  | some x=>
   have hm:=List.mem_of_find?_eq_some hf;have: ∀x∈gf,x.2.length≤30:=by decide
   exact this x hm
 have h2:=wg 7 gf (by simp [gf]) (by simp [gf]) (by have:=hb 1 7;omega) (by have:=hb 2 7;omega) (by decide+kernel) (fun k u _=>by have:=hb k u;omega);rw [GY] at h2;have h3:=Ps none none 3 3 gf gf (fun _=>rfl) (fun _=>rfl) (by simp [gf]) (by simp [gf]);have h4:=iS Cn (qX _) 7 [101,110] none 3 gf (fun _=>rfl) (by simp [gf]);rw [Ea] at h4;have h5:=iS wj (qX _) 7 [101,110] none 3 gf (fun _=>rfl) (by simp [gf]);rw [Eb] at h5;have h6:=k9 wj Cn (qX _) (qX _) 7 [101,110] none 2 [(4,9)] (fun _=>rfl) (by simp);rw [Co] at h6;simp only [aO,bU,wj,Cn,nr,gf,MQ,aF,kr,db,iC,j0,cp,ie,ao,bF,aI,cU,List.map_cons,List.map_nil,decide_true] at h1 h2 h3 h4 h5 h6;simp only [Lq,JV,Lr] at hT0 hT1 hT2;simp (maxSteps:=9^9) (disch:=omega) [-List.map_replicate,-List.map_set,-List.getD_eq_getElem?_getD,-getElem?_pos,-getElem?_neg,om,TX,ae,hT0,hT1,hT2,h1,h2,h3,h4,h5,h6]
set_option maxRecDepth 10000
set_option maxHeartbeats 4000000
theorem yq: ∀(l K:List Cell),(l.foldl gB K).length≤K.length+l.length
 | [],K=>by simp
 | x::r,K=>by
  have h1:=yq r (gB K x);have h2:=qY K x;simp only [List.foldl_cons,List.length_cons];omega
theorem wT (t:af):(iR t).length≤t.length:=by unfold iR;refine Nat.le_trans (List.length_filterMap_le _ _) (by simp)
theorem Cp {N:Nat}: ∀(l:List Fc),(∀f∈l,f.text.length≤N)→(l.flatMap dP).length≤l.length*(N+1)
 | [],_=>by simp
 | f::r,h=>by
  have h1:=Cp r (fun g hg=>h g (by simp [hg]));have h2:=wT f.text;have h3:=h f (by simp);rw [List.flatMap_cons,List.length_append,List.length_cons,Nat.succ_mul];have:(dP f).length=(iR f.text).length+1:=rfl;omega
theorem Ec {c:Ct} (hc:yH c) {u:Int} {lang:af}:(bh c u lang).length≤32∧ ∀f∈bh c u lang,wP c.aa f:=by
 unfold bh;split
 ·unfold dZ;cases hs:bD c u with
  | none=>simp [aC]
  | some s=>obtain ⟨_,_,_,_,hm⟩:=eS hs;have ho:=hc.ag s hm;exact ⟨Nat.le_trans (gH _ _) ho.DX,fun f hf=>ho.facts f (fC hf)⟩
 ·simp
theorem lg (c:Ct) (root u:Int) (lang:af):(aM Lib.itoa aB c root lang u).1.length<1000000:=by
 unfold aM;split
 ·simp
 ·rename_i h0;have h0:cO c root lang=0:=by simpa using h0
  split
  ·simp
  ·have hc:=b9 (dR (ei h0)).1;obtain ⟨h1,h2⟩:=Ec hc (u:=u) (lang:=lang);have h3:=Cp (N:=4096) _ (fun f hf=>(h2 f hf).len);have h4:=yq ((bh c u lang).flatMap dP) [(1,u),(2,u)];have h5:(bh c u lang).length*(4096+1)≤32*(4096+1):=Nat.mul_le_mul_right _ h1;simp only [List.length_map,cellsOf];simp only [List.length_cons,List.length_nil] at h4;omega
structure Xx (c:Ct) (root:Int) (lang:af):Prop where
 one: ∀u,(bC Lib.itoa aB c lang root (1,u)).length≤10000
 two: ∀u,(bC Lib.itoa aB c lang root (2,u)).length<900000
 Wh: ∀u,∀p∈splitB 10 (bC Lib.itoa aB c lang root (2,u)).dropLast,p.length≤300
 more: ∀k u,k=3∨k=4→(bC Lib.itoa aB c lang root (k,u)).length≤1000
open Go.Am Go.ChangeShapes Go.WideShapes Go.RowKit
theorem GZ {ts:List TypeId} {xs:List AV} (h:dx Tryz.prog (28::ts) xs): ∃(x:Cell) (r:List AV),xs=iC x::r∧dx Tryz.prog ts r:=by
 obtain ⟨n,cs,r,rfl,h1,h2⟩:=h;have hfs:Tryz.prog.underlying 28=some (.struct (bN Tryz.prog 28)):=by kernel_rfl
 have hft:(bN Tryz.prog 28).toList.map (·.type)= [3,3]:=by kernel_rfl
 obtain ⟨m,hs⟩:=h1.struct hfs;rw [hft] at hs;obtain ⟨a,r1,rfl,ha,b,r2,rfl,hb,rfl⟩:=hs;obtain ⟨x,rfl,_⟩:=ha.int (k:= .i64) (by kernel_rfl);obtain ⟨y,rfl,_⟩:=hb.int (k:= .i64) (by kernel_rfl);exact ⟨(x,y),r,by rw [hfs];rfl,h2⟩
end Go.Proofs.YtfnkchadeaedlaaGreatDoor
