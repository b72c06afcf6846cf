/-
 Stale and Differ, of the program and of the reference; equal reads. Equal lists of nodes, of cells and of reads; equal sections; copies of lists; a cell in a list. Differ, of the program and of the reference. Catalogs that are few. Reads and catalogs that are few. The copy of a catalog. depend.Reads of a section that there is. The town of the example: what its reads, its sections and its changes are. How long reads and their values are. Cells and reads that come in.
-/
import Derived.Test.YtfnkchadeaedlaaGreatDoorRdM
import Derived.Test.YtfnkchadeaedlaaGreatDoorAdM
import Derived.Test.YtfnkchadeaedlaaGreatDoorDpM
import Derived.Test.YtfnkchadeaedlaaGreatDoorCatM
import Derived.Test.YtfnkchadeaedlaaGreatDoorDqM
import Derived.Test.YtfnkchadeaedlaaGreatDoorRfM
set_option linter.all false
namespace Go.Proofs.YtfnkchadeaedlaaGreatDoor
open Go.Am
set_option maxRecDepth 10000
set_option maxHeartbeats 8000000
theorem ve {c:Ct} {aa:ag} {root:Int} (x:Cell):bI Lib.itoa aQ c aa root x=if bo c aa=true then vL Lib.itoa aQ c aa root x else []:=by
 unfold bI;by_cases h:bo c aa=true
 ·rw [if_pos h,if_pos h,I9 xj (fY (uY h).1)]
 ·rw [if_neg h,if_neg h]
theorem Bh (val:Cell→ag) (r:Cell×ag) (l:List (Cell×ag)):jQ val (r::l)=(decide (val r.1≠r.2) || jQ val l):=rfl
theorem ie (c:Ct) (hc:c.ok) (root:Int) (aa:ag) (nl:Option Bool) (z:Nat) (l:List (Cell×ag)) (hz:l≠ []→z=3) (hl:l.length<1000000):
  aq cfg 21 [bN c,.int .i64 root,.str aa,.ak nl z (aC l)] []=some (.bool (jQ (bI Lib.itoa aQ c aa root) l), []):=by
 refine ab Ty Ry ?_;have w1:=y4 c hc aa;have w2:bo c aa=true→ ∀x:Cell,_:=fun h x=>q9 c hc root aa x h;have hv: ∀x,bI Lib.itoa aQ c aa root x=_:=fun x=>ve x;have hE: ∀k (h:k<l.length),(aC l)[k]?=some (.agg [.int .i64 l[k].1.1,.int .i64 l[k].1.2,.str l[k].2]):=fun k h=>get_map _ _ h;have hEl:(aC l).length=l.length:=by simp [aC]
 generalize aC l=E at*
 generalize bI Lib.itoa aQ c aa root=val at*
 generalize vL Lib.itoa aQ c aa root=vi at*
 generalize bo c aa=rb at*
 unfold bN df at*
 generalize aw c.ae=L1 at*
 generalize c.aA.map dm=L2 at*
 generalize c.ay.map bU=L3 at*
 simp (maxSteps:=9^9) (disch:=omega) [-List.map_replicate,-List.map_set,-List.getD_eq_getElem?_getD,-getElem?_pos,-getElem?_neg,om,Rz,w1,hEl];refine Wp.aX (fun (i:Nat)=>l.length-i) (fun i=> [none,some (.int .i64 root),some (.str aa),none,some (.ptr 0 0),none,some (.bool rb),none,none,none,some (.ak nl z E),some (.int .i64 l.length),some (.int .i64 i),none,none,none,none,none]) (fun _=> [.var 26 [.ak c.ln c.lz L1,.ak c.bn c.bz L2,.ak c.sn c.sz L3]]) (fun i=>jQ val l=jQ val (l.drop i)∧i≤l.length) ?_ 0 ⟨by simp,by omega⟩ (by simp) rfl;rintro i ⟨hi,hil⟩;rw [hi];clear hi;by_cases h1:i<l.length
 ·have hg:=hE i h1;obtain rfl:=hz (ne_of_lt h1);rw [List.drop_eq_getElem_cons h1,Bh];have hvi:=hv l[i].1;have w3:=fun h=>w2 h l[i].1;clear hE w2 hv w1;generalize l[i]=r at*
  obtain ⟨⟨r1,r2⟩,t⟩:=r;simp only at hg hvi w3⊢;rw [hvi];cases rb with
  | true=>
   have w4:=w3 rfl;rw [if_pos rfl];generalize vi (r1,r2)=x at*
   clear w3 hvi;by_cases he:x=t
   ·have he2:(x !=t)=false:=by simp [he]
    rw [show decide (x≠t)=false by simp [he],Bool.false_or];simp (maxSteps:=9^9) (disch:=omega) [-List.map_replicate,-List.map_set,-List.getD_eq_getElem?_getD,-getElem?_pos,-getElem?_neg,om,h1,hg,af,w4,he,he2];exact ⟨i+1,⟨rfl,by omega⟩,by omega,by simp⟩
   ·have he2:(x !=t)=true:=by simpa using he
    rw [show decide (x≠t)=true by simpa using he,Bool.true_or];simp (maxSteps:=9^9) (disch:=omega) [-List.map_replicate,-List.map_set,-List.getD_eq_getElem?_getD,-getElem?_pos,-getElem?_neg,om,h1,hg,af,w4,he,he2]
  | false=>
   rw [if_neg (by simp)];clear w3 hvi;by_cases he:t= []
   ·subst he;rw [show decide (([]:ag)≠ [])=false by simp,Bool.false_or];simp (maxSteps:=9^9) (disch:=omega) [-List.map_replicate,-List.map_set,-List.getD_eq_getElem?_getD,-getElem?_pos,-getElem?_neg,om,h1,hg,af];exact ⟨i+1,⟨rfl,by omega⟩,by omega,by simp⟩
   ·have he2:(([]:ag) !=t)=true:=by simpa using Ne.symm he
    rw [show decide (([]:ag)≠t)=true by simpa using Ne.symm he,Bool.true_or];simp (maxSteps:=9^9) (disch:=omega) [-List.map_replicate,-List.map_set,-List.getD_eq_getElem?_getD,-getElem?_pos,-getElem?_neg,om,h1,hg,af,he,he2]
 ·rw [List.drop_eq_nil_of_le (by omega)];simp (maxSteps:=9^9) (disch:=omega) [-List.map_replicate,-List.map_set,-List.getD_eq_getElem?_getD,-getElem?_pos,-getElem?_neg,om,h1,jQ]
theorem Ho (nl nl':Option Bool) (z z':Nat) (l m:List Nd) (hz:l≠ []→z=3) (hz':m≠ []→z'=3) (hl:l.length<1000000) (hm:m.length<1000000):aq cfg 68 [.ak nl z (l.map ff),.ak nl' z' (m.map ff)] []=some (.bool (decide (l=m)), []):=by
 refine ab Tz RB ?_;have hE: ∀k (h:k<l.length),(l.map ff)[k]?=some (.agg [.int .i64 l[k].depth,.str l[k].tag,.str l[k].text]):=fun k h=>get_map _ _ h;have hE': ∀k (h:k<m.length),(m.map ff)[k]?=some (.agg [.int .i64 m[k].depth,.str m[k].tag,.str m[k].text]):=fun k h=>get_map _ _ h;have hEl:(l.map ff).length=l.length:=by simp
 have hEm:(m.map ff).length=m.length:=by simp
 generalize l.map ff=E at*
 generalize m.map ff=E' at*
 by_cases hlm:l.length=m.length
 case neg=>
  have h2:((l.length:Int) !=(m.length:Int))=true:=by rw [bne_iff_ne];omega
  have h3: ¬ l=m:=fun h=>hlm (by rw [h]);simp (maxSteps:=9^9) (disch:=omega) [-List.map_replicate,-List.map_set,-List.getD_eq_getElem?_getD,-getElem?_pos,-getElem?_neg,om,Nk,hEl,hEm,h2,h3]
 have h2:((l.length:Int) !=(m.length:Int))=false:=by rw [bne_eq_false_iff_eq];omega
 simp (maxSteps:=9^9) (disch:=omega) [-List.map_replicate,-List.map_set,-List.getD_eq_getElem?_getD,-getElem?_pos,-getElem?_neg,om,Nk,hEl,hEm,h2];refine Wp.aX (fun (i:Nat)=>l.length-i) (fun i=> [some (.ak nl z E),some (.ak nl' z' E'),none,some (.int .i64 i),none,none,none]) (fun _=> []) (fun i=>(l=m↔l.drop i=m.drop i)∧i≤l.length) ?_ 0 ⟨by simp,by omega⟩ (by simp) rfl;rintro i ⟨hi,hil⟩;by_cases h1:i<l.length
 ·have h1':i<m.length:=by omega
  have hg:=hE i h1;have hg':=hE' i h1';obtain rfl:=hz (ne_of_lt h1);obtain rfl:=hz' (ne_of_lt h1');rw [List.drop_eq_getElem_cons h1,List.drop_eq_getElem_cons h1',List.cons.injEq] at hi;clear hE hE';generalize l[i]=r at*
  generalize m[i]=r' at*
  obtain ⟨r1,r2,t⟩:=r;obtain ⟨r1',r2',t'⟩:=r';simp only at hg hg';simp (maxSteps:=9^9) (disch:=omega) [-List.map_replicate,-List.map_set,-List.getD_eq_getElem?_getD,-getElem?_pos,-getElem?_neg,om,h1,h1',hg,hg',hEl,hEm];split
  ·rename_i q;intro e;obtain ⟨e1,_⟩:=hi.1 e;simp only [Nd.mk.injEq] at e1;obtain ⟨e2,e3,e4⟩:=e1;rcases q with q | q | q
   ·exact q e2
   ·exact q e3
   ·exact q e4
  ·rename_i q;simp only [not_or,Classical.not_not] at q;obtain ⟨rfl,rfl,rfl⟩:=q;exact ⟨i+1,⟨by rw [hi];simp,by omega⟩,by omega,by simp⟩
 ·rw [List.drop_eq_nil_of_le (by omega),List.drop_eq_nil_of_le (by omega)] at hi;have hi2:l=m:=hi.2 rfl;simp (maxSteps:=9^9) (disch:=omega) [-List.map_replicate,-List.map_set,-List.getD_eq_getElem?_getD,-getElem?_pos,-getElem?_neg,om,h1,hEl,hEm,hi2]
theorem vg (s t:qn) (nl nl':Option Bool) (z z':Nat) (hz:s.nodes≠ []→z=3) (hz':t.nodes≠ []→z'=3) (hl:s.nodes.length<1000000) (hm:t.nodes.length<1000000):
  aq cfg 20 [.agg [.int .i64 s.unit,.str s.num,.ak nl z (s.nodes.map ff)],.agg [.int .i64 t.unit,.str t.num,.ak nl' z' (t.nodes.map ff)]] []=some (.bool (decide (s=t)), []):=by
 refine ab TA RC ?_;have w:=Ho nl nl' z z' s.nodes t.nodes hz hz' hl hm;obtain ⟨a,b,l⟩:=s;obtain ⟨a',b',l'⟩:=t;simp only at w⊢
 have hd:decide (qn.mk a b l=⟨a',b',l'⟩)=(decide (a=a')&&(decide (b=b')&&decide (l=l'))):=by rw [Bool.eq_iff_iff];simp
 rw [hd];generalize decide (l=l')=dl at*
 generalize l.map ff=E at*
 generalize l'.map ff=E' at*
 by_cases h1:a=a'
 ·by_cases h2:b=b'
  ·simp (maxSteps:=9^9) (disch:=omega) [-List.map_replicate,-List.map_set,-List.getD_eq_getElem?_getD,-getElem?_pos,-getElem?_neg,om,Jm,w,h1,h2]
  ·have h2':(b==b')=false:=by simpa using h2
   simp (maxSteps:=9^9) (disch:=omega) [-List.map_replicate,-List.map_set,-List.getD_eq_getElem?_getD,-getElem?_pos,-getElem?_neg,om,Jm,w,h1,h2,h2']
 ·have h1':(a==a')=false:=by simpa using h1
  simp (maxSteps:=9^9) (disch:=omega) [-List.map_replicate,-List.map_set,-List.getD_eq_getElem?_getD,-getElem?_pos,-getElem?_neg,om,Jm,w,h1,h1']
def cN (l:List Cell):List AV:=l.map kF
theorem Nl (nl nl':Option Bool) (z z':Nat) (l m:List (Cell×ag)) (hz:l≠ []→z=3) (hz':m≠ []→z'=3) (hl:l.length<1000000) (hm:m.length<1000000):aq cfg 37 [.ak nl z (aC l),.ak nl' z' (aC m)] []=some (.bool (decide (l=m)), []):=by
 refine ab TB RE ?_;have hE: ∀k (h:k<l.length),(aC l)[k]?=some (.agg [.int .i64 l[k].1.1,.int .i64 l[k].1.2,.str l[k].2]):=fun k h=>get_map _ _ h;have hE': ∀k (h:k<m.length),(aC m)[k]?=some (.agg [.int .i64 m[k].1.1,.int .i64 m[k].1.2,.str m[k].2]):=fun k h=>get_map _ _ h;have hEl:(aC l).length=l.length:=by simp [aC]
 have hEm:(aC m).length=m.length:=by simp [aC]
 generalize aC l=E at*
 generalize aC m=E' at*
 by_cases hlm:l.length=m.length
 case neg=>
  have h2:((l.length:Int) !=(m.length:Int))=true:=by rw [bne_iff_ne];omega
  have h3: ¬ l=m:=fun h=>hlm (by rw [h]);simp (maxSteps:=9^9) (disch:=omega) [-List.map_replicate,-List.map_set,-List.getD_eq_getElem?_getD,-getElem?_pos,-getElem?_neg,om,Nn,hEl,hEm,h2,h3]
 have h2:((l.length:Int) !=(m.length:Int))=false:=by rw [bne_eq_false_iff_eq];omega
 simp (maxSteps:=9^9) (disch:=omega) [-List.map_replicate,-List.map_set,-List.getD_eq_getElem?_getD,-getElem?_pos,-getElem?_neg,om,Nn,hEl,hEm,h2];refine Wp.aX (fun (i:Nat)=>l.length-i) (fun i=> [some (.ak nl z E),some (.ak nl' z' E'),none,none,none,some (.int .i64 l.length),some (.int .i64 i),none,none]) (fun _=> []) (fun i=>(l=m↔l.drop i=m.drop i)∧i≤l.length) ?_ 0 ⟨by simp,by omega⟩ (by simp) rfl;rintro i ⟨hi,hil⟩;by_cases h1:i<l.length
 ·have h1':i<m.length:=by omega
  have hg:=hE i h1;have hg':=hE' i h1';obtain rfl:=hz (ne_of_lt h1);obtain rfl:=hz' (ne_of_lt h1');rw [List.drop_eq_getElem_cons h1,List.drop_eq_getElem_cons h1',List.cons.injEq] at hi;clear hE hE';generalize l[i]=r at*
  generalize m[i]=r' at*
  obtain ⟨⟨r1,r2⟩,t⟩:=r;obtain ⟨⟨r1',r2'⟩,t'⟩:=r';simp only at hg hg';simp (maxSteps:=9^9) (disch:=omega) [-List.map_replicate,-List.map_set,-List.getD_eq_getElem?_getD,-getElem?_pos,-getElem?_neg,om,h1,h1',hg,hg',hEl,hEm];split
  ·rename_i q;intro e;obtain ⟨e1,_⟩:=hi.1 e;simp only [Prod.mk.injEq] at e1;obtain ⟨⟨e2,e3⟩,e4⟩:=e1;rcases q with (q | q) | q
   ·exact q e2
   ·exact q e3
   ·exact q e4
  ·rename_i q;simp only [not_or,Classical.not_not] at q;obtain ⟨⟨rfl,rfl⟩,rfl⟩:=q;exact ⟨i+1,⟨by rw [hi];simp,by omega⟩,by omega,by simp⟩
 ·rw [List.drop_eq_nil_of_le (by omega),List.drop_eq_nil_of_le (by omega)] at hi;have hi2:l=m:=hi.2 rfl;simp (maxSteps:=9^9) (disch:=omega) [-List.map_replicate,-List.map_set,-List.getD_eq_getElem?_getD,-getElem?_pos,-getElem?_neg,om,h1,hEl,hEm,hi2]
theorem Hp (nl:Bool) (z:Nat) (l:List (Cell×ag)) (hz:l≠ []→z=3) (hn:nl=true→l= []) (hl:l.length<1000000): ∃n' z',aq cfg 30 [.ak (some nl) z (aC l)] []=some (.ak n' z' (aC l), [])∧(l≠ []→n'=none∧z'=3):=by
 cases l with
 | nil=>
  cases nl with
  | true=>refine ⟨some true,0,ab No Hq ?_,fun h=>absurd rfl h⟩;simp (maxSteps:=9^9) (disch:=omega) [-List.map_replicate,-List.map_set,-List.getD_eq_getElem?_getD,-getElem?_pos,-getElem?_neg,om,Jn,aC]
  | false=>refine ⟨some false,0,ab No Hq ?_,fun h=>absurd rfl h⟩;simp (maxSteps:=9^9) (disch:=omega) [-List.map_replicate,-List.map_set,-List.getD_eq_getElem?_getD,-getElem?_pos,-getElem?_neg,om,Jn,aC]
 | cons a r=>
  have hnf:nl=false:=by cases nl with | false=>rfl | true=>exact absurd (hn rfl) (by simp)
  subst hnf;obtain rfl:=hz (by simp);have hpl:=bM (a::r);have hEl:(aC (a::r)).length=r.length+1:=by simp [aC]
  have hne:aC (a::r)≠ []:=by simp [aC]
  refine ⟨none,3,ab No Hq ?_,fun h=>⟨rfl,rfl⟩⟩;simp only [List.length_cons] at hl;generalize aC (a::r)=E at*
  simp (maxSteps:=9^9) (disch:=omega) [-List.map_replicate,-List.map_set,-List.getD_eq_getElem?_getD,-getElem?_pos,-getElem?_neg,om,Jn,hEl,hpl]
theorem eY: ∀l:List Cell,aj (cN l)=true
 | []=>rfl
 | x::r=>by simp [cN,kF,aj,AV.plain];exact eY r
theorem yA (f g:Cell→ag) (x:Cell) (l:List Cell):dJ f g (x::l)=if f x=g x then dJ f g l else x::dJ f g l:=by
 unfold dJ;rw [List.filter_cons];by_cases h:f x=g x
 ·rw [if_neg (by simpa using h),if_pos h]
 ·rw [if_pos (by simpa using h),if_neg h]
theorem kB (a b:Ct) (ha:a.ok) (hb:b.ok) (root:Int) (aa:ag) (nl:Option Bool) (z:Nat) (l:List Cell) (hz:l≠ []→z=2) (hl:l.length<1000000):
  aq cfg 24 [bN a,bN b,.int .i64 root,.str aa,.ak nl z (cN l)] []=some (.ak none 2 (cN (dJ (bI Lib.itoa aQ a aa root) (bI Lib.itoa aQ b aa root) l)), []):=by
 refine ab TC RF ?_;have w1: ∀x:Cell,_:=fun x=>nj a ha root aa x;have w2: ∀x:Cell,_:=fun x=>nj b hb root aa x;simp only [←ve] at w1 w2;have hE: ∀k (h:k<l.length),(cN l)[k]?=some (.agg [.int .i64 l[k].1,.int .i64 l[k].2]):=fun k h=>get_map _ _ h;have hEl:(cN l).length=l.length:=by simp [cN]
 generalize cN l=E at*
 generalize bI Lib.itoa aQ a aa root=va at*
 generalize bI Lib.itoa aQ b aa root=vb at*
 unfold bN df at*
 generalize aw a.ae=L1 at*
 generalize a.aA.map dm=L2 at*
 generalize a.ay.map bU=L3 at*
 generalize aw b.ae=M1 at*
 generalize b.aA.map dm=M2 at*
 generalize b.ay.map bU=M3 at*
 simp (maxSteps:=9^9) (disch:=omega) [-List.map_replicate,-List.map_set,-List.getD_eq_getElem?_getD,-getElem?_pos,-getElem?_neg,om,RG,hEl];refine Wp.aX (fun (x:Nat×List Cell)=>l.length-x.1) (fun x=> [none,none,some (.int .i64 root),some (.str aa),none,some (.ptr 0 0),some (.ptr 1 0),none,some (.az 2 x.2.length),none,some (.ak nl z E),some (.int .i64 l.length),some (.int .i64 x.1),none,none,none,none,none,none,none]) (fun x=> [.var 26 [.ak a.ln a.lz L1,.ak a.bn a.bz L2,.ak a.sn a.sz L3],.var 26 [.ak b.ln b.lz M1,.ak b.bn b.bz M2,.ak b.sn b.sz M3],.sl ⟨false,some 28,none⟩ 2 (cN x.2)]) (fun x=>dJ va vb l=x.2++dJ va vb (l.drop x.1)∧x.1≤l.length∧x.2.length≤x.1) ?_ (0, []) ⟨by simp,by simp,by simp⟩ (by simp) (by simp [cN]);rintro ⟨i,out⟩ ⟨hi,hil,hol⟩;simp only at hi hil hol⊢;rw [hi];clear hi;have hol2:(cN out).length=out.length:=by simp [cN]
 by_cases h1:i<l.length
 ·have hg:=hE i h1;obtain rfl:=hz (ne_of_lt h1);rw [List.drop_eq_getElem_cons h1,yA];have w3:=w1 l[i];have w4:=w2 l[i];clear hE w1 w2;generalize l[i]=r at*
  obtain ⟨r1,r2⟩:=r;simp only at hg w3 w4⊢;generalize va (r1,r2)=x at*
  generalize vb (r1,r2)=y at*
  by_cases he:x=y
  ·rw [if_pos he];have he2:(x !=y)=false:=by simp [he]
   simp (maxSteps:=9^9) (disch:=omega) [-List.map_replicate,-List.map_set,-List.getD_eq_getElem?_getD,-getElem?_pos,-getElem?_neg,om,h1,hg,hEl,af,w3,w4,he,he2];exact ⟨i+1,out,⟨rfl,by omega,by omega⟩,by omega,by simp,rfl⟩
  ·rw [if_neg he];have he2:(x !=y)=true:=by simpa using he
   simp (maxSteps:=9^9) (disch:=omega) [-List.map_replicate,-List.map_set,-List.getD_eq_getElem?_getD,-getElem?_pos,-getElem?_neg,om,h1,hg,hEl,af,w3,w4,he,he2,hol2];exact ⟨i+1,out++ [(r1,r2)],⟨by simp,by omega,by simp;omega⟩,by omega,by simp,by simp [cN,kF]⟩
 ·rw [List.drop_eq_nil_of_le (by omega)];have hpl:=eY out;simp (maxSteps:=9^9) (disch:=omega) [-List.map_replicate,-List.map_set,-List.getD_eq_getElem?_getD,-getElem?_pos,-getElem?_neg,om,h1,hEl,dJ,hpl]
theorem D2 (nl:Option Bool) (z:Nat) (l:List (Cell×ag)) (hz:l≠ []→z=3) (hl:l.length≤9223372036854775807): ∃b,aq cfg 29 [.ak nl z (aC l)] []=some (.bool b, [])∧(b=true→l.length≤30∧ ∀r∈l,r.2.length≤1000):=by
 refine ⟨(l.all fun r=>decide (r.2.length≤1000))&&decide (l.length≤30),ab TD RH ?_,fun h=>by
  simp only [Bool.and_eq_true,List.all_eq_true,decide_eq_true_eq] at h;exact ⟨h.2,h.1⟩⟩
 have hE: ∀k (h:k<l.length),(aC l)[k]?=some (.agg [.int .i64 l[k].1.1,.int .i64 l[k].1.2,.str l[k].2]):=fun k h=>get_map _ _ h;have hEl:(aC l).length=l.length:=by simp [aC]
 generalize aC l=E at*
 simp (maxSteps:=9^9) (disch:=omega) [-List.map_replicate,-List.map_set,-List.getD_eq_getElem?_getD,-getElem?_pos,-getElem?_neg,om,RI];refine Wp.aX (fun (i:Nat)=>l.length-i) (fun i=> [some (.ak nl z E),none,some (.int .i64 i),none,none]) (fun _=> []) (fun i=>(l.all fun r=>decide (r.2.length≤1000))=((l.drop i).all fun r=>decide (r.2.length≤1000))∧i≤l.length) ?_ 0 ⟨by simp,by omega⟩ (by simp) rfl;rintro i ⟨hi,hil⟩;rw [hi];clear hi;by_cases h1:i<l.length
 ·have hg:=hE i h1;obtain rfl:=hz (ne_of_lt h1);rw [List.drop_eq_getElem_cons h1,List.all_cons];clear hE;generalize l[i]=r at*
  by_cases h2:r.2.length≤1000
  ·rw [show decide (r.2.length≤1000)=true by simpa using h2,Bool.true_and];generalize hq:((l.drop (i+1)).all fun r=>decide (r.2.length≤1000))=q at*
   simp (maxSteps:=9^9) (disch:=omega) [-List.map_replicate,-List.map_set,-List.getD_eq_getElem?_getD,-getElem?_pos,-getElem?_neg,om,h1,hg,hEl,h2];exact ⟨i+1,⟨hq.symm,by omega⟩,by omega,by simp⟩
  ·rw [show decide (r.2.length≤1000)=false by simpa using h2,Bool.false_and,Bool.false_and];simp (maxSteps:=9^9) (disch:=omega) [-List.map_replicate,-List.map_set,-List.getD_eq_getElem?_getD,-getElem?_pos,-getElem?_neg,om,h1,hg,hEl,h2]
 ·rw [List.drop_eq_nil_of_le (by omega),List.all_nil,Bool.true_and];by_cases h3:l.length≤30
  ·simp (maxSteps:=9^9) (disch:=omega) [-List.map_replicate,-List.map_set,-List.getD_eq_getElem?_getD,-getElem?_pos,-getElem?_neg,om,h1,hEl,h3]
  ·simp (maxSteps:=9^9) (disch:=omega) [-List.map_replicate,-List.map_set,-List.getD_eq_getElem?_getD,-getElem?_pos,-getElem?_neg,om,h1,hEl,h3]
theorem kC (c:Ct) (hc:c.ok) (root u:Int) (aa:ag) (h:(bD Lib.itoa aQ c root aa u).2=0):aq cfg 12 [bN c,.int .i64 root,.str aa,.int .i64 u] []=some (.aI [.ak none 3 (aC (bD Lib.itoa aQ c root aa u).1),.int .i64 0], []):=by
 unfold bD at h⊢;by_cases h0:iv c root aa=0
 ·rw [if_neg (by simpa using h0)] at h⊢;by_cases h1:fo Lib.itoa c root u= []
  ·rw [if_pos h1] at h;cases h
  ·rw [if_neg h1]
   have e:((cellsOf u (bQ c u aa)).map fun z=>(z,bI Lib.itoa aQ c aa root z))=((cellsOf u (bQ c u aa)).map fun z=>(z,vL Lib.itoa aQ c aa root z)):=by have hr:=lx h0;congr 1;funext z;rw [ve,if_pos hr]
   rw [e];exact E5 c hc root u aa h0 h1
 ·rw [if_pos h0] at h;exact absurd h h0
set_option maxRecDepth 100000
def mF (t:ag):Ct:=⟨[[101,110], [100,101]], [⟨1, [100,101], [73,110,104,97,108,116],0⟩,⟨1, [101,110], [67,111,110,116,101,110,116,115],0⟩],
 [⟨7,0,1, [65], [84,111,119,110], [⟨1, [100,101], [65,108,108,101,115]⟩,⟨1, [101,110], [83,101,101,32,91,57,93]⟩],none,3⟩,⟨9,7,3, [],t, [],some true,0⟩],none,1,none,4,none,6⟩
def vj:Ct:=mF [87,97,108,108,115]
def Bi:Ct:=mF [71,97,116,101]
def fD:List (Cell×ag):= [((1,7), [49]),((2,7), [102,111,110,100,115,32,84,111,119,110,10,109,97,114,107,32,65,10,49,32,83,101,101,32,91,57,93,10]),((3,1), [67,111,110,116,101,110,116,115]),((4,9), [87,97,108,108,115])]
theorem ql (t:ag):(mF t).ok:=⟨by simp [mF],by simp [mF],by simp [mF],by simp [mF],by simp [mF],by simp [mF],fun s hs=>by
 simp only [mF,List.mem_cons,List.not_mem_nil,or_false] at hs;rcases hs with rfl | rfl <;> exact ⟨by simp,by simp⟩⟩
theorem vn:bD Lib.itoa aQ vj 7 [101,110] 7=(fD,0):=by decide+kernel
def KF:qn:=⟨7, [49], [⟨0, [102,111,110,100,115], [49,32,84,111,119,110]⟩,⟨1, [109,97,114,107], [65]⟩,⟨1, [112], [67,111,110,116,101,110,116,115,58,32,83,101,101,32,87,97,108,108,115]⟩]⟩
theorem Fm:iU al 7 fD=(0,some KF):=by decide+kernel
theorem CV:jQ (bI Lib.itoa aQ Bi [101,110] 7) fD=true:=by decide+kernel
theorem CW:jQ (bI Lib.itoa aQ vj [101,110] 7) fD=false:=by decide+kernel
theorem Bj:dJ (bI Lib.itoa aQ vj [101,110] 7) (bI Lib.itoa aQ Bi [101,110] 7) [(4,9)]= [(4,9)]:=by decide+kernel
def Jo:List AV:= [.agg [.int .i64 1,.str [100,101],.str [73,110,104,97,108,116],.int .i64 0],.agg [.int .i64 1,.str [101,110],.str [67,111,110,116,101,110,116,115],.int .i64 0]]
def HQ:List AV:= [.agg [.int .i64 1,.str [100,101],.str [65,108,108,101,115]],.agg [.int .i64 1,.str [101,110],.str [83,101,101,32,91,57,93]]]
def Jp:List AV:= [.agg [.int .i64 7,.int .i64 0,.int .i64 1,.str [65],.str [84,111,119,110],.ak none 3 HQ],.agg [.int .i64 9,.int .i64 7,.int .i64 3,.str [],.str [87,97,108,108,115],.ak (some true) 0 []]]
theorem Hr : aq cfg 36 [] [] = some (.agg [.az 4 2, .az 5 2, .az 7 2], [.var 26 [.az 4 2, .az 5 2, .az 7 2], .sl ⟨false, some 9, none⟩ 1 [], .sl ⟨false, some 77, none⟩ 4 [], .sl ⟨false, some 73, none⟩ 6 [],
     .sl ⟨false, some 9, none⟩ 1 [.str [101, 110], .str [100, 101]],
     .sl ⟨false, some 77, none⟩ 4 Jo,
     .sl ⟨true, some 79, none⟩ 3 HQ,
     .sl ⟨false, some 73, none⟩ 6 Jp]) := by
 refine ab Np Hs ?_;simp (maxSteps:=9^9) (disch:=omega) [-List.map_replicate,-List.map_set,-List.getD_eq_getElem?_getD,-getElem?_pos,-getElem?_neg,om,Jq,af,Jo,HQ,Jp]
theorem Ht : aq cfg 36 [] [.dead] = some (.agg [.az 5 2, .az 6 2, .az 8 2], [.dead, .var 26 [.az 5 2, .az 6 2, .az 8 2], .sl ⟨false, some 9, none⟩ 1 [], .sl ⟨false, some 77, none⟩ 4 [], .sl ⟨false, some 73, none⟩ 6 [],
     .sl ⟨false, some 9, none⟩ 1 [.str [101, 110], .str [100, 101]],
     .sl ⟨false, some 77, none⟩ 4 Jo,
     .sl ⟨true, some 79, none⟩ 3 HQ,
     .sl ⟨false, some 73, none⟩ 6 Jp]) := by
 refine ab Np Hs ?_;simp (maxSteps:=9^9) (disch:=omega) [-List.map_replicate,-List.map_set,-List.getD_eq_getElem?_getD,-getElem?_pos,-getElem?_neg,om,Jq,af,Jo,HQ,Jp]
theorem Hu : aq cfg 36 [] [.var 26 [.az 5 2, .az 6 2, .az 8 2], .var 26 [.az 5 2, .az 6 2, .az 8 2], .sl ⟨false, some 9, none⟩ 1 [], .sl ⟨false, some 77, none⟩ 4 [], .sl ⟨false, some 73, none⟩ 6 [], .sl ⟨true, some 9, none⟩ 1 [.str [101, 110], .str [100, 101]], .sl ⟨true, some 77, none⟩ 4 Jo, .sl ⟨true, some 79, none⟩ 3 HQ, .sl ⟨true, some 73, none⟩ 6 Jp, .var 46 [.int .i64 7, .str [49], .ak none 3 [.agg [.int .i64 0, .str [102, 111, 110, 100, 115], .str [49, 32, 84, 111, 119, 110]], .agg [.int .i64 1, .str [109, 97, 114, 107], .str [65]], .agg [.int .i64 1, .str [112], .str [67, 111, 110, 116, 101, 110, 116, 115, 58, 32, 83, 101, 101, 32, 87, 97, 108, 108, 115]]]], .dead] = some (.agg [.az 15 2, .az 16 2, .az 18 2], [.var 26 [.az 5 2, .az 6 2, .az 8 2], .var 26 [.az 5 2, .az 6 2, .az 8 2], .sl ⟨false, some 9, none⟩ 1 [], .sl ⟨false, some 77, none⟩ 4 [], .sl ⟨false, some 73, none⟩ 6 [], .sl ⟨true, some 9, none⟩ 1 [.str [101, 110], .str [100, 101]], .sl ⟨true, some 77, none⟩ 4 Jo, .sl ⟨true, some 79, none⟩ 3 HQ, .sl ⟨true, some 73, none⟩ 6 Jp, .var 46 [.int .i64 7, .str [49], .ak none 3 [.agg [.int .i64 0, .str [102, 111, 110, 100, 115], .str [49, 32, 84, 111, 119, 110]], .agg [.int .i64 1, .str [109, 97, 114, 107], .str [65]], .agg [.int .i64 1, .str [112], .str [67, 111, 110, 116, 101, 110, 116, 115, 58, 32, 83, 101, 101, 32, 87, 97, 108, 108, 115]]]], .dead, .var 26 [.az 15 2, .az 16 2, .az 18 2], .sl ⟨false, some 9, none⟩ 1 [], .sl ⟨false, some 77, none⟩ 4 [], .sl ⟨false, some 73, none⟩ 6 [],
     .sl ⟨false, some 9, none⟩ 1 [.str [101, 110], .str [100, 101]],
     .sl ⟨false, some 77, none⟩ 4 Jo,
     .sl ⟨true, some 79, none⟩ 3 HQ,
     .sl ⟨false, some 73, none⟩ 6 Jp]) := by
 refine ab Np Hs ?_;simp (maxSteps:=9^9) (disch:=omega) [-List.map_replicate,-List.map_set,-List.getD_eq_getElem?_getD,-getElem?_pos,-getElem?_neg,om,Jq,af,Jo,HQ,Jp]
theorem vo:aq cfg 10 [] []=some (.bool true, []):=by
 refine ab TE RJ ?_;have hT0:=Hr;have hT1:=Ht;have hT2:=Hu;have h1:=kC vj (ql _) 7 7 [101,110] (by rw [vn]);rw [vn] at h1
 have hb: ∀k u,((au fD (k,u)).getD []).length≤30:=fun k u=>by
  unfold au;cases hf:fD.find? (fun x=>decide (x.1=(k,u))) with
  | none=>simp
  | some x=>
   have hm:=List.mem_of_find?_eq_some hf;have: ∀x∈fD,x.2.length≤30:=by decide
   exact this x hm
 have h2:=u6 7 fD (by simp [fD]) (by simp [fD]) (by have:=hb 1 7;omega) (by have:=hb 2 7;omega) (by decide+kernel) (fun k u _=>by have:=hb k u;omega);rw [Fm] at h2;have h3:=Nl none none 3 3 fD fD (fun _=>rfl) (fun _=>rfl) (by simp [fD]) (by simp [fD]);have h4:=ie Bi (ql _) 7 [101,110] none 3 fD (fun _=>rfl) (by simp [fD]);rw [CV] at h4;have h5:=ie vj (ql _) 7 [101,110] none 3 fD (fun _=>rfl) (by simp [fD]);rw [CW] at h5;have h6:=kB vj Bi (ql _) (ql _) 7 [101,110] none 2 [(4,9)] (fun _=>rfl) (by simp);rw [Bj] at h6;simp only [bN,df,vj,Bi,mF,fD,KF,aC,ky,cN,kF,cZ,cD,ff,aw,dm,bU,fV,List.map_cons,List.map_nil,decide_true] at h1 h2 h3 h4 h5 h6;simp only [Jo,HQ,Jp] at hT0 hT1 hT2;simp (maxSteps:=9^9) (disch:=omega) [-List.map_replicate,-List.map_set,-List.getD_eq_getElem?_getD,-getElem?_pos,-getElem?_neg,om,RL,af,hT0,hT1,hT2,h1,h2,h3,h4,h5,h6]
set_option maxRecDepth 10000
set_option maxHeartbeats 4000000
structure UG (c:Ct) (root:Int) (aa:ag):Prop where
 one: ∀u,(bI Lib.itoa aQ c aa root (1,u)).length≤10000
 two: ∀u,(bI Lib.itoa aQ c aa root (2,u)).length<900000
 TF: ∀u,∀p∈splitB 10 (bI Lib.itoa aQ c aa root (2,u)).dropLast,p.length≤300
 more: ∀k u,k=3∨k=4→(bI Lib.itoa aQ c aa root (k,u)).length≤1000
open Go.Am Go.ChangeShapes Go.WideShapes Go.RowKit
theorem Hv {m:Nat} {cs:List AV} (h:nG Tryz.prog m 57 cs): ∃n:Cell×ag,True∧bg (lG (Tryz.prog.underlying 57)) cs=ky n:=by
 have hfs:Tryz.prog.underlying 57=some (.struct (cI Tryz.prog 57)):=by kernel_rfl
 have hft:(cI Tryz.prog 57).toList.map (·.type)= [28,9]:=by kernel_rfl
 have hfs2:Tryz.prog.underlying 28=some (.struct (cI Tryz.prog 28)):=by kernel_rfl
 have hft2:(cI Tryz.prog 28).toList.map (·.type)= [3,3]:=by kernel_rfl
 obtain ⟨m,hs⟩:=h.struct hfs;rw [hft] at hs;obtain ⟨a,r,rfl,ha,b,r2,rfl,hb,rfl⟩:=hs;obtain ⟨m2,hs2⟩:=ha.struct hfs2;rw [hft2] at hs2;obtain ⟨c,r3,rfl,hc,d,r4,rfl,hd,rfl⟩:=hs2;obtain ⟨x,rfl,_⟩:=hc.int (k:= .i64) (by kernel_rfl);obtain ⟨y,rfl,_⟩:=hd.int (k:= .i64) (by kernel_rfl);obtain ⟨s,rfl,_⟩:=hb.str (by kernel_rfl);exact ⟨((x,y),s),trivial,by rw [hfs];rfl⟩
theorem Bk {ts:List TypeId} {xs:List AV} (h:ey Tryz.prog (31::ts) xs): ∃(nl:Bool) (z:Nat) (l:List (Cell×ag)) (r:List AV),xs= .ak (some nl) z (aC l)::r∧(l≠ []→z=3)∧(nl=true→l= [])∧l.length≤maxLen∧ey Tryz.prog ts r:=by obtain ⟨n,cs,r,rfl,h1,h2⟩:=h;obtain ⟨n1,z1,l1,rfl,p1,q1,s1,_⟩:=h1.Gp (e:=57) ky (fun _=>True) (by kernel_rfl) 3 (by kernel_rfl) (by decide) (fun m cs h=>Hv h);exact ⟨n1,z1,l1,r,by rw [show Tryz.prog.underlying 31=some (.slice 57) by kernel_rfl];rfl,fun hl=>p1 0 (List.length_pos_iff.2 hl),fun h=>(q1 h).2,s1,h2⟩
end Go.Proofs.YtfnkchadeaedlaaGreatDoor
