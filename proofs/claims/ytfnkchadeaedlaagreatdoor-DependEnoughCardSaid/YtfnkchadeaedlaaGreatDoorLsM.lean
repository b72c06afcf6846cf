/-
 Stale and Differ, of the program and of the reference; equal reads. Equal lists of nodes, of cells and of reads; equal sections; copies of lists; a cell in a list. Differ, of the program and of the reference. Catalogs that are few. Reads and catalogs that are few. The copy of a catalog. depend.Reads of a section that there is. The town of the example: what its reads, its sections and its changes are. How long reads and their values are. Cells and reads that come in.
-/
import Derived.Test.YtfnkchadeaedlaaGreatDoorRdM
import Derived.Test.YtfnkchadeaedlaaGreatDoorAdM
import Derived.Test.YtfnkchadeaedlaaGreatDoorDpM
import Derived.Test.YtfnkchadeaedlaaGreatDoorCatM
import Derived.Test.YtfnkchadeaedlaaGreatDoorDqM
import Derived.Test.YtfnkchadeaedlaaGreatDoorRfM
set_option linter.all false
namespace Go.Proofs.YtfnkchadeaedlaaGreatDoor
open Go.Am
set_option maxRecDepth 10000
set_option maxHeartbeats 8000000
theorem vM {c:Ct} {lang:ae} {root:Int} (x:Cell):aS Lib.itoa esc c lang root x=if aU c lang=true then vE Lib.itoa esc c lang root x else []:=by
 unfold aS;by_cases h:aU c lang=true
 ·rw [if_pos h,if_pos h,Ey xM (cE (dt h).1)]
 ·rw [if_neg h,if_neg h]
theorem BO (val:Cell→ae) (r:Cell×ae) (l:List (Cell×ae)):eU val (r::l)=(decide (val r.1≠r.2) || eU val l):=rfl
theorem iJ (c:Ct) (hc:c.ok) (root:Int) (lang:ae) (nl:Option Bool) (z:Nat) (l:List (Cell×ae)) (hz:l≠ []→z=3) (hl:l.length<1000000):
  ar cfg 21 [bM c,.int .i64 root,.str lang,.ah nl z (br l)] []=some (.bool (eU (aS Lib.itoa esc c lang root) l), []):=by
 refine ad TH RW ?_;have w1:=zD c hc lang;have w2:aU c lang=true→ ∀x:Cell,_:=fun h x=>rW c hc root lang x h;have hv: ∀x,aS Lib.itoa esc c lang root x=_:=fun x=>vM x;have hE: ∀k (h:k<l.length),(br l)[k]?=some (.agg [.int .i64 l[k].1.1,.int .i64 l[k].1.2,.str l[k].2]):=fun k h=>get_map _ _ h;have hEl:(br l).length=l.length:=by simp [br]
 generalize br l=E at*
 generalize aS Lib.itoa esc c lang root=val at*
 generalize vE Lib.itoa esc c lang root=vi at*
 generalize aU c lang=rb at*
 unfold bM di at*
 generalize au c.aa=L1 at*
 generalize c.av.map cM=L2 at*
 generalize c.an.map bk=L3 at*
 simp (maxSteps:=9^9) (disch:=omega) [-List.map_replicate,-List.map_set,-List.getD_eq_getElem?_getD,-getElem?_pos,-getElem?_neg,om,RX,w1,hEl];refine Wp.bw (fun (i:Nat)=>l.length-i) (fun i=> [none,some (.int .i64 root),some (.str lang),none,some (.ptr 0 0),none,some (.bool rb),none,none,none,some (.ah nl z E),some (.int .i64 l.length),some (.int .i64 i),none,none,none,none,none]) (fun _=> [.var 26 [.ah c.ln c.lz L1,.ah c.bn c.bz L2,.ah c.sn c.sz L3]]) (fun i=>eU val l=eU val (l.drop i)∧i≤l.length) ?_ 0 ⟨by simp,by omega⟩ (by simp) rfl;rintro i ⟨hi,hil⟩;rw [hi];clear hi;by_cases h1:i<l.length
 ·have hg:=hE i h1;obtain rfl:=hz (ne_of_lt h1);rw [List.drop_eq_getElem_cons h1,BO];have hvi:=hv l[i].1;have w3:=fun h=>w2 h l[i].1;clear hE w2 hv w1;generalize l[i]=r at*
  obtain ⟨⟨r1,r2⟩,t⟩:=r;simp only at hg hvi w3⊢;rw [hvi];cases rb with
  | true=>
   have w4:=w3 rfl;rw [if_pos rfl];generalize vi (r1,r2)=x at*
   clear w3 hvi;by_cases he:x=t
   ·have he2:(x !=t)=false:=by simp [he]
    rw [show decide (x≠t)=false by simp [he],Bool.false_or];simp (maxSteps:=9^9) (disch:=omega) [-List.map_replicate,-List.map_set,-List.getD_eq_getElem?_getD,-getElem?_pos,-getElem?_neg,om,h1,hg,af,w4,he,he2];exact ⟨i+1,⟨rfl,by omega⟩,by omega,by simp⟩
   ·have he2:(x !=t)=true:=by simpa using he
    rw [show decide (x≠t)=true by simpa using he,Bool.true_or];simp (maxSteps:=9^9) (disch:=omega) [-List.map_replicate,-List.map_set,-List.getD_eq_getElem?_getD,-getElem?_pos,-getElem?_neg,om,h1,hg,af,w4,he,he2]
  | false=>
   rw [if_neg (by simp)];clear w3 hvi;by_cases he:t= []
   ·subst he;rw [show decide (([]:ae)≠ [])=false by simp,Bool.false_or];simp (maxSteps:=9^9) (disch:=omega) [-List.map_replicate,-List.map_set,-List.getD_eq_getElem?_getD,-getElem?_pos,-getElem?_neg,om,h1,hg,af];exact ⟨i+1,⟨rfl,by omega⟩,by omega,by simp⟩
   ·have he2:(([]:ae) !=t)=true:=by simpa using Ne.symm he
    rw [show decide (([]:ae)≠t)=true by simpa using Ne.symm he,Bool.true_or];simp (maxSteps:=9^9) (disch:=omega) [-List.map_replicate,-List.map_set,-List.getD_eq_getElem?_getD,-getElem?_pos,-getElem?_neg,om,h1,hg,af,he,he2]
 ·rw [List.drop_eq_nil_of_le (by omega)];simp (maxSteps:=9^9) (disch:=omega) [-List.map_replicate,-List.map_set,-List.getD_eq_getElem?_getD,-getElem?_pos,-getElem?_neg,om,h1,eU]
theorem Is (nl nl':Option Bool) (z z':Nat) (l m:List Nd) (hz:l≠ []→z=3) (hz':m≠ []→z'=3) (hl:l.length<1000000) (hm:m.length<1000000):ar cfg 68 [.ah nl z (l.map gO),.ah nl' z' (m.map gO)] []=some (.bool (decide (l=m)), []):=by
 refine ad TJ RY ?_;have hE: ∀k (h:k<l.length),(l.map gO)[k]?=some (.agg [.int .i64 l[k].depth,.str l[k].tag,.str l[k].text]):=fun k h=>get_map _ _ h;have hE': ∀k (h:k<m.length),(m.map gO)[k]?=some (.agg [.int .i64 m[k].depth,.str m[k].tag,.str m[k].text]):=fun k h=>get_map _ _ h;have hEl:(l.map gO).length=l.length:=by simp
 have hEm:(m.map gO).length=m.length:=by simp
 generalize l.map gO=E at*
 generalize m.map gO=E' at*
 by_cases hlm:l.length=m.length
 case neg=>
  have h2:((l.length:Int) !=(m.length:Int))=true:=by rw [bne_iff_ne];omega
  have h3: ¬ l=m:=fun h=>hlm (by rw [h]);simp (maxSteps:=9^9) (disch:=omega) [-List.map_replicate,-List.map_set,-List.getD_eq_getElem?_getD,-getElem?_pos,-getElem?_neg,om,N3,hEl,hEm,h2,h3]
 have h2:((l.length:Int) !=(m.length:Int))=false:=by rw [bne_eq_false_iff_eq];omega
 simp (maxSteps:=9^9) (disch:=omega) [-List.map_replicate,-List.map_set,-List.getD_eq_getElem?_getD,-getElem?_pos,-getElem?_neg,om,N3,hEl,hEm,h2];refine Wp.bw (fun (i:Nat)=>l.length-i) (fun i=> [some (.ah nl z E),some (.ah nl' z' E'),none,some (.int .i64 i),none,none,none]) (fun _=> []) (fun i=>(l=m↔l.drop i=m.drop i)∧i≤l.length) ?_ 0 ⟨by simp,by omega⟩ (by simp) rfl;rintro i ⟨hi,hil⟩;by_cases h1:i<l.length
 ·have h1':i<m.length:=by omega
  have hg:=hE i h1;have hg':=hE' i h1';obtain rfl:=hz (ne_of_lt h1);obtain rfl:=hz' (ne_of_lt h1');rw [List.drop_eq_getElem_cons h1,List.drop_eq_getElem_cons h1',List.cons.injEq] at hi;clear hE hE';generalize l[i]=r at*
  generalize m[i]=r' at*
  obtain ⟨r1,r2,t⟩:=r;obtain ⟨r1',r2',t'⟩:=r';simp only at hg hg';simp (maxSteps:=9^9) (disch:=omega) [-List.map_replicate,-List.map_set,-List.getD_eq_getElem?_getD,-getElem?_pos,-getElem?_neg,om,h1,h1',hg,hg',hEl,hEm];split
  ·rename_i q;intro e;obtain ⟨e1,_⟩:=hi.1 e;simp only [Nd.mk.injEq] at e1;obtain ⟨e2,e3,e4⟩:=e1;rcases q with q | q | q
   ·exact q e2
   ·exact q e3
   ·exact q e4
  ·rename_i q;simp only [not_or,Classical.not_not] at q;obtain ⟨rfl,rfl,rfl⟩:=q;exact ⟨i+1,⟨by rw [hi];simp,by omega⟩,by omega,by simp⟩
 ·rw [List.drop_eq_nil_of_le (by omega),List.drop_eq_nil_of_le (by omega)] at hi;have hi2:l=m:=hi.2 rfl;simp (maxSteps:=9^9) (disch:=omega) [-List.map_replicate,-List.map_set,-List.getD_eq_getElem?_getD,-getElem?_pos,-getElem?_neg,om,h1,hEl,hEm,hi2]
theorem vN (s t:tf) (nl nl':Option Bool) (z z':Nat) (hz:s.nodes≠ []→z=3) (hz':t.nodes≠ []→z'=3) (hl:s.nodes.length<1000000) (hm:t.nodes.length<1000000):
  ar cfg 20 [.agg [.int .i64 s.unit,.str s.num,.ah nl z (s.nodes.map gO)],.agg [.int .i64 t.unit,.str t.num,.ah nl' z' (t.nodes.map gO)]] []=some (.bool (decide (s=t)), []):=by
 refine ad TK RZ ?_;have w:=Is nl nl' z z' s.nodes t.nodes hz hz' hl hm;obtain ⟨a,b,l⟩:=s;obtain ⟨a',b',l'⟩:=t;simp only at w⊢
 have hd:decide (tf.mk a b l=⟨a',b',l'⟩)=(decide (a=a')&&(decide (b=b')&&decide (l=l'))):=by rw [Bool.eq_iff_iff];simp
 rw [hd];generalize decide (l=l')=dl at*
 generalize l.map gO=E at*
 generalize l'.map gO=E' at*
 by_cases h1:a=a'
 ·by_cases h2:b=b'
  ·simp (maxSteps:=9^9) (disch:=omega) [-List.map_replicate,-List.map_set,-List.getD_eq_getElem?_getD,-getElem?_pos,-getElem?_neg,om,Kq,w,h1,h2]
  ·have h2':(b==b')=false:=by simpa using h2
   simp (maxSteps:=9^9) (disch:=omega) [-List.map_replicate,-List.map_set,-List.getD_eq_getElem?_getD,-getElem?_pos,-getElem?_neg,om,Kq,w,h1,h2,h2']
 ·have h1':(a==a')=false:=by simpa using h1
  simp (maxSteps:=9^9) (disch:=omega) [-List.map_replicate,-List.map_set,-List.getD_eq_getElem?_getD,-getElem?_pos,-getElem?_neg,om,Kq,w,h1,h1']
def ca (l:List Cell):List AV:=l.map mY
theorem N4 (nl nl':Option Bool) (z z':Nat) (l m:List (Cell×ae)) (hz:l≠ []→z=3) (hz':m≠ []→z'=3) (hl:l.length<1000000) (hm:m.length<1000000):ar cfg 37 [.ah nl z (br l),.ah nl' z' (br m)] []=some (.bool (decide (l=m)), []):=by
 refine ad TL R0 ?_;have hE: ∀k (h:k<l.length),(br l)[k]?=some (.agg [.int .i64 l[k].1.1,.int .i64 l[k].1.2,.str l[k].2]):=fun k h=>get_map _ _ h;have hE': ∀k (h:k<m.length),(br m)[k]?=some (.agg [.int .i64 m[k].1.1,.int .i64 m[k].1.2,.str m[k].2]):=fun k h=>get_map _ _ h;have hEl:(br l).length=l.length:=by simp [br]
 have hEm:(br m).length=m.length:=by simp [br]
 generalize br l=E at*
 generalize br m=E' at*
 by_cases hlm:l.length=m.length
 case neg=>
  have h2:((l.length:Int) !=(m.length:Int))=true:=by rw [bne_iff_ne];omega
  have h3: ¬ l=m:=fun h=>hlm (by rw [h]);simp (maxSteps:=9^9) (disch:=omega) [-List.map_replicate,-List.map_set,-List.getD_eq_getElem?_getD,-getElem?_pos,-getElem?_neg,om,N5,hEl,hEm,h2,h3]
 have h2:((l.length:Int) !=(m.length:Int))=false:=by rw [bne_eq_false_iff_eq];omega
 simp (maxSteps:=9^9) (disch:=omega) [-List.map_replicate,-List.map_set,-List.getD_eq_getElem?_getD,-getElem?_pos,-getElem?_neg,om,N5,hEl,hEm,h2];refine Wp.bw (fun (i:Nat)=>l.length-i) (fun i=> [some (.ah nl z E),some (.ah nl' z' E'),none,none,none,some (.int .i64 l.length),some (.int .i64 i),none,none]) (fun _=> []) (fun i=>(l=m↔l.drop i=m.drop i)∧i≤l.length) ?_ 0 ⟨by simp,by omega⟩ (by simp) rfl;rintro i ⟨hi,hil⟩;by_cases h1:i<l.length
 ·have h1':i<m.length:=by omega
  have hg:=hE i h1;have hg':=hE' i h1';obtain rfl:=hz (ne_of_lt h1);obtain rfl:=hz' (ne_of_lt h1');rw [List.drop_eq_getElem_cons h1,List.drop_eq_getElem_cons h1',List.cons.injEq] at hi;clear hE hE';generalize l[i]=r at*
  generalize m[i]=r' at*
  obtain ⟨⟨r1,r2⟩,t⟩:=r;obtain ⟨⟨r1',r2'⟩,t'⟩:=r';simp only at hg hg';simp (maxSteps:=9^9) (disch:=omega) [-List.map_replicate,-List.map_set,-List.getD_eq_getElem?_getD,-getElem?_pos,-getElem?_neg,om,h1,h1',hg,hg',hEl,hEm];split
  ·rename_i q;intro e;obtain ⟨e1,_⟩:=hi.1 e;simp only [Prod.mk.injEq] at e1;obtain ⟨⟨e2,e3⟩,e4⟩:=e1;rcases q with (q | q) | q
   ·exact q e2
   ·exact q e3
   ·exact q e4
  ·rename_i q;simp only [not_or,Classical.not_not] at q;obtain ⟨⟨rfl,rfl⟩,rfl⟩:=q;exact ⟨i+1,⟨by rw [hi];simp,by omega⟩,by omega,by simp⟩
 ·rw [List.drop_eq_nil_of_le (by omega),List.drop_eq_nil_of_le (by omega)] at hi;have hi2:l=m:=hi.2 rfl;simp (maxSteps:=9^9) (disch:=omega) [-List.map_replicate,-List.map_set,-List.getD_eq_getElem?_getD,-getElem?_pos,-getElem?_neg,om,h1,hEl,hEm,hi2]
theorem fo: ∀l:List Cell,ai (ca l)=true
 | []=>rfl
 | x::r=>by simp [ca,mY,ai,AV.plain];exact fo r
theorem N6 (nl:Option Bool) (z:Nat) (l:List Cell) (hz:l≠ []→z=2) (hl:l.length<1000000) (x:Cell): ∃i:Int,ar cfg 69 [.ah nl z (ca l),mY x] []=some (.int .i64 i, [])∧(0≤i↔x∈l):=by
 obtain ⟨i,hi⟩: ∃i:Int,i=match l.findIdx? (fun y=>decide (x=y)) with | some k=>(k:Int) | none=> -1:=⟨_,rfl⟩
 refine ⟨i,ad TM R1 ?_,?_⟩
 case refine_2=>
  rw [hi];cases h:l.findIdx? (fun y=>decide (x=y)) with
  | none=>rw [List.findIdx?_eq_none_iff] at h;simp only [show¬ (0:Int)≤ -1 by decide,false_iff];intro hx;simpa using h x hx
  | some k=>rw [List.findIdx?_eq_some_iff_getElem] at h;obtain ⟨h1,h2,_⟩:=h;have:x=l[k]:=of_decide_eq_true h2;simp only [show (0:Int)≤(k:Int) by omega,true_iff];rw [this];exact List.getElem_mem h1
 have hE: ∀k (h:k<l.length),(ca l)[k]?=some (.agg [.int .i64 l[k].1,.int .i64 l[k].2]):=fun k h=>get_map _ _ h;have hEl:(ca l).length=l.length:=by simp [ca]
 generalize ca l=E at*
 obtain ⟨x1,x2⟩:=x;unfold mY;simp only;simp (maxSteps:=9^9) (disch:=omega) [-List.map_replicate,-List.map_set,-List.getD_eq_getElem?_getD,-getElem?_pos,-getElem?_neg,om,R2,hEl];refine Wp.bw (fun (i:Nat)=>l.length-i) (fun i=> [some (.ah nl z E),none,some (.ptr 0 0),none,none,some (.int .i64 l.length),some (.int .i64 i),none,none]) (fun _=> [.var 28 [.int .i64 x1,.int .i64 x2]]) (fun k=>i=(match (l.drop k).findIdx? (fun y=>decide ((x1,x2)=y)) with | some j=>(k:Int)+(j:Int) | none=> -1)∧k≤l.length) ?_ 0 ⟨by simpa using hi,by omega⟩ (by simp) rfl;clear hi;rintro k ⟨hi,hil⟩;by_cases h1:k<l.length
 ·have hg:=hE k h1;obtain rfl:=hz (ne_of_lt h1);rw [List.drop_eq_getElem_cons h1,List.findIdx?_cons] at hi;clear hE;generalize l[k]=r at*
  obtain ⟨r1,r2⟩:=r;simp only at hg;simp (maxSteps:=9^9) (disch:=omega) [-List.map_replicate,-List.map_set,-List.getD_eq_getElem?_getD,-getElem?_pos,-getElem?_neg,om,h1,hg,hEl];split
  ·rename_i q;obtain ⟨rfl,rfl⟩:=q;simpa using hi.symm
  ·rename_i q;have hd:decide (((x1,x2):Cell)=(r1,r2))=false:=by simpa using q
   rw [hd] at hi;refine ⟨k+1,⟨?_,by omega⟩,by omega,by simp⟩;rw [hi];cases (l.drop (k+1)).findIdx? (fun y=>decide ((x1,x2)=y)) with
   | none=>rfl
   | some j=>show (k:Int)+((j+1:Nat):Int)=((k+1:Nat):Int)+(j:Int);omega
 ·rw [List.drop_eq_nil_of_le (by omega)] at hi;subst hi;simp (maxSteps:=9^9) (disch:=omega) [-List.map_replicate,-List.map_set,-List.getD_eq_getElem?_getD,-getElem?_pos,-getElem?_neg,om,h1,hEl]
theorem EO (nl:Option Bool) (z:Nat) (l:List Cell) (hz:l≠ []→z=2) (hl:l.length<1000000) (x:Cell):ar cfg 25 [.ah nl z (ca l),mY x] []=some (.bool (decide (x∈l)), []):=by
 refine ad TN R3 ?_;obtain ⟨i,h1,h2⟩:=N6 nl z l hz hl x;obtain ⟨x1,x2⟩:=x;unfold mY at*
 simp only at h1⊢;generalize ca l=E at*
 by_cases h3:(x1,x2)∈l
 ·have h4:=h2.2 h3;simp (maxSteps:=9^9) (disch:=omega) [-List.map_replicate,-List.map_set,-List.getD_eq_getElem?_getD,-getElem?_pos,-getElem?_neg,om,N7,h1,h3,h4]
 ·have h4: ¬ 0≤i:=fun h=>h3 (h2.1 h);simp (maxSteps:=9^9) (disch:=omega) [-List.map_replicate,-List.map_set,-List.getD_eq_getElem?_getD,-getElem?_pos,-getElem?_neg,om,N7,h1,h3,h4]
theorem zb (f g:Cell→ae) (x:Cell) (l:List Cell):cv f g (x::l)=if f x=g x then cv f g l else x::cv f g l:=by
 unfold cv;rw [List.filter_cons];by_cases h:f x=g x
 ·rw [if_neg (by simpa using h),if_pos h]
 ·rw [if_pos (by simpa using h),if_neg h]
theorem kQ (a b:Ct) (ha:a.ok) (hb:b.ok) (root:Int) (lang:ae) (nl:Option Bool) (z:Nat) (l:List Cell) (hz:l≠ []→z=2) (hl:l.length<1000000):
  ar cfg 24 [bM a,bM b,.int .i64 root,.str lang,.ah nl z (ca l)] []=some (.ah none 2 (ca (cv (aS Lib.itoa esc a lang root) (aS Lib.itoa esc b lang root) l)), []):=by
 refine ad TO R4 ?_;have w1: ∀x:Cell,_:=fun x=>nO a ha root lang x;have w2: ∀x:Cell,_:=fun x=>nO b hb root lang x;simp only [←vM] at w1 w2;have hE: ∀k (h:k<l.length),(ca l)[k]?=some (.agg [.int .i64 l[k].1,.int .i64 l[k].2]):=fun k h=>get_map _ _ h;have hEl:(ca l).length=l.length:=by simp [ca]
 generalize ca l=E at*
 generalize aS Lib.itoa esc a lang root=va at*
 generalize aS Lib.itoa esc b lang root=vb at*
 unfold bM di at*
 generalize au a.aa=L1 at*
 generalize a.av.map cM=L2 at*
 generalize a.an.map bk=L3 at*
 generalize au b.aa=M1 at*
 generalize b.av.map cM=M2 at*
 generalize b.an.map bk=M3 at*
 simp (maxSteps:=9^9) (disch:=omega) [-List.map_replicate,-List.map_set,-List.getD_eq_getElem?_getD,-getElem?_pos,-getElem?_neg,om,R5,hEl];refine Wp.bw (fun (x:Nat×List Cell)=>l.length-x.1) (fun x=> [none,none,some (.int .i64 root),some (.str lang),none,some (.ptr 0 0),some (.ptr 1 0),none,some (.az 2 x.2.length),none,some (.ah nl z E),some (.int .i64 l.length),some (.int .i64 x.1),none,none,none,none,none,none,none]) (fun x=> [.var 26 [.ah a.ln a.lz L1,.ah a.bn a.bz L2,.ah a.sn a.sz L3],.var 26 [.ah b.ln b.lz M1,.ah b.bn b.bz M2,.ah b.sn b.sz M3],.sl ⟨false,some 28,none⟩ 2 (ca x.2)]) (fun x=>cv va vb l=x.2++cv va vb (l.drop x.1)∧x.1≤l.length∧x.2.length≤x.1) ?_ (0, []) ⟨by simp,by simp,by simp⟩ (by simp) (by simp [ca]);rintro ⟨i,out⟩ ⟨hi,hil,hol⟩;simp only at hi hil hol⊢;rw [hi];clear hi;have hol2:(ca out).length=out.length:=by simp [ca]
 by_cases h1:i<l.length
 ·have hg:=hE i h1;obtain rfl:=hz (ne_of_lt h1);rw [List.drop_eq_getElem_cons h1,zb];have w3:=w1 l[i];have w4:=w2 l[i];clear hE w1 w2;generalize l[i]=r at*
  obtain ⟨r1,r2⟩:=r;simp only at hg w3 w4⊢;generalize va (r1,r2)=x at*
  generalize vb (r1,r2)=y at*
  by_cases he:x=y
  ·rw [if_pos he];have he2:(x !=y)=false:=by simp [he]
   simp (maxSteps:=9^9) (disch:=omega) [-List.map_replicate,-List.map_set,-List.getD_eq_getElem?_getD,-getElem?_pos,-getElem?_neg,om,h1,hg,hEl,af,w3,w4,he,he2];exact ⟨i+1,out,⟨rfl,by omega,by omega⟩,by omega,by simp,rfl⟩
  ·rw [if_neg he];have he2:(x !=y)=true:=by simpa using he
   simp (maxSteps:=9^9) (disch:=omega) [-List.map_replicate,-List.map_set,-List.getD_eq_getElem?_getD,-getElem?_pos,-getElem?_neg,om,h1,hg,hEl,af,w3,w4,he,he2,hol2];exact ⟨i+1,out++ [(r1,r2)],⟨by simp,by omega,by simp;omega⟩,by omega,by simp,by simp [ca,mY]⟩
 ·rw [List.drop_eq_nil_of_le (by omega)];have hpl:=fo out;simp (maxSteps:=9^9) (disch:=omega) [-List.map_replicate,-List.map_set,-List.getD_eq_getElem?_getD,-getElem?_pos,-getElem?_neg,om,h1,hEl,cv,hpl]
def nY (a b n:Nat):Bool:=decide (n≤a∨b<n∧n≤b+1)
def Gl (f:Fc):Bool:=decide (f.lang.length≤10)&&nY 60 4096 f.text.length
def wj (s:Sh):Bool:=(decide (s.mark.length≤70)&&decide (s.title.length≤70)&&nY 6 32 s.facts.length)&&s.facts.all Gl
def Dz (b:Lb):Bool:=decide (b.text.length≤70)&&decide (b.lang.length≤10)
def gr (c:Ct):Bool:=(decide (c.aa.length≤10)&&nY 20 256 c.av.length&&nY 14 256 c.an.length)&&(c.aa.all (fun s=>decide (s.length≤10))&&(c.av.all Dz&&c.an.all wj))
theorem lO {c:Ct} (hi:c.B1) (h:gr c=true):c.ok:=by unfold gr nY at h;simp only [Bool.and_eq_true,decide_eq_true_eq,List.all_eq_true] at h;obtain ⟨⟨⟨h1,h2⟩,h3⟩,h4,h5,h6⟩:=h;refine ⟨hi.lz,hi.bz,hi.sz,by omega,by omega,by omega,fun s hs=>⟨(hi.sh s hs).fz,?_⟩⟩;have:=h6 s hs;unfold wj nY at this;simp only [Bool.and_eq_true,decide_eq_true_eq] at this;omega
theorem iv (c:Ct) (hi:c.B1):ar cfg 11 [bM c] []=some (.bool (gr c), []):=by
 refine ad TP R6 ?_;have hl:=hi.ll;have hb:=hi.bl;have hs:=hi.sl;unfold maxLen at hl hb hs;unfold gr bM di;generalize hL:c.aa.length=nL at*
 generalize hB:c.av.length=nB at*
 generalize hS:c.an.length=nS at*
 have hL':(au c.aa).length=nL:=by simp [hL]
 have hB':(c.av.map cM).length=nB:=by simp [hB]
 have hS':(c.an.map bk).length=nS:=by simp [hS]
 obtain ⟨AA,hA⟩: ∃A,A=(c.aa.all (fun s=>decide (s.length≤10))&&(c.av.all Dz&&c.an.all wj)):=⟨_,rfl⟩;rw [←hA];have hE1: ∀k (h:k<c.aa.length),(au c.aa)[k]?=some (.str c.aa[k]):=fun k h=>get_map _ _ (by omega);have hE2: ∀k (h:k<c.av.length),(c.av.map cM)[k]?=some (cM c.av[k]):=fun k h=>get_map _ _ (by omega);have hE3: ∀k (h:k<c.an.length),(c.an.map bk)[k]?=some (bk c.an[k]):=fun k h=>get_map _ _ (by omega);have z1:=hi.lz;have z2:=hi.bz;have z3:=hi.sz;generalize au c.aa=L1 at*
 generalize c.av.map cM=L2 at*
 generalize c.an.map bk=L3 at*
 by_cases hQ:(decide (nL≤10)&&nY 20 256 nB&&nY 14 256 nS)=true
 case neg=>
  rw [Bool.eq_false_iff.2 hQ,Bool.false_and];clear hE1 hE2 hE3 z1 z2 z3;simp (maxSteps:=9^9) (disch:=omega) [-List.map_replicate,-List.map_set,-List.getD_eq_getElem?_getD,-getElem?_pos,-getElem?_neg,om,N8,hL',hB',hS'];unfold nY at hQ;simp only [Bool.and_eq_true,decide_eq_true_eq] at hQ
  intros
  exfalso;omega
 rw [hQ,Bool.true_and];have hq:=hQ;unfold nY at hq;simp only [Bool.and_eq_true,decide_eq_true_eq] at hq;obtain ⟨⟨q1,q2⟩,q3⟩:=hq;simp (maxSteps:=9^9) (disch:=omega) [-List.map_replicate,-List.map_set,-List.getD_eq_getElem?_getD,-getElem?_pos,-getElem?_neg,om,N8,hL',hB',hS'];rw [if_neg (by omega)];refine Wp.bw (fun (i:Nat)=>nL-i) (fun i=> [none,some (.ptr 0 0),none,some (.int .i64 i),none,none,none,none,none,none,none,none,none,none,none,none,none,none]) (fun _=> [.var 26 [.ah c.ln c.lz L1,.ah c.bn c.bz L2,.ah c.sn c.sz L3]]) (fun i=>AA=((c.aa.drop i).all (fun s=>decide (s.length≤10))&&(c.av.all Dz&&c.an.all wj))∧i≤nL) ?_ 0 ⟨by rw [List.drop_zero];exact hA,by omega⟩ (by simp) rfl;clear hA;rintro i ⟨hA,hil⟩;by_cases h1:i<nL
 ·have hg:=hE1 i (by omega);have h1':i<c.aa.length:=by omega
  obtain hzz:=z1 (ne_of_lt h1');rw [List.drop_eq_getElem_cons h1',List.all_cons] at hA;generalize c.aa[i]=x at*
  clear hE1 hE2 hE3 z1 z2 z3 q2 q3;by_cases hx:x.length≤10
  ·rw [show decide (x.length≤10)=true by simpa using hx,Bool.true_and] at hA;simp (maxSteps:=9^9) (disch:=omega) [-List.map_replicate,-List.map_set,-List.getD_eq_getElem?_getD,-getElem?_pos,-getElem?_neg,om,h1,hg,hL',hx,hzz];exact ⟨i+1,⟨hA,by omega⟩,by omega,by simp⟩
  ·rw [show decide (x.length≤10)=false by simpa using hx,Bool.false_and,Bool.false_and] at hA;subst hA;simp (maxSteps:=9^9) (disch:=omega) [-List.map_replicate,-List.map_set,-List.getD_eq_getElem?_getD,-getElem?_pos,-getElem?_neg,om,h1,hg,hL',hx,hzz]
 ·rw [List.drop_eq_nil_of_le (by omega),List.all_nil,Bool.true_and] at hA;clear hE1 z1;simp (maxSteps:=9^9) (disch:=omega) [-List.map_replicate,-List.map_set,-List.getD_eq_getElem?_getD,-getElem?_pos,-getElem?_neg,om,h1,hL'];refine Wp.bw (fun (i:Nat)=>nB-i) (fun i=> [none,some (.ptr 0 0),none,none,some (.int .i64 i),none,none,none,none,none,none,none,none,none,none,none,none,none]) (fun _=> [.var 26 [.ah c.ln c.lz L1,.ah c.bn c.bz L2,.ah c.sn c.sz L3]]) (fun i=>AA=((c.av.drop i).all Dz&&c.an.all wj)∧i≤nB) ?_ 0 ⟨by rw [List.drop_zero];exact hA,by omega⟩ (by simp) rfl;clear hA;rintro i ⟨hA,hil⟩;by_cases h1:i<nB
  ·have hg:=hE2 i (by omega);have h1':i<c.av.length:=by omega
   obtain hzz:=z2 (ne_of_lt h1');rw [List.drop_eq_getElem_cons h1',List.all_cons] at hA;generalize c.av[i]=x at*
   unfold cM at hg;clear hE2 hE3 z2 z3 q2 q3;by_cases hx:Dz x=true
   ·rw [hx,Bool.true_and] at hA;unfold Dz at hx;simp only [Bool.and_eq_true,decide_eq_true_eq] at hx;obtain ⟨x1,x2⟩:=hx;simp (maxSteps:=9^9) (disch:=omega) [-List.map_replicate,-List.map_set,-List.getD_eq_getElem?_getD,-getElem?_pos,-getElem?_neg,om,h1,hg,hB',x1,x2,hzz];exact ⟨i+1,⟨hA,by omega⟩,by omega,by simp⟩
   ·rw [Bool.eq_false_iff.2 hx,Bool.false_and,Bool.false_and] at hA;subst hA;unfold Dz at hx;simp only [Bool.and_eq_true,decide_eq_true_eq] at hx;simp (maxSteps:=9^9) (disch:=omega) [-List.map_replicate,-List.map_set,-List.getD_eq_getElem?_getD,-getElem?_pos,-getElem?_neg,om,h1,hg,hB',hzz];omega
  ·rw [List.drop_eq_nil_of_le (by omega),List.all_nil,Bool.true_and] at hA;clear hE2 z2;simp (maxSteps:=9^9) (disch:=omega) [-List.map_replicate,-List.map_set,-List.getD_eq_getElem?_getD,-getElem?_pos,-getElem?_neg,om,h1,hB'];refine Wp.bw (fun (i:Nat)=>nS-i) (fun i=> [none,some (.ptr 0 0),none,none,none,some (.int .i64 i),none,none,none,none,none,none,none,none,none,none,none,none]) (fun _=> [.var 26 [.ah c.ln c.lz L1,.ah c.bn c.bz L2,.ah c.sn c.sz L3]]) (fun i=>AA=((c.an.drop i).all wj)∧i≤nS) ?_ 0 ⟨by rw [List.drop_zero];exact hA,by omega⟩ (by simp) rfl;clear hA;rintro i ⟨hA,hil⟩;by_cases h1:i<nS
   ·have hg:=hE3 i (by omega);have h1':i<c.an.length:=by omega
    obtain hzz:=z3 (ne_of_lt h1');have hxi:=hi.sh _ (List.getElem_mem h1');rw [List.drop_eq_getElem_cons h1',List.all_cons] at hA;generalize c.an[i]=x at*
    unfold bk at hg;clear hE3 z3 q2 q3;have hfz:=hxi.fz;have hfl:=hxi.fl;unfold maxLen at hfl;have hF:(x.facts.map er).length=x.facts.length:=by simp
    have hE4: ∀k (h:k<x.facts.length),(x.facts.map er)[k]?=some (.agg [.int .i64 x.facts[k].el,.str x.facts[k].lang,.str x.facts[k].text]):=fun k h=>get_map _ _ (by omega);generalize x.facts.map er=L4 at*
    by_cases hQ2:(decide (x.mark.length≤70)&&decide (x.title.length≤70)&&nY 6 32 x.facts.length)=true
    case neg=>
     unfold wj at hA;rw [Bool.eq_false_iff.2 hQ2,Bool.false_and,Bool.false_and] at hA;subst hA;simp (maxSteps:=9^9) (disch:=omega) [-List.map_replicate,-List.map_set,-List.getD_eq_getElem?_getD,-getElem?_pos,-getElem?_neg,om,h1,hg,hS',hF,hzz,af];unfold nY at hQ2;simp only [Bool.and_eq_true,decide_eq_true_eq] at hQ2
     intros
     exfalso;omega
    unfold wj at hA;rw [hQ2,Bool.true_and] at hA;unfold nY at hQ2;simp only [Bool.and_eq_true,decide_eq_true_eq] at hQ2;obtain ⟨⟨y1,y2⟩,y3⟩:=hQ2;simp (maxSteps:=9^9) (disch:=omega) [-List.map_replicate,-List.map_set,-List.getD_eq_getElem?_getD,-getElem?_pos,-getElem?_neg,om,h1,hg,hS',hF,hzz,af];rw [if_neg (by omega)];refine Wp.bw (fun (j:Nat)=>x.facts.length-j) (fun j=> [none,some (.ptr 0 0),none,none,none,some (.int .i64 i),some (.ptr 1 0),some (.int .i64 j),none,none,none,none,none,none,none,none,none,none]) (fun _=> [.var 26 [.ah c.ln c.lz L1,.ah c.bn c.bz L2,.ah c.sn c.sz L3],.var 73 [.int .i64 x.unit,.int .i64 x.par,.int .i64 x.level,.str x.mark,.str x.title,.ah x.fn x.fz L4]]) (fun j=>AA=((x.facts.drop j).all Gl&&(c.an.drop (i+1)).all wj)∧j≤x.facts.length) ?_ 0 ⟨by rw [List.drop_zero];exact hA,by omega⟩ (by simp) (by rw [hzz]);clear hA;rintro j ⟨hA,hjl⟩;by_cases h2:j<x.facts.length
    ·have hg4:=hE4 j h2;obtain hzz2:=hfz (ne_of_lt h2);rw [List.drop_eq_getElem_cons h2,List.all_cons] at hA;generalize x.facts[j]=f at*
     clear hE4 hfz y3;by_cases hx:Gl f=true
     ·rw [hx,Bool.true_and] at hA;unfold Gl nY at hx;simp only [Bool.and_eq_true,decide_eq_true_eq] at hx;simp (maxSteps:=9^9) (disch:=omega) [-List.map_replicate,-List.map_set,-List.getD_eq_getElem?_getD,-getElem?_pos,-getElem?_neg,om,h2,hg4,hF,hzz2];rw [if_neg (by omega)];exact ⟨j+1,⟨hA,by omega⟩,by omega,by simp⟩
     ·rw [Bool.eq_false_iff.2 hx,Bool.false_and,Bool.false_and] at hA;subst hA;unfold Gl nY at hx;simp only [Bool.and_eq_true,decide_eq_true_eq] at hx;simp (maxSteps:=9^9) (disch:=omega) [-List.map_replicate,-List.map_set,-List.getD_eq_getElem?_getD,-getElem?_pos,-getElem?_neg,om,h2,hg4,hF,hzz2];omega
    ·rw [List.drop_eq_nil_of_le (by omega),List.all_nil,Bool.true_and] at hA;simp (maxSteps:=9^9) (disch:=omega) [-List.map_replicate,-List.map_set,-List.getD_eq_getElem?_getD,-getElem?_pos,-getElem?_neg,om,h2,hF];exact ⟨i+1,⟨hA,by omega⟩,by omega,by simp⟩
   ·rw [List.drop_eq_nil_of_le (by omega),List.all_nil] at hA;simp (maxSteps:=9^9) (disch:=omega) [-List.map_replicate,-List.map_set,-List.getD_eq_getElem?_getD,-getElem?_pos,-getElem?_neg,om,h1,hS',hA]
def lP (s:Sh):Sh:=⟨s.unit,s.par,s.level,s.mark,s.title,s.facts,if s.facts= [] then some false else none,if s.facts= [] then 0 else 3⟩
def du (c:Ct):Ct:=⟨c.aa,c.av,c.an.map lP,if c.aa= [] then some false else none,if c.aa= [] then 0 else 1,if c.av= [] then some false else none,if c.av= [] then 0 else 4,none,6⟩
theorem iw (c:Ct):(du c).Lj c:=by unfold Ct.Lj Ct.ib du;simp only [List.map_map];congr 1
theorem cU {c:Ct} (h:c.ok):(du c).ok:=by refine ⟨fun h=>by simp only [du] at h⊢;rw [if_neg h],fun h=>by simp only [du] at h⊢;rw [if_neg h],fun _=>rfl,h.ll,h.bl,by simp only [du,List.length_map];exact h.sl,fun s hs=> ?_⟩;simp only [du,List.mem_map] at hs;obtain ⟨t,ht,rfl⟩:=hs;exact ⟨fun h=>by simp only [lP] at h⊢;rw [if_neg h],(h.sh t ht).fl⟩
theorem fU (c:Ct) (hc:c.ok):ar cfg 13 [bM c] []=some (bM (du c), []):=by
 refine ad TQ R7 ?_;obtain ⟨aa,av,an,ln,lz,bn,bz,sn,sz⟩:=c;have l1:=hc.ll;have l2:=hc.bl;have l3:=hc.sl;have z1:=hc.lz;have z2:=hc.bz;have z3:=hc.sz;have hsh:=hc.sh;clear hc;unfold bM di du;simp only at l1 l2 l3 z1 z2 z3 hsh⊢;have p3:=cA an;have e3:(an.map bk).length=an.length:=by simp
 have hE: ∀k (h:k<an.length),(an.map bk)[k]?=some (bk an[k]):=fun k h=>get_map _ _ h;generalize an.map bk=L3 at*
 obtain ⟨OUT,hOUT⟩: ∃O,O=(an.map lP).map bk:=⟨_,rfl⟩;rw [←hOUT];cases aa with
 | nil=>
  cases av with
  | nil=>
   simp (maxSteps:=9^9) (disch:=omega) [-List.map_replicate,-List.map_set,-List.getD_eq_getElem?_getD,-getElem?_pos,-getElem?_neg,om,Iu,p3,e3,af,au,cM];refine Wp.bw (fun (i:Nat)=>an.length-i) (fun i=> [none,some (.ptr 0 0),some (.ptr 1 0),some (.ptr 9 0),some (.int .i64 i),none,none,none,none,none,none,none,none,none,none,none,none,none]) (fun i=> [.var 26 [.ah ln lz [],.ah bn bz [],.ah sn sz L3],.var 26 [.az 2 0,.az 3 0,.az 4 0],.sl ⟨false,some 9,none⟩ 1 [],.sl ⟨false,some 77,none⟩ 4 [],.sl ⟨false,some 73,none⟩ 6 [],.dead,.dead,.dead,.dead,.var 26 [.bS (some false),.bS (some false),.az 10 i],.sl ⟨false,some 73,none⟩ 6 (((an.take i).map lP).map bk)]) (fun i=>i≤an.length) ?_ 0 (by omega) (by simp) (by simp);rintro i hil;have hcl:(((an.take i).map lP).map bk).length=i:=by simp;omega
   by_cases q1:i<an.length
   ·have hg:=hE i q1;obtain rfl:=z3 (ne_of_lt q1)
    have htk:((an.take (i+1)).map lP).map bk=((an.take i).map lP).map bk++ [bk (lP an[i])]:=by rw [List.take_succ_eq_append_getElem q1,List.map_append,List.map_append];rfl
    have hso:=hsh _ (List.getElem_mem q1);have hpl:=cA ((an.take i).map lP);generalize an[i]=w at*
    have hst:bk (lP w)= .agg [.int .i64 w.unit,.int .i64 w.par,.int .i64 w.level,.str w.mark,.str w.title,.ah (if w.facts= [] then some false else none) (if w.facts= [] then 0 else 3) (w.facts.map er)]:=rfl;rw [hst] at htk;unfold bk at hg;clear hst;have hfz:=hso.fz;have hfl:=hso.fl;generalize ((an.take i).map lP).map bk=DONE at*
    cases hw:w.facts with
    | nil=>rw [hw] at hg htk;simp only [List.map_nil,if_true] at hg htk;simp (maxSteps:=9^9) (disch:=omega) [-List.map_replicate,-List.map_set,-List.getD_eq_getElem?_getD,-getElem?_pos,-getElem?_neg,om,q1,hg,e3,hcl,af,hpl];exact ⟨i+1,by omega,by omega,by simp,by simp only [List.map_map,List.map_take] at htk;exact ⟨rfl,htk.symm⟩⟩
    | cons f fs=>
     have hfz3:=hfz (by rw [hw];simp);rw [hw] at hg htk hfl;rw [hfz3] at hg;rw [if_neg (by simp)] at htk;simp only [List.map_cons,List.length_cons] at hg htk hfl;have hfp:=iy fs;have hfn:(fs.map er).length=fs.length:=by simp
     unfold er at hg htk hfp hfn;generalize fs.map _=Fss at*
     simp (maxSteps:=9^9) (disch:=omega) [-List.map_replicate,-List.map_set,-List.getD_eq_getElem?_getD,-getElem?_pos,-getElem?_neg,om,q1,hg,e3,hcl,af,hpl,hfp,hfn];exact ⟨i+1,by omega,by omega,by simp,by simp only [List.map_map,List.map_take] at htk;exact ⟨rfl,htk.symm⟩⟩
   ·obtain rfl:i=an.length:=by omega
    have hpl:=cA ((an.take an.length).map lP);rw [List.take_length] at hcl hpl⊢;rw [←hOUT] at hcl hpl⊢;simp (maxSteps:=9^9) (disch:=omega) [-List.map_replicate,-List.map_set,-List.getD_eq_getElem?_getD,-getElem?_pos,-getElem?_neg,om,q1,e3,hcl,af,hpl]
  | cons y s=>
   have z2:=z2 (by simp);have p2:=ni s;have e2:(s.map cM).length=s.length:=by simp
   simp only [List.length_cons] at l2;rw [z2,List.map_cons];unfold cM at*
   generalize s.map _=L2 at*
   simp (maxSteps:=9^9) (disch:=omega) [-List.map_replicate,-List.map_set,-List.getD_eq_getElem?_getD,-getElem?_pos,-getElem?_neg,om,Iu,p3,e3,af,au,cM,p2,e2];refine Wp.bw (fun (i:Nat)=>an.length-i) (fun i=> [none,some (.ptr 0 0),some (.ptr 1 0),some (.ptr 9 0),some (.int .i64 i),none,none,none,none,none,none,none,none,none,none,none,none,none]) (fun i=> [.var 26 [.ah ln lz [],.ah bn 4 (.agg [.int .i64 y.el,.str y.lang,.str y.text,.int .i64 y.ix]::L2),.ah sn sz L3],.var 26 [.az 2 0,.az 3 0,.az 4 0],.sl ⟨false,some 9,none⟩ 1 [],.sl ⟨false,some 77,none⟩ 4 [],.sl ⟨false,some 73,none⟩ 6 [],.dead,.dead,.dead,.sl ⟨false,some 77,none⟩ 4 (.agg [.int .i64 y.el,.str y.lang,.str y.text,.int .i64 y.ix]::L2),.var 26 [.bS (some false),.az 8 (s.length+1),.az 10 i],.sl ⟨false,some 73,none⟩ 6 (((an.take i).map lP).map bk)]) (fun i=>i≤an.length) ?_ 0 (by omega) (by simp) (by simp);rintro i hil;have hcl:(((an.take i).map lP).map bk).length=i:=by simp;omega
   by_cases q1:i<an.length
   ·have hg:=hE i q1;obtain rfl:=z3 (ne_of_lt q1)
    have htk:((an.take (i+1)).map lP).map bk=((an.take i).map lP).map bk++ [bk (lP an[i])]:=by rw [List.take_succ_eq_append_getElem q1,List.map_append,List.map_append];rfl
    have hso:=hsh _ (List.getElem_mem q1);have hpl:=cA ((an.take i).map lP);generalize an[i]=w at*
    have hst:bk (lP w)= .agg [.int .i64 w.unit,.int .i64 w.par,.int .i64 w.level,.str w.mark,.str w.title,.ah (if w.facts= [] then some false else none) (if w.facts= [] then 0 else 3) (w.facts.map er)]:=rfl;rw [hst] at htk;unfold bk at hg;clear hst;have hfz:=hso.fz;have hfl:=hso.fl;generalize ((an.take i).map lP).map bk=DONE at*
    cases hw:w.facts with
    | nil=>rw [hw] at hg htk;simp only [List.map_nil,if_true] at hg htk;simp (maxSteps:=9^9) (disch:=omega) [-List.map_replicate,-List.map_set,-List.getD_eq_getElem?_getD,-getElem?_pos,-getElem?_neg,om,q1,hg,e3,hcl,af,hpl];exact ⟨i+1,by omega,by omega,by simp,by simp only [List.map_map,List.map_take] at htk;exact ⟨rfl,htk.symm⟩⟩
    | cons f fs=>
     have hfz3:=hfz (by rw [hw];simp);rw [hw] at hg htk hfl;rw [hfz3] at hg;rw [if_neg (by simp)] at htk;simp only [List.map_cons,List.length_cons] at hg htk hfl;have hfp:=iy fs;have hfn:(fs.map er).length=fs.length:=by simp
     unfold er at hg htk hfp hfn;generalize fs.map _=Fss at*
     simp (maxSteps:=9^9) (disch:=omega) [-List.map_replicate,-List.map_set,-List.getD_eq_getElem?_getD,-getElem?_pos,-getElem?_neg,om,q1,hg,e3,hcl,af,hpl,hfp,hfn];exact ⟨i+1,by omega,by omega,by simp,by simp only [List.map_map,List.map_take] at htk;exact ⟨rfl,htk.symm⟩⟩
   ·obtain rfl:i=an.length:=by omega
    have hpl:=cA ((an.take an.length).map lP);rw [List.take_length] at hcl hpl⊢;rw [←hOUT] at hcl hpl⊢;simp (maxSteps:=9^9) (disch:=omega) [-List.map_replicate,-List.map_set,-List.getD_eq_getElem?_getD,-getElem?_pos,-getElem?_neg,om,q1,e3,hcl,af,hpl,p2,e2]
 | cons x r=>
  have z1:=z1 (by simp);have p1:=tM r;have e1:(au r).length=r.length:=by simp
  have hx:au (x::r)= .str x::au r:=rfl;simp only [List.length_cons] at l1;rw [z1,hx];generalize au r=L1 at*
  cases av with
  | nil=>
   simp (maxSteps:=9^9) (disch:=omega) [-List.map_replicate,-List.map_set,-List.getD_eq_getElem?_getD,-getElem?_pos,-getElem?_neg,om,Iu,p3,e3,af,au,cM,p1,e1];refine Wp.bw (fun (i:Nat)=>an.length-i) (fun i=> [none,some (.ptr 0 0),some (.ptr 1 0),some (.ptr 9 0),some (.int .i64 i),none,none,none,none,none,none,none,none,none,none,none,none,none]) (fun i=> [.var 26 [.ah ln 1 (.str x::L1),.ah bn bz [],.ah sn sz L3],.var 26 [.az 2 0,.az 3 0,.az 4 0],.sl ⟨false,some 9,none⟩ 1 [],.sl ⟨false,some 77,none⟩ 4 [],.sl ⟨false,some 73,none⟩ 6 [],.dead,.sl ⟨false,some 9,none⟩ 1 (.str x::L1),.dead,.dead,.var 26 [.az 6 (r.length+1),.bS (some false),.az 10 i],.sl ⟨false,some 73,none⟩ 6 (((an.take i).map lP).map bk)]) (fun i=>i≤an.length) ?_ 0 (by omega) (by simp) (by simp);rintro i hil;have hcl:(((an.take i).map lP).map bk).length=i:=by simp;omega
   by_cases q1:i<an.length
   ·have hg:=hE i q1;obtain rfl:=z3 (ne_of_lt q1)
    have htk:((an.take (i+1)).map lP).map bk=((an.take i).map lP).map bk++ [bk (lP an[i])]:=by rw [List.take_succ_eq_append_getElem q1,List.map_append,List.map_append];rfl
    have hso:=hsh _ (List.getElem_mem q1);have hpl:=cA ((an.take i).map lP);generalize an[i]=w at*
    have hst:bk (lP w)= .agg [.int .i64 w.unit,.int .i64 w.par,.int .i64 w.level,.str w.mark,.str w.title,.ah (if w.facts= [] then some false else none) (if w.facts= [] then 0 else 3) (w.facts.map er)]:=rfl;rw [hst] at htk;unfold bk at hg;clear hst;have hfz:=hso.fz;have hfl:=hso.fl;generalize ((an.take i).map lP).map bk=DONE at*
    cases hw:w.facts with
    | nil=>rw [hw] at hg htk;simp only [List.map_nil,if_true] at hg htk;simp (maxSteps:=9^9) (disch:=omega) [-List.map_replicate,-List.map_set,-List.getD_eq_getElem?_getD,-getElem?_pos,-getElem?_neg,om,q1,hg,e3,hcl,af,hpl];exact ⟨i+1,by omega,by omega,by simp,by simp only [List.map_map,List.map_take] at htk;exact ⟨rfl,htk.symm⟩⟩
    | cons f fs=>
     have hfz3:=hfz (by rw [hw];simp);rw [hw] at hg htk hfl;rw [hfz3] at hg;rw [if_neg (by simp)] at htk;simp only [List.map_cons,List.length_cons] at hg htk hfl;have hfp:=iy fs;have hfn:(fs.map er).length=fs.length:=by simp
     unfold er at hg htk hfp hfn;generalize fs.map _=Fss at*
     simp (maxSteps:=9^9) (disch:=omega) [-List.map_replicate,-List.map_set,-List.getD_eq_getElem?_getD,-getElem?_pos,-getElem?_neg,om,q1,hg,e3,hcl,af,hpl,hfp,hfn];exact ⟨i+1,by omega,by omega,by simp,by simp only [List.map_map,List.map_take] at htk;exact ⟨rfl,htk.symm⟩⟩
   ·obtain rfl:i=an.length:=by omega
    have hpl:=cA ((an.take an.length).map lP);rw [List.take_length] at hcl hpl⊢;rw [←hOUT] at hcl hpl⊢;simp (maxSteps:=9^9) (disch:=omega) [-List.map_replicate,-List.map_set,-List.getD_eq_getElem?_getD,-getElem?_pos,-getElem?_neg,om,q1,e3,hcl,af,hpl,p1,e1]
  | cons y s=>
   have z2:=z2 (by simp);have p2:=ni s;have e2:(s.map cM).length=s.length:=by simp
   simp only [List.length_cons] at l2;rw [z2,List.map_cons];unfold cM at*
   generalize s.map _=L2 at*
   simp (maxSteps:=9^9) (disch:=omega) [-List.map_replicate,-List.map_set,-List.getD_eq_getElem?_getD,-getElem?_pos,-getElem?_neg,om,Iu,p3,e3,af,au,cM,p1,e1,p2,e2];refine Wp.bw (fun (i:Nat)=>an.length-i) (fun i=> [none,some (.ptr 0 0),some (.ptr 1 0),some (.ptr 9 0),some (.int .i64 i),none,none,none,none,none,none,none,none,none,none,none,none,none]) (fun i=> [.var 26 [.ah ln 1 (.str x::L1),.ah bn 4 (.agg [.int .i64 y.el,.str y.lang,.str y.text,.int .i64 y.ix]::L2),.ah sn sz L3],.var 26 [.az 2 0,.az 3 0,.az 4 0],.sl ⟨false,some 9,none⟩ 1 [],.sl ⟨false,some 77,none⟩ 4 [],.sl ⟨false,some 73,none⟩ 6 [],.dead,.sl ⟨false,some 9,none⟩ 1 (.str x::L1),.dead,.sl ⟨false,some 77,none⟩ 4 (.agg [.int .i64 y.el,.str y.lang,.str y.text,.int .i64 y.ix]::L2),.var 26 [.az 6 (r.length+1),.az 8 (s.length+1),.az 10 i],.sl ⟨false,some 73,none⟩ 6 (((an.take i).map lP).map bk)]) (fun i=>i≤an.length) ?_ 0 (by omega) (by simp) (by simp);rintro i hil;have hcl:(((an.take i).map lP).map bk).length=i:=by simp;omega
   by_cases q1:i<an.length
   ·have hg:=hE i q1;obtain rfl:=z3 (ne_of_lt q1)
    have htk:((an.take (i+1)).map lP).map bk=((an.take i).map lP).map bk++ [bk (lP an[i])]:=by rw [List.take_succ_eq_append_getElem q1,List.map_append,List.map_append];rfl
    have hso:=hsh _ (List.getElem_mem q1);have hpl:=cA ((an.take i).map lP);generalize an[i]=w at*
    have hst:bk (lP w)= .agg [.int .i64 w.unit,.int .i64 w.par,.int .i64 w.level,.str w.mark,.str w.title,.ah (if w.facts= [] then some false else none) (if w.facts= [] then 0 else 3) (w.facts.map er)]:=rfl;rw [hst] at htk;unfold bk at hg;clear hst;have hfz:=hso.fz;have hfl:=hso.fl;generalize ((an.take i).map lP).map bk=DONE at*
    cases hw:w.facts with
    | nil=>rw [hw] at hg htk;simp only [List.map_nil,if_true] at hg htk;simp (maxSteps:=9^9) (disch:=omega) [-List.map_replicate,-List.map_set,-List.getD_eq_getElem?_getD,-getElem?_pos,-getElem?_neg,om,q1,hg,e3,hcl,af,hpl];exact ⟨i+1,by omega,by omega,by simp,by simp only [List.map_map,List.map_take] at htk;exact ⟨rfl,htk.symm⟩⟩
    | cons f fs=>
     have hfz3:=hfz (by rw [hw];simp);rw [hw] at hg htk hfl;rw [hfz3] at hg;rw [if_neg (by simp)] at htk;simp only [List.map_cons,List.length_cons] at hg htk hfl;have hfp:=iy fs;have hfn:(fs.map er).length=fs.length:=by simp
     unfold er at hg htk hfp hfn;generalize fs.map _=Fss at*
     simp (maxSteps:=9^9) (disch:=omega) [-List.map_replicate,-List.map_set,-List.getD_eq_getElem?_getD,-getElem?_pos,-getElem?_neg,om,q1,hg,e3,hcl,af,hpl,hfp,hfn];exact ⟨i+1,by omega,by omega,by simp,by simp only [List.map_map,List.map_take] at htk;exact ⟨rfl,htk.symm⟩⟩
   ·obtain rfl:i=an.length:=by omega
    have hpl:=cA ((an.take an.length).map lP);rw [List.take_length] at hcl hpl⊢;rw [←hOUT] at hcl hpl⊢;simp (maxSteps:=9^9) (disch:=omega) [-List.map_replicate,-List.map_set,-List.getD_eq_getElem?_getD,-getElem?_pos,-getElem?_neg,om,q1,e3,hcl,af,hpl,p1,e1,p2,e2]
theorem kR (c:Ct) (hc:c.ok) (root u:Int) (lang:ae) (h:(ay Lib.itoa esc c root lang u).2=0):ar cfg 12 [bM c,.int .i64 root,.str lang,.int .i64 u] []=some (.aO [.ah none 3 (br (ay Lib.itoa esc c root lang u).1),.int .i64 0], []):=by
 unfold ay at h⊢;by_cases h0:cZ c root lang=0
 ·rw [if_neg (by simpa using h0)] at h⊢;by_cases h1:bZ Lib.itoa c root u= []
  ·rw [if_pos h1] at h;cases h
  ·rw [if_neg h1]
   have e:((cellsOf u (aX c u lang)).map fun z=>(z,aS Lib.itoa esc c lang root z))=((cellsOf u (aX c u lang)).map fun z=>(z,vE Lib.itoa esc c lang root z)):=by have hr:=cL h0;congr 1;funext z;rw [vM,if_pos hr]
   rw [e];exact xN c hc root u lang h0 h1
 ·rw [if_pos h0] at h;exact absurd h h0
theorem nR (c:Ct) (hc:c.ok) (root u:Int) (lang:ae) (h:(ay Lib.itoa esc c root lang u).2≠0): ∃nl z,ar cfg 12 [bM c,.int .i64 root,.str lang,.int .i64 u] []=some (.aO [.ah nl z [],.int .i64 (ay Lib.itoa esc c root lang u).2], []):=by obtain ⟨nl,z,h1,_⟩:=BE c hc root u lang;rw [Dl h] at h1;exact ⟨nl,z,h1⟩
set_option maxRecDepth 100000
def ng (t:ae):Ct:=⟨[[101,110], [100,101]], [⟨1, [100,101], [73,110,104,97,108,116],0⟩,⟨1, [101,110], [67,111,110,116,101,110,116,115],0⟩],
 [⟨7,0,1, [65], [84,111,119,110], [⟨1, [100,101], [65,108,108,101,115]⟩,⟨1, [101,110], [83,101,101,32,91,57,93]⟩],none,3⟩,⟨9,7,3, [],t, [],some true,0⟩],none,1,none,4,none,6⟩
def vO:Ct:=ng [87,97,108,108,115]
def BP:Ct:=ng [71,97,116,101]
def fV:List (Cell×ae):= [((1,7), [49]),((2,7), [102,111,110,100,115,32,84,111,119,110,10,109,97,114,107,32,65,10,49,32,83,101,101,32,91,57,93,10]),((3,1), [67,111,110,116,101,110,116,115]),((4,9), [87,97,108,108,115])]
theorem qM (t:ae):(ng t).ok:=⟨by simp [ng],by simp [ng],by simp [ng],by simp [ng],by simp [ng],by simp [ng],fun s hs=>by
 simp only [ng,List.mem_cons,List.not_mem_nil,or_false] at hs;rcases hs with rfl | rfl <;> exact ⟨by simp,by simp⟩⟩
theorem vP:ay Lib.itoa esc vO 7 [101,110] 7=(fV,0):=by decide+kernel
def Lx:tf:=⟨7, [49], [⟨0, [102,111,110,100,115], [49,32,84,111,119,110]⟩,⟨1, [109,97,114,107], [65]⟩,⟨1, [112], [67,111,110,116,101,110,116,115,58,32,83,101,101,32,87,97,108,108,115]⟩]⟩
theorem Gm:sV aD 7 fV=(0,some Lx):=by decide+kernel
theorem DB:eU (aS Lib.itoa esc BP [101,110] 7) fV=true:=by decide+kernel
theorem DC:eU (aS Lib.itoa esc vO [101,110] 7) fV=false:=by decide+kernel
theorem BQ:cv (aS Lib.itoa esc vO [101,110] 7) (aS Lib.itoa esc BP [101,110] 7) [(4,9)]= [(4,9)]:=by decide+kernel
def Kr:List AV:= [.agg [.int .i64 1,.str [100,101],.str [73,110,104,97,108,116],.int .i64 0],.agg [.int .i64 1,.str [101,110],.str [67,111,110,116,101,110,116,115],.int .i64 0]]
def IX:List AV:= [.agg [.int .i64 1,.str [100,101],.str [65,108,108,101,115]],.agg [.int .i64 1,.str [101,110],.str [83,101,101,32,91,57,93]]]
def Ks:List AV:= [.agg [.int .i64 7,.int .i64 0,.int .i64 1,.str [65],.str [84,111,119,110],.ah none 3 IX],.agg [.int .i64 9,.int .i64 7,.int .i64 3,.str [],.str [87,97,108,108,115],.ah (some true) 0 []]]
theorem Iv : ar cfg 36 [] [] = some (.agg [.az 4 2, .az 5 2, .az 7 2], [.var 26 [.az 4 2, .az 5 2, .az 7 2], .sl ⟨false, some 9, none⟩ 1 [], .sl ⟨false, some 77, none⟩ 4 [], .sl ⟨false, some 73, none⟩ 6 [],
     .sl ⟨false, some 9, none⟩ 1 [.str [101, 110], .str [100, 101]],
     .sl ⟨false, some 77, none⟩ 4 Kr,
     .sl ⟨true, some 79, none⟩ 3 IX,
     .sl ⟨false, some 73, none⟩ 6 Ks]) := by
 refine ad N9 Iw ?_;simp (maxSteps:=9^9) (disch:=omega) [-List.map_replicate,-List.map_set,-List.getD_eq_getElem?_getD,-getElem?_pos,-getElem?_neg,om,Kt,af,Kr,IX,Ks]
theorem Ix : ar cfg 36 [] [.dead] = some (.agg [.az 5 2, .az 6 2, .az 8 2], [.dead, .var 26 [.az 5 2, .az 6 2, .az 8 2], .sl ⟨false, some 9, none⟩ 1 [], .sl ⟨false, some 77, none⟩ 4 [], .sl ⟨false, some 73, none⟩ 6 [],
     .sl ⟨false, some 9, none⟩ 1 [.str [101, 110], .str [100, 101]],
     .sl ⟨false, some 77, none⟩ 4 Kr,
     .sl ⟨true, some 79, none⟩ 3 IX,
     .sl ⟨false, some 73, none⟩ 6 Ks]) := by
 refine ad N9 Iw ?_;simp (maxSteps:=9^9) (disch:=omega) [-List.map_replicate,-List.map_set,-List.getD_eq_getElem?_getD,-getElem?_pos,-getElem?_neg,om,Kt,af,Kr,IX,Ks]
theorem Iy : ar cfg 36 [] [.var 26 [.az 5 2, .az 6 2, .az 8 2], .var 26 [.az 5 2, .az 6 2, .az 8 2], .sl ⟨false, some 9, none⟩ 1 [], .sl ⟨false, some 77, none⟩ 4 [], .sl ⟨false, some 73, none⟩ 6 [], .sl ⟨true, some 9, none⟩ 1 [.str [101, 110], .str [100, 101]], .sl ⟨true, some 77, none⟩ 4 Kr, .sl ⟨true, some 79, none⟩ 3 IX, .sl ⟨true, some 73, none⟩ 6 Ks, .var 46 [.int .i64 7, .str [49], .ah none 3 [.agg [.int .i64 0, .str [102, 111, 110, 100, 115], .str [49, 32, 84, 111, 119, 110]], .agg [.int .i64 1, .str [109, 97, 114, 107], .str [65]], .agg [.int .i64 1, .str [112], .str [67, 111, 110, 116, 101, 110, 116, 115, 58, 32, 83, 101, 101, 32, 87, 97, 108, 108, 115]]]], .dead] = some (.agg [.az 15 2, .az 16 2, .az 18 2], [.var 26 [.az 5 2, .az 6 2, .az 8 2], .var 26 [.az 5 2, .az 6 2, .az 8 2], .sl ⟨false, some 9, none⟩ 1 [], .sl ⟨false, some 77, none⟩ 4 [], .sl ⟨false, some 73, none⟩ 6 [], .sl ⟨true, some 9, none⟩ 1 [.str [101, 110], .str [100, 101]], .sl ⟨true, some 77, none⟩ 4 Kr, .sl ⟨true, some 79, none⟩ 3 IX, .sl ⟨true, some 73, none⟩ 6 Ks, .var 46 [.int .i64 7, .str [49], .ah none 3 [.agg [.int .i64 0, .str [102, 111, 110, 100, 115], .str [49, 32, 84, 111, 119, 110]], .agg [.int .i64 1, .str [109, 97, 114, 107], .str [65]], .agg [.int .i64 1, .str [112], .str [67, 111, 110, 116, 101, 110, 116, 115, 58, 32, 83, 101, 101, 32, 87, 97, 108, 108, 115]]]], .dead, .var 26 [.az 15 2, .az 16 2, .az 18 2], .sl ⟨false, some 9, none⟩ 1 [], .sl ⟨false, some 77, none⟩ 4 [], .sl ⟨false, some 73, none⟩ 6 [],
     .sl ⟨false, some 9, none⟩ 1 [.str [101, 110], .str [100, 101]],
     .sl ⟨false, some 77, none⟩ 4 Kr,
     .sl ⟨true, some 79, none⟩ 3 IX,
     .sl ⟨false, some 73, none⟩ 6 Ks]) := by
 refine ad N9 Iw ?_;simp (maxSteps:=9^9) (disch:=omega) [-List.map_replicate,-List.map_set,-List.getD_eq_getElem?_getD,-getElem?_pos,-getElem?_neg,om,Kt,af,Kr,IX,Ks]
theorem xT:ar cfg 10 [] []=some (.bool true, []):=by
 refine ad TR R8 ?_;have hT0:=Iv;have hT1:=Ix;have hT2:=Iy;have h1:=kR vO (qM _) 7 7 [101,110] (by rw [vP]);rw [vP] at h1
 have hb: ∀k u,((aB fV (k,u)).getD []).length≤30:=fun k u=>by
  unfold aB;cases hf:fV.find? (fun x=>decide (x.1=(k,u))) with
  | none=>simp
  | some x=>
   have hm:=List.mem_of_find?_eq_some hf;have: ∀x∈fV,x.2.length≤30:=by decide
   exact this x hm
 have h2:=BL 7 fV (by simp [fV]) (by simp [fV]) (by have:=hb 1 7;omega) (by have:=hb 2 7;omega) (by decide+kernel) (fun k u _=>by have:=hb k u;omega);rw [Gm] at h2;have h3:=N4 none none 3 3 fV fV (fun _=>rfl) (fun _=>rfl) (by simp [fV]) (by simp [fV]);have h4:=iJ BP (qM _) 7 [101,110] none 3 fV (fun _=>rfl) (by simp [fV]);rw [DB] at h4;have h5:=iJ vO (qM _) 7 [101,110] none 3 fV (fun _=>rfl) (by simp [fV]);rw [DC] at h5;have h6:=kQ vO BP (qM _) (qM _) 7 [101,110] none 2 [(4,9)] (fun _=>rfl) (by simp);rw [BQ] at h6;simp only [bM,di,vO,BP,ng,fV,Lx,br,lM,ca,mY,lW,cN,gO,au,cM,bk,er,List.map_cons,List.map_nil,decide_true] at h1 h2 h3 h4 h5 h6;simp only [Kr,IX,Ks] at hT0 hT1 hT2;simp (maxSteps:=9^9) (disch:=omega) [-List.map_replicate,-List.map_set,-List.getD_eq_getElem?_getD,-getElem?_pos,-getElem?_neg,om,R9,af,hT0,hT1,hT2,h1,h2,h3,h4,h5,h6]
set_option maxRecDepth 10000
set_option maxHeartbeats 4000000
theorem xU: ∀(l K:List Cell),(l.foldl ph K).length≤K.length+l.length
 | [],K=>by simp
 | x::r,K=>by
  have h1:=xU r (ph K x);have h2:=Iz K x;simp only [List.foldl_cons,List.length_cons];omega
theorem wk (t:ae):(eP t).length≤t.length:=by unfold eP;refine Nat.le_trans (List.length_filterMap_le _ _) (by simp)
theorem BR {N:Nat}: ∀(l:List Fc),(∀f∈l,f.text.length≤N)→(l.flatMap cn).length≤l.length*(N+1)
 | [],_=>by simp
 | f::r,h=>by
  have h1:=BR r (fun g hg=>h g (by simp [hg]));have h2:=wk f.text;have h3:=h f (by simp);rw [List.flatMap_cons,List.length_append,List.length_cons,Nat.succ_mul];have:(cn f).length=(eP f.text).length+1:=rfl;omega
theorem DD {c:Ct} (hc:gP c) {u:Int} {lang:ae}:(aX c u lang).length≤32∧ ∀f∈aX c u lang,Db c.aa f:=by
 unfold aX;split
 ·unfold gQ;cases hs:cI c u with
  | none=>simp [aq]
  | some s=>obtain ⟨_,_,_,_,hm⟩:=mW hs;have ho:=hc.an s hm;exact ⟨Nat.le_trans (fr _ _) ho.HU,fun f hf=>ho.facts f (ba hf)⟩
 ·simp
theorem kS (c:Ct) (root u:Int) (lang:ae):(ay Lib.itoa esc c root lang u).1.length<1000000:=by
 unfold ay;split
 ·simp
 ·rename_i h0;have h0:cZ c root lang=0:=by simpa using h0
  split
  ·simp
  ·have hc:=cE (dt (cL h0)).1;obtain ⟨h1,h2⟩:=DD hc (u:=u) (lang:=lang);have h3:=BR (N:=4096) _ (fun f hf=>(h2 f hf).len);have h4:=xU ((aX c u lang).flatMap cn) [(1,u),(2,u)];have h5:(aX c u lang).length*(4096+1)≤32*(4096+1):=Nat.mul_le_mul_right _ h1;simp only [List.length_map,cellsOf];simp only [List.length_cons,List.length_nil] at h4;omega
theorem IA (l:List Sh) (root:Int): ∀(i:Nat),i<l.length→l.length≤400→(mQ Lib.itoa l root i).length≤30*(i+1):=by
 intro i
 induction i using Nat.strongRecOn with
 | _ i ih=>
 intro hil hl;rw [rN Lib.itoa (List.getElem?_eq_getElem hil)];split
 ·simp only [List.length_cons,List.length_nil];omega
 ·have hcnt:=IB (wc l l[i].par) (i+1);have hi:=Lib.itoa_length_le ((xu (wc l l[i].par) (i+1):Nat):Int) (by omega) (by omega);split
  ·rename_i j hj;have hjl:=ef hj;simp only [List.length_take] at hjl;have:=ih j (by omega) (by omega) hl;simp only [List.length_append,List.length_cons,List.length_nil];omega
  ·simp only [List.length_append,List.length_cons,List.length_nil];omega
theorem BS {c:Ct} (hc:gP c) (root u:Int):(bZ Lib.itoa c root u).length≤10000:=by
 rw [jS hc];unfold nK;split
 ·rename_i i hi;split
  ·have hil:=ef hi;have:=IA c.an root i hil (by have:=hc.EZ;omega);have:=hc.EZ;omega
  ·simp
 ·simp
theorem IC {c:Ct} (hf:gr c=true) (hc:gP c) {s:Sh} (hs:s∈c.an) {f:Fc} (h:f∈s.facts):f.text.length≤60:=by unfold gr at hf;simp only [Bool.and_eq_true,List.all_eq_true] at hf;have h1:=hf.2.2.2 s hs;unfold wj at h1;simp only [Bool.and_eq_true,List.all_eq_true] at h1;have h2:=h1.2 f h;unfold Gl nY at h2;simp only [Bool.and_eq_true,decide_eq_true_eq] at h2;have:=((hc.an s hs).facts f h).len;omega
theorem ID (n:Nat):(im n).length≤6:=by
 unfold im
 repeat' split
 all_goals decide
theorem IE (n:Nat):(lX n).length≤2:=by unfold lX;split <;> simp
theorem Gn {lev:Nat} {title mark:ae} {facts:List (Nat×ae)} (h1:title.length≤64) (h2:mark.length≤64) (h3: ∀f∈facts,f.2.length≤60): ∀p∈fT esc lev title mark facts,p.length≤300:=by
 intro p hp;unfold fT at hp;simp only [List.mem_cons,List.mem_map] at hp;have e:=jn;rcases hp with rfl | rfl | ⟨f,hf,rfl⟩
 ·have:=ID lev;have:=e title;simp only [List.length_append,List.length_cons];omega
 ·have:=e mark;simp only [List.length_append,List.length_cons,mR,List.length_nil];omega
 ·have:=h3 f hf;have:=e f.2;have:=IE f.1;unfold sT;simp only [List.length_append,List.length_cons];omega
theorem xV {N:Nat}: ∀(l:List ae),(∀p∈l,p.length≤N)→(l.flatMap fun p=>p++ [(10:UInt8)]).length≤l.length*(N+1)
 | [],_=>by simp
 | f::r,h=>by
  have h1:=xV r (fun g hg=>h g (by simp [hg]));have h3:=h f (by simp);rw [List.flatMap_cons,List.length_append,List.length_cons,Nat.succ_mul,List.length_append];simp only [List.length_cons,List.length_nil];omega
theorem zc {l:List ae} (hl:l≠ []) (h: ∀p∈l,(10:UInt8)∉p):splitB 10 (l.flatMap fun p=>p++ [(10:UInt8)]).dropLast=l:=by
 have:=sS hl h;unfold rQ at this;split at this
 ·exact Option.some.inj this
 ·cases this
theorem wm {c:Ct} (hf:gr c=true) (hc:gP c) {s:Sh} (hs:s∈c.an) (order:List ae):(((aq order s.facts).map dA).length≤32)∧(∀f∈(aq order s.facts).map dA,f.2.length≤60∧1≤f.1∧f.1≤64):=by refine ⟨by rw [List.length_map];exact Nat.le_trans (fr _ _) (hc.an s hs).HU,fun f h=> ?_⟩;obtain ⟨g,hg,rfl⟩:=List.mem_map.1 h;have hm:=ba hg;have h1:=IC hf hc hs hm;have h2:=((hc.an s hs).facts g hm).E0;have h3:=((hc.an s hs).facts g hm).IL;unfold dA;simp only;omega
theorem vQ {c:Ct} (hf:gr c=true) (hc:gP c) {s:Sh} (hs:s∈c.an) (order:List ae):(gq esc order s).length<900000∧ ∀p∈splitB 10 (gq esc order s).dropLast,p.length≤300:=by
 obtain ⟨h1,h2⟩:=wm hf hc hs order;have ho:=hc.an s hs;have h3:=Gn (lev:=s.level.toNat) ho.zA ho.mark (fun f h=>(h2 f h).1);have h4:=Bu lN (fun s=>Ir (by decide)) s.level.toNat s.title s.mark _ (fun f h=>(h2 f h).2);unfold gq sU;rw [zc (by simp [fT]) h4];have h5:=xV _ h3;have h6:(fT esc s.level.toNat s.title s.mark ((aq order s.facts).map dA)).length≤34:=by unfold fT;simp only [List.length_cons,List.length_map] at h1⊢;omega
 have h7:(fT esc s.level.toNat s.title s.mark ((aq order s.facts).map dA)).length*(300+1)≤34*(300+1):=Nat.mul_le_mul_right _ h6;exact ⟨by omega,h3⟩
theorem IF {c:Ct} (hc:gP c) (order:List ae) (el:Int) (h0:1≤el) (h9:el≤64):(fI order c.av el (fp Lib.itoa el)).length≤1000:=by refine Nat.le_trans (kY (N:=64) order el c.av _ _ ?_ (fun y hy=>(hc.av y hy).len)) (by omega);have:=Lib.itoa_length_le el (by omega) (by omega);simp [fp];omega
structure TS (c:Ct) (root:Int) (lang:ae):Prop where
 one: ∀u,(aS Lib.itoa esc c lang root (1,u)).length≤10000
 two: ∀u,(aS Lib.itoa esc c lang root (2,u)).length<900000
 TU: ∀u,∀p∈splitB 10 (aS Lib.itoa esc c lang root (2,u)).dropLast,p.length≤300
 more: ∀k u,k=3∨k=4→(aS Lib.itoa esc c lang root (k,u)).length≤1000
theorem DE {c:Ct} (hf:gr c=true) (root:Int) (lang:ae):TS c root lang:=by
 have key: ∀x:Cell,aS Lib.itoa esc c lang root x= []∨(gP c∧aS Lib.itoa esc c lang root x=vB Lib.itoa esc c (ak c.aa lang) root x):=fun x=>by
  unfold aS;by_cases h:aU c lang=true
  ·rw [if_pos h];exact .inr ⟨cE (dt h).1,rfl⟩
  ·rw [if_neg h];exact .inl rfl
 have k2: ∀u,aS Lib.itoa esc c lang root (2,u)= []∨(gP c∧ ∃s∈c.an,aS Lib.itoa esc c lang root (2,u)=gq esc (ak c.aa lang) s):=fun u=>by
  rcases key (2,u) with h | ⟨hc,h⟩
  ·exact .inl h
  ·rw [h];unfold vB eH;simp only [show¬ (2:Int)=3 by decide,show¬ (2:Int)=1 by decide,if_false,if_true,false_and];split
   ·split
    ·rename_i i hi s hs;exact .inr ⟨hc,s,List.mem_of_getElem? hs,rfl⟩
    ·exact .inl rfl
   ·exact .inl rfl
 refine ⟨fun u=> ?_,fun u=> ?_,fun u=> ?_,fun k u hk=> ?_⟩
 ·rcases key (1,u) with h | ⟨hc,h⟩
  ·rw [h];simp
  ·rw [h];unfold vB eH;simp only [show¬ (1:Int)=3 by decide,if_false,if_true,false_and];exact BS hc root u
 ·rcases k2 u with h | ⟨hc,s,hs,h⟩
  ·rw [h];simp
  ·rw [h];exact (vQ hf hc hs _).1
 ·rcases k2 u with h | ⟨hc,s,hs,h⟩
  ·rw [h];simp [splitB]
  ·rw [h];exact (vQ hf hc hs _).2
 ·rcases key (k,u) with h | ⟨hc,h⟩
  ·rw [h];simp
  ·rw [h];unfold vB;rcases hk with rfl | rfl
   ·simp only [true_and];split
    ·simp
    ·rename_i hr;unfold eH;simp only [show¬ (3:Int)=1 by decide,show¬ (3:Int)=2 by decide,if_false,if_true];exact IF hc _ u (by omega) (by omega)
   ·unfold eH;simp only [show¬ (4:Int)=1 by decide,show¬ (4:Int)=2 by decide,show¬ (4:Int)=3 by decide,if_false,if_true,false_and];exact zz (fun s hs=>⟨(hc.an s hs).mark,(hc.an s hs).zA⟩) u
theorem DF (f:Cell→ae) (S:List Cell) (x:Cell):(aB (S.map fun z=>(z,f z)) x).getD []= []∨(aB (S.map fun z=>(z,f z)) x).getD []=f x:=by
 rw [iI];split
 ·exact .inr rfl
 ·exact .inl rfl
open Go.Am Go.ChangeShapes Go.WideShapes Go.RowKit
end Go.Proofs.YtfnkchadeaedlaaGreatDoor
