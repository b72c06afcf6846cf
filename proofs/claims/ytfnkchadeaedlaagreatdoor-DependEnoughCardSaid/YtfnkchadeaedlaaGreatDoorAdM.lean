/-
 Catalogs as the machine's values. Places in slices of strings and numbers; comparisons. Check of package aid, part by part: languages, labels, facts. Labels of a catalog. Facts of a sheet. The sheet of a unit. The sheets of a catalog; Check. Chosen facts, labels, citations, by a preference. Preferences, chosen facts, labels, citations. strings.Builder, whatever boxes lie about it: its variable is box k, its bytes are box j. Catalogs that come in. strconv.ParseUint at base 10 with few bits; strings.IndexByte. Pieces: aid.unit, depend.cited. aid.expand: a text with its pieces written out. aid.section: the section of a sheet. Maps with numbers as keys. aid.numbered: the sheets below a root with their numbers. aid.Number: the number of a unit below a root. aid.Compile: the whole finding aid. aid.speaks, Choose, Name, Cite.
-/
import Derived.Test.YtfnkchadeaedlaaGreatDoorIrs
import Derived.Test.YtfnkchadeaedlaaGreatDoorStrM
import Derived.Test.YtfnkchadeaedlaaGreatDoorCatM
import Derived.Lib.ItoaLen
import Derived.Test.YtfnkchadeaedlaaGreatDoorAmFrame
set_option linter.all false
namespace Go.Proofs.YtfnkchadeaedlaaGreatDoor
open Go.Am
set_option maxRecDepth 10000
set_option maxHeartbeats 4000000
def au (l:List ae):List AV:=l.map .str
def cM (l:Lb):AV:= .agg [.int .i64 l.el,.str l.lang,.str l.text,.int .i64 l.ix]
def er (f:Fc):AV:= .agg [.int .i64 f.el,.str f.lang,.str f.text]
def bk (s:Sh):AV:= .agg [.int .i64 s.unit,.int .i64 s.par,.int .i64 s.level,.str s.mark,.str s.title,.ah s.fn s.fz (s.facts.map er)]
def di (c:Ct):List AV:= [.ah c.ln c.lz (au c.aa),.ah c.bn c.bz (c.av.map cM),.ah c.sn c.sz (c.an.map bk)]
def bM (c:Ct):AV:= .agg (di c)
structure Sh.ok (s:Sh):Prop where
 fz:s.facts≠ []→s.fz=3
 fl:s.facts.length<1000000
structure Ct.ok (c:Ct):Prop where
 lz:c.aa≠ []→c.lz=1
 bz:c.av≠ []→c.bz=4
 sz:c.an≠ []→c.sz=6
 ll:c.aa.length<1000000
 bl:c.av.length<1000000
 sl:c.an.length<1000000
 sh: ∀s∈c.an,s.ok
@[simp] theorem tM: ∀(l:List ae),ai (au l)=true
 | []=>rfl
 | x::r=>by simp [au,ai,AV.plain];exact tM r
@[simp] theorem ni: ∀(l:List Lb),ai (l.map cM)=true
 | []=>rfl
 | x::r=>by simp [ai,cM,AV.plain,ni r]
@[simp] theorem iy: ∀(l:List Fc),ai (l.map er)=true
 | []=>rfl
 | x::r=>by simp [ai,er,AV.plain,iy r]
@[simp] theorem cA: ∀(l:List Sh),ai (l.map bk)=true
 | []=>rfl
 | x::r=>by simp [ai,bk,AV.plain,cA r]
theorem zj (L:List ae) {i:Nat} (h:i<L.length):(au L)[i]?=some (.str (L.getD i [])):=by simp [au,h,List.getD_eq_getElem?_getD]
@[simp] theorem ki (L:List ae):(au L).length=L.length:=by simp [au]
theorem get_map {α:Type} (f:α→AV) (l:List α) {i:Nat} (h:i<l.length):(l.map f)[i]?=some (f l[i]):=by simp [h]
theorem ne_of_lt {α:Type} {l:List α} {i:Nat} (h:i<l.length):l≠ []:=fun h0=>by rw [h0] at h;simp at h
end Go.Proofs.YtfnkchadeaedlaaGreatDoor
namespace Go.Proofs.YtfnkchadeaedlaaGreatDoor
open Go.Am
set_option maxRecDepth 10000
set_option maxHeartbeats 4000000
theorem Pw (L:List ae) {i:Nat} (h:i<L.length):L.drop i=L.getD i []::L.drop (i+1):=by rw [List.drop_eq_getElem_cons h];simp [List.getD_eq_getElem?_getD,h]
def oA (w:ae):List ae→Nat→Int
 | [],_=> -1
 | x::r,i=>if w==x then (i:Int) else oA w r (i+1)
theorem kj (nl:Option Bool) (z:Nat) (L:List ae) (hz:L≠ []→z=1) (hL:L.length<1000000) (w:ae):ar cfg 107 [.ah nl z (au L),.str w] []=some (.int .i64 (oA w L 0), []):=by
 refine ad Px LB ?_;simp (maxSteps:=9^9) (disch:=omega) [-List.map_replicate,-List.map_set,-List.getD_eq_getElem?_getD,-getElem?_pos,-getElem?_neg,om,Kw,ki];refine Wp.bw (fun (i:Nat)=>L.length-i) (fun i=> [some (.ah nl z (au L)),some (.str w),none,none,some (.int .i64 L.length),some (.int .i64 i),none,none]) (fun _=> []) (fun i=>oA w L 0=oA w (L.drop i) i∧i≤L.length) ?_ 0 ⟨by simp,by omega⟩ (by simp) rfl;rintro i ⟨hi,hl⟩;rw [hi];by_cases h1:i<L.length
 ·have hg:=zj L h1;obtain rfl:=hz (ne_of_lt h1);rw [Pw L h1] at hi⊢;simp only [oA] at hi⊢;generalize L.getD i []=x at*
  cases he:w==x with
  | true=>simp (maxSteps:=9^9) (disch:=omega) [-List.map_replicate,-List.map_set,-List.getD_eq_getElem?_getD,-getElem?_pos,-getElem?_neg,om,h1,hg,he]
  | false=>rw [he] at hi;simp (maxSteps:=9^9) (disch:=omega) [-List.map_replicate,-List.map_set,-List.getD_eq_getElem?_getD,-getElem?_pos,-getElem?_neg,om,h1,hg,he];exact ⟨i+1,⟨by simp,by omega⟩,by omega,by simp⟩
 ·rw [List.drop_eq_nil_of_le (by omega)];simp (maxSteps:=9^9) (disch:=omega) [-List.map_replicate,-List.map_set,-List.getD_eq_getElem?_getD,-getElem?_pos,-getElem?_neg,om,h1,oA]
theorem zk (w:ae): ∀(L:List ae) (i:Nat),decide (0≤oA w L i)=fW L w
 | [],i=>rfl
 | x::r,i=>by
  simp only [oA,fW,List.any_cons];have ih:=zk w r (i+1);by_cases he:(w==x)=true
  ·simp only [he,if_true,Bool.true_or];simp
  ·rw [Bool.not_eq_true] at he;simp only [he,Bool.false_or,Bool.false_eq_true,if_false];exact ih
theorem nj (nl:Option Bool) (z:Nat) (L:List ae) (hz:L≠ []→z=1) (hL:L.length<1000000) (w:ae):ar cfg 57 [.ah nl z (au L),.str w] []=some (.bool (fW L w), []):=by
 refine ad SR Py ?_;have h1:=kj nl z L hz hL w;rw [←zk w L 0];by_cases h4:0≤oA w L 0
 ·simp (maxSteps:=9^9) (disch:=omega) [-List.map_replicate,-List.map_set,-List.getD_eq_getElem?_getD,-getElem?_pos,-getElem?_neg,om,LC,h1,h4]
 ·simp (maxSteps:=9^9) (disch:=omega) [-List.map_replicate,-List.map_set,-List.getD_eq_getElem?_getD,-getElem?_pos,-getElem?_neg,om,LC,h1,h4]
theorem B4 (w:ae): ∀(L:List ae) (i:Nat),oA w L i=match qO L w with | some k=>((i+k:Nat):Int) | none=> -1
 | [],i=>rfl
 | x::r,i=>by
  unfold oA qO;by_cases h:x=w
  ·subst h;rw [if_pos rfl];simp
  ·have hb:(w==x)=false:=by simpa using fun h'=>h h'.symm
   rw [if_neg h,hb];simp only [Bool.false_eq_true,if_false];rw [B4 w r (i+1)];cases qO r w with
   | none=>rfl
   | some k=>simp only [Option.map_some];congr 1;omega
theorem DK (w:ae) (L:List ae):oA w L 0=rk L w:=by
 rw [B4];unfold rk;cases qO L w with
 | none=>rfl
 | some k=>simp
def dW (l:List Int):List AV:=l.map (AV.int .i64)
@[simp] theorem ES (l:List Int):(dW l).length=l.length:=by simp [dW]
def zl (w:Int):List Int→Nat→Int
 | [],_=> -1
 | x::r,i=>if w=x then (i:Int) else zl w r (i+1)
theorem ET (nl:Option Bool) (z:Nat) (L:List Int) (hz:L≠ []→z=1) (hL:L.length<1000000) (w:Int):ar cfg 156 [.ah nl z (dW L),.int .i64 w] []=some (.int .i64 (zl w L 0), []):=by
 refine ad Pz LD ?_;simp (maxSteps:=9^9) (disch:=omega) [-List.map_replicate,-List.map_set,-List.getD_eq_getElem?_getD,-getElem?_pos,-getElem?_neg,om,Kx];refine Wp.bw (fun (i:Nat)=>L.length-i) (fun i=> [some (.ah nl z (dW L)),some (.int .i64 w),none,none,some (.int .i64 L.length),some (.int .i64 i),none,none]) (fun _=> []) (fun i=>zl w L 0=zl w (L.drop i) i∧i≤L.length) ?_ 0 ⟨by simp,by omega⟩ (by simp) rfl;rintro i ⟨hi,hl⟩;rw [hi];by_cases h1:i<L.length
 ·have hg:(dW L)[i]?=some (.int .i64 L[i]):=by simp [dW,h1]
  obtain rfl:=hz (ne_of_lt h1);rw [List.drop_eq_getElem_cons h1] at hi⊢;simp only [zl] at hi⊢;generalize L[i]=x at*
  by_cases he:w=x
  ·simp (maxSteps:=9^9) (disch:=omega) [-List.map_replicate,-List.map_set,-List.getD_eq_getElem?_getD,-getElem?_pos,-getElem?_neg,om,h1,hg,he]
  ·rw [if_neg he] at hi;simp (maxSteps:=9^9) (disch:=omega) [-List.map_replicate,-List.map_set,-List.getD_eq_getElem?_getD,-getElem?_pos,-getElem?_neg,om,h1,hg,he];exact ⟨i+1,⟨by simp,by omega⟩,by omega,by simp⟩
 ·rw [List.drop_eq_nil_of_le (by omega)];simp (maxSteps:=9^9) (disch:=omega) [-List.map_replicate,-List.map_set,-List.getD_eq_getElem?_getD,-getElem?_pos,-getElem?_neg,om,h1,zl]
theorem Gv (w:Int): ∀(L:List Int) (i:Nat),zl w L i=match oB L w with | some k=>((i+k:Nat):Int) | none=> -1
 | [],i=>rfl
 | x::r,i=>by
  unfold zl oB;by_cases h:x=w
  ·subst h;rw [if_pos rfl,if_pos rfl];simp
  ·rw [if_neg h,if_neg (fun h'=>h h'.symm)];rw [Gv w r (i+1)];cases oB r w with
   | none=>rfl
   | some k=>simp only [Option.map_some];congr 1;omega
def iL (a b:Int):Int:=if a<b then -1 else if a=b then 0 else 1
theorem DM (a:Int):ar cfg 146 [.int .i64 a] []=some (.bool false, []):=by refine ad PA LF ?_;simp (maxSteps:=9^9) (disch:=omega) [-List.map_replicate,-List.map_set,-List.getD_eq_getElem?_getD,-getElem?_pos,-getElem?_neg,om,Ky]
theorem tv (a b:Int):ar cfg 88 [.int .i64 a,.int .i64 b] []=some (.int .i64 (iL a b), []):=by
 refine ad SS PB ?_;have h1:=DM a;have h2:=DM b;unfold iL;by_cases h3:a<b
 ·simp (maxSteps:=9^9) (disch:=omega) [-List.map_replicate,-List.map_set,-List.getD_eq_getElem?_getD,-getElem?_pos,-getElem?_neg,om,IY,h1,h2,h3]
 ·by_cases h4:a=b
  ·subst h4;simp (maxSteps:=9^9) (disch:=omega) [-List.map_replicate,-List.map_set,-List.getD_eq_getElem?_getD,-getElem?_pos,-getElem?_neg,om,IY,h1]
  ·have h5:b<a:=by omega
   simp (maxSteps:=9^9) (disch:=omega) [-List.map_replicate,-List.map_set,-List.getD_eq_getElem?_getD,-getElem?_pos,-getElem?_neg,om,IY,h1,h2,h3,h4,h5]
theorem DN (a:ae):ar cfg 184 [.str a] []=some (.bool false, []):=by refine ad PC LG ?_;simp (maxSteps:=9^9) (disch:=omega) [-List.map_replicate,-List.map_set,-List.getD_eq_getElem?_getD,-getElem?_pos,-getElem?_neg,om,Kz]
theorem DO (a b:ae):ar cfg 155 [.str a,.str b] []=some (.int .i64 (Lib.compareBytes a b), []):=by
 refine ad PD LH ?_;have h1:=DN a;have h2:=DN b;obtain ⟨k1,k2,k3⟩:=lZ a b;obtain ⟨l1,l2,l3⟩:=lZ b a;have sw:=DP a b;have k4:=PE a b;rw [sw] at l1;generalize Lib.compareBytes a b=c at*
 rcases k3 with rfl | rfl | rfl
 ·simp (maxSteps:=9^9) (disch:=omega) [-List.map_replicate,-List.map_set,-List.getD_eq_getElem?_getD,-getElem?_pos,-getElem?_neg,om,DQ,h1,h2,k1]
 ·simp (maxSteps:=9^9) (disch:=omega) [-List.map_replicate,-List.map_set,-List.getD_eq_getElem?_getD,-getElem?_pos,-getElem?_neg,om,DQ,h1,h2,k1,l1,k4]
 ·simp (maxSteps:=9^9) (disch:=omega) [-List.map_replicate,-List.map_set,-List.getD_eq_getElem?_getD,-getElem?_pos,-getElem?_neg,om,DQ,h1,h2,k1,l1,k4]
def IK:List Int→Int
 | []=>0
 | a::r=>if a=0 then IK r else a
theorem PF (nl:Option Bool) (L:List Int) (hL:L.length<1000000):ar cfg 87 [.ah nl 1 (dW L)] []=some (.int .i64 (IK L), []):=by
 refine ad SU PG ?_;simp (maxSteps:=9^9) (disch:=omega) [-List.map_replicate,-List.map_set,-List.getD_eq_getElem?_getD,-getElem?_pos,-getElem?_neg,om,PH];refine Wp.bw (fun (i:Nat)=>L.length-i) (fun i=> [none,none,some (.int .i64 0),none,some (.ah nl 1 (dW L)),some (.int .i64 L.length),some (.int .i64 i),none,none]) (fun _=> []) (fun i=>IK L=IK (L.drop i)∧i≤L.length) ?_ 0 ⟨by simp,by omega⟩ (by simp) rfl;rintro i ⟨hi,hl⟩;rw [hi];by_cases h1:i<L.length
 ·have hg:(dW L)[i]?=some (.int .i64 L[i]):=by simp [dW,h1]
  rw [List.drop_eq_getElem_cons h1] at hi⊢;simp only [IK] at hi⊢;generalize L[i]=x at*
  by_cases he:x=0
  ·rw [if_pos he] at hi;simp (maxSteps:=9^9) (disch:=omega) [-List.map_replicate,-List.map_set,-List.getD_eq_getElem?_getD,-getElem?_pos,-getElem?_neg,om,h1,hg,he];exact ⟨i+1,⟨by simp,by omega⟩,by omega,by simp⟩
  ·simp (maxSteps:=9^9) (disch:=omega) [-List.map_replicate,-List.map_set,-List.getD_eq_getElem?_getD,-getElem?_pos,-getElem?_neg,om,h1,hg,he]
 ·rw [List.drop_eq_nil_of_le (by omega)];simp (maxSteps:=9^9) (disch:=omega) [-List.map_replicate,-List.map_set,-List.getD_eq_getElem?_getD,-getElem?_pos,-getElem?_neg,om,h1,IK]
theorem B5 (nl:Option Bool) (a b:Int):ar cfg 87 [.ah nl 1 [.int .i64 a,.int .i64 b]] []=some (.int .i64 (if a=0 then b else a), []):=by
 have h:=PF nl [a,b] (by simp)
 have e:IK [a,b]=if a=0 then b else a:=by
  unfold IK IK IK;split
  ·split
   ·rename_i h;rw [h]
   ·rfl
  ·rfl
 rw [e] at h;exact h
theorem wo (a b:Int) (s t:ae):(0≤(if iL a b=0 then Lib.compareBytes s t else iL a b))↔nT a s b t=false:=by
 unfold nT iL;rw [decide_eq_false_iff_not];by_cases h1:a<b
 ·simp [h1]
 ·rw [if_neg h1];by_cases h2:a=b
  ·rw [if_pos h2];simp [h1,h2]
  ·simp [h1,h2]
end Go.Proofs.YtfnkchadeaedlaaGreatDoor
namespace Go.Proofs.YtfnkchadeaedlaaGreatDoor
open Go.Am
set_option maxRecDepth 10000
set_option maxHeartbeats 4000000
theorem LI (s:ae):ar cfg 154 [.str s] []=some (.bool (EU s), []):=by
 refine ad PI LJ ?_;unfold EU;by_cases h:s.length=2
 ·match s,h with
  | [a,b],_=>
   simp only [List.getD_cons_zero,List.getD_cons_succ]
   by_cases h1:97≤a.toNat <;> by_cases h2:a.toNat≤122 <;> by_cases h3:97≤b.toNat <;> by_cases h4:b.toNat≤122 <;>
    first
    | omega
    | simp (maxSteps:=9^9) (disch:=omega) [-List.map_replicate,-List.map_set,-List.getD_eq_getElem?_getD,-getElem?_pos,-getElem?_neg,om,Gw,h1,h2,h3,h4]
 ·have h2:((s.length:Int)==2)=false:=by simp;omega
  simp (maxSteps:=9^9) (disch:=omega) [-List.map_replicate,-List.map_set,-List.getD_eq_getElem?_getD,-getElem?_pos,-getElem?_neg,om,Gw,h,h2]
theorem tN {α:Type} (L:List α) {i:Nat} (h:i<L.length):L.take (i+1)=L.take i++ [L[i]]:=by rw [List.take_succ_eq_append_getElem h]
theorem Gx (c:Ct) (hc:c.ok):ar cfg 104 [bM c] []=some (.int .i64 (oC c.aa), []):=by
 refine ad PJ LK ?_;have hl:=hc.ll;have hz:=hc.lz;unfold oC bM di;generalize c.av.map cM=A2 at*
 generalize c.an.map bk=A3 at*
 generalize c.aa=L at*
 generalize c.lz=z at*
 by_cases h0:L.length<1
 ·simp (maxSteps:=9^9) (disch:=omega) [-List.map_replicate,-List.map_set,-List.getD_eq_getElem?_getD,-getElem?_pos,-getElem?_neg,om,DR,h0]
 by_cases h8:8<L.length
 ·simp (maxSteps:=9^9) (disch:=omega) [-List.map_replicate,-List.map_set,-List.getD_eq_getElem?_getD,-getElem?_pos,-getElem?_neg,om,DR,h0,h8]
 obtain rfl:z=1:=hz (by intro h;rw [h] at h0;simp at h0);have hif:(if L.length<1∨8<L.length then 2 else gu [] L)=gu [] L:=if_neg (by omega);rw [hif];simp (maxSteps:=9^9) (disch:=omega) [-List.map_replicate,-List.map_set,-List.getD_eq_getElem?_getD,-getElem?_pos,-getElem?_neg,om,DR,h0,h8];refine Wp.bw (fun (i:Nat)=>L.length-i) (fun i=> [none,some (.ptr 0 0),none,none,none,none,some (.ah c.ln 1 (au L)),some (.int .i64 L.length),some (.int .i64 i),none,none,none,none,none]) (fun _=> [.var 26 [.ah c.ln 1 (au L),.ah c.bn c.bz A2,.ah c.sn c.sz A3]]) (fun i=>gu [] L=gu (L.take i) (L.drop i)∧i≤L.length) ?_ 0 ⟨by simp,by omega⟩ (by simp) rfl;rintro i ⟨hi,hil⟩;rw [hi];by_cases h1:i<L.length
 ·have hg:(au L)[i]?=some (.str L[i]):=by simp [au,h1]
  have htk:(au L).take i=au (L.take i):=by simp [au]
  have ht:=LI L[i];have hh:=nj c.ln 1 (L.take i) (fun _=>rfl) (by simp;omega) L[i];rw [List.drop_eq_getElem_cons h1] at hi⊢;simp only [gu] at hi⊢;rw [←tN L h1] at hi⊢;generalize L[i]=x at*
  cases he:EU x with
  | false=>rw [he] at ht;simp (maxSteps:=9^9) (disch:=omega) [-List.map_replicate,-List.map_set,-List.getD_eq_getElem?_getD,-getElem?_pos,-getElem?_neg,om,h1,hg,ht]
  | true=>
   rw [he] at hi ht;cases hb:fW (L.take i) x with
   | true=>rw [hb] at hh;simp (maxSteps:=9^9) (disch:=omega) [-List.map_replicate,-List.map_set,-List.getD_eq_getElem?_getD,-getElem?_pos,-getElem?_neg,om,h1,hg,ht,htk,hh]
   | false=>rw [hb] at hi hh;simp (maxSteps:=9^9) (disch:=omega) [-List.map_replicate,-List.map_set,-List.getD_eq_getElem?_getD,-getElem?_pos,-getElem?_neg,om,h1,hg,ht,htk,hh];exact ⟨i+1,⟨by simpa using hi,by omega⟩,by omega,by simp⟩
 ·rw [List.drop_eq_nil_of_le (by omega)];simp (maxSteps:=9^9) (disch:=omega) [-List.map_replicate,-List.map_set,-List.getD_eq_getElem?_getD,-getElem?_pos,-getElem?_neg,om,h1,gu]
end Go.Proofs.YtfnkchadeaedlaaGreatDoor
namespace Go.Proofs.YtfnkchadeaedlaaGreatDoor
open Go.Am
set_option maxRecDepth 10000
set_option maxHeartbeats 4000000
theorem IZ (c:Ct) (hc:c.ok):ar cfg 105 [bM c] []=some (.int .i64 (tO c.aa c.av), []):=by
 refine ad PK LL ?_;have hl:=hc.ll;have hz:=hc.lz;have hbl:=hc.bl;have hbz:=hc.bz;unfold tO bM di;generalize c.an.map bk=A3 at*
 generalize c.aa=L at*
 generalize c.lz=z at*
 generalize c.av=B at*
 generalize c.bz=bz at*
 have hBl:(B.map cM).length=B.length:=by simp
 have hE: ∀k (h:k<B.length),(B.map cM)[k]?=some (.agg [.int .i64 B[k].el,.str B[k].lang,.str B[k].text,.int .i64 B[k].ix]):=fun k h=>get_map _ _ h;have hpl:ai (B.map cM)=true:=ni B;generalize B.map cM=E at*
 by_cases h0:256<B.length
 ·simp (maxSteps:=9^9) (disch:=omega) [-List.map_replicate,-List.map_set,-List.getD_eq_getElem?_getD,-getElem?_pos,-getElem?_neg,om,Gy,h0,hBl]
 rw [if_neg h0];simp (maxSteps:=9^9) (disch:=omega) [-List.map_replicate,-List.map_set,-List.getD_eq_getElem?_getD,-getElem?_pos,-getElem?_neg,om,Gy,h0,hBl];refine Wp.bw (fun (i:Nat)=>B.length-i) (fun i=> [none,some (.ptr 0 0),none,none,none,none,none,some (.ah c.bn bz E),some (.int .i64 B.length),some (.int .i64 i),none,none,none,none,none,none,none,none,none,none,none,none,none,none]) (fun _=> [.var 26 [.ah c.ln z (au L),.ah c.bn bz E,.ah c.sn c.sz A3]]) (fun i=>iM L none B=iM L (if i=0 then none else B[i-1]?) (B.drop i)∧i≤B.length) ?_ 0 ⟨by simp,by omega⟩ (by simp) rfl;rintro i ⟨hi,hil⟩;rw [hi];clear hi;by_cases h1:i<B.length
 ·have hg:=hE i h1;obtain rfl:bz=4:=hbz (ne_of_lt h1);have hh:=nj c.ln z L hz hl B[i].lang;rw [List.drop_eq_getElem_cons h1];simp only [iM];have fin: ∃a,(iM L (some B[i]) (B.drop (i+1))=iM L (if a=0 then none else B[a-1]?) (B.drop a)∧a≤B.length)∧B.length-a<B.length-i∧(i:Int)+1=(a:Int):=⟨i+1,⟨by simp [h1],by omega⟩,by omega,by simp⟩
  -- the one before
  have hp:i≠0→ ∃p,B[i-1]?=some p∧E[i-1]?=some (.agg [.int .i64 p.el,.str p.lang,.str p.text,.int .i64 p.ix]):=fun h=>⟨B[i-1],List.getElem?_eq_getElem (by omega),hE _ (by omega)⟩;clear hE hz hbz;generalize iM L (some B[i]) (B.drop (i+1))=R at*
  generalize B[i]=x at*
  have lab: ∀o,x4 L o x=if x.el<1∨64<x.el∨x.ix<0∨3<x.ix then 2 else if fW L x.lang=false then 7 else if x.text.length<1∨64<x.text.length then 4 else
   match o with
   | none=>0
   | some p=>if nT p.el p.lang x.el x.lang=false then 5 else if p.el=x.el∧p.ix≠x.ix then 10 else 0:=fun o=>rfl
  by_cases hi0:i=0
  ·subst hi0;rw [if_pos rfl];clear hp lab;generalize hlv:x4 L none x=lv at*
   simp (maxSteps:=9^9) (disch:=omega) [-List.map_replicate,-List.map_set,-List.getD_eq_getElem?_getD,-getElem?_pos,-getElem?_neg,om,h1,hg,af,hh];unfold x4 at hlv;by_cases e1:((x.el<1∨64<x.el)∨x.ix<0)∨3<x.ix
   ·rw [if_pos e1];rw [if_pos (by omega)] at hlv;subst hlv;rfl
   rw [if_neg e1];rw [if_neg (by omega)] at hlv;cases e2:fW L x.lang with
   | false=>rw [if_neg (by simp)];rw [if_pos e2] at hlv;subst hlv;rfl
   | true=>
    rw [if_pos rfl];rw [if_neg (by simp [e2])] at hlv;by_cases e3:(x.text.length:Int)<1∨64<(x.text.length:Int)
    ·rw [if_pos e3];rw [if_pos (by omega)] at hlv;subst hlv;rfl
    rw [if_neg e3];rw [if_neg (by omega)] at hlv;subst hlv;rw [if_pos rfl];exact fin
  ·obtain ⟨p,q1,q2⟩:=hp hi0;rw [if_neg hi0,q1];have c1:=tv p.el x.el;have c2:=DO p.lang x.lang;have c3:=B5 none (iL p.el x.el) (Lib.compareBytes p.lang x.lang);have c4:=wo p.el x.el p.lang x.lang;generalize (if iL p.el x.el=0 then Lib.compareBytes p.lang x.lang else iL p.el x.el)=rr at*
   generalize iL p.el x.el=r1 at*
   generalize Lib.compareBytes p.lang x.lang=r2 at*
   have hi1:(i:Int)≠0:=by omega
   have hi2:((i:Int)-1).toNat=i-1:=by omega
   clear hp lab;generalize hlv:x4 L (some p) x=lv at*
   simp (maxSteps:=9^9) (disch:=omega) [-List.map_replicate,-List.map_set,-List.getD_eq_getElem?_getD,-getElem?_pos,-getElem?_neg,om,h1,hg,af,hh,hi0,hi1,hi2,q2,c1,c2,c3];unfold x4 at hlv;by_cases e1:((x.el<1∨64<x.el)∨x.ix<0)∨3<x.ix
   ·rw [if_pos e1];rw [if_pos (by omega)] at hlv;subst hlv;rfl
   rw [if_neg e1];rw [if_neg (by omega)] at hlv;cases e2:fW L x.lang with
   | false=>rw [if_neg (by simp)];rw [if_pos e2] at hlv;subst hlv;rfl
   | true=>
    rw [if_pos rfl];rw [if_neg (by simp [e2])] at hlv;by_cases e3:(x.text.length:Int)<1∨64<(x.text.length:Int)
    ·rw [if_pos e3];rw [if_pos (by omega)] at hlv;subst hlv;rfl
    rw [if_neg e3];rw [if_neg (by omega)] at hlv;simp only at hlv;by_cases e4:0≤rr
    ·rw [if_pos e4];rw [if_pos (c4.1 e4)] at hlv;subst hlv;rfl
    rw [if_neg e4];rw [if_neg (fun h=>e4 (c4.2 h))] at hlv;by_cases e5:p.el=x.el∧ ¬ p.ix=x.ix
    ·rw [if_pos e5];rw [if_pos e5] at hlv;subst hlv;rfl
    rw [if_neg e5];rw [if_neg e5] at hlv;subst hlv;rw [if_pos rfl];exact fin
 ·rw [List.drop_eq_nil_of_le (by omega)];simp (maxSteps:=9^9) (disch:=omega) [-List.map_replicate,-List.map_set,-List.getD_eq_getElem?_getD,-getElem?_pos,-getElem?_neg,om,h1,iM]
end Go.Proofs.YtfnkchadeaedlaaGreatDoor
namespace Go.Proofs.YtfnkchadeaedlaaGreatDoor
open Go.Am
set_option maxRecDepth 10000
set_option maxHeartbeats 4000000
theorem I0 (c:Ct) (hc:c.ok) (nl:Option Bool) (bz:Nat) (B:List Fc) (hbz:B≠ []→bz=3) (hbl:B.length<1000000):ar cfg 157 [bM c,.ah nl bz (B.map er)] []=some (.int .i64 (nZ c.aa B), []):=by
 refine ad PL LM ?_;have hl:=hc.ll;have hz:=hc.lz;unfold nZ bM di;generalize c.an.map bk=A3 at*
 generalize c.av.map cM=A2 at*
 generalize c.aa=L at*
 generalize c.lz=z at*
 have hBl:(B.map er).length=B.length:=by simp
 have hE: ∀k (h:k<B.length),(B.map er)[k]?=some (.agg [.int .i64 B[k].el,.str B[k].lang,.str B[k].text]):=fun k h=>get_map _ _ h;have hpl:ai (B.map er)=true:=iy B;generalize B.map er=E at*
 by_cases h0:32<B.length
 ·simp (maxSteps:=9^9) (disch:=omega) [-List.map_replicate,-List.map_set,-List.getD_eq_getElem?_getD,-getElem?_pos,-getElem?_neg,om,Gz,h0,hBl]
 rw [if_neg h0];simp (maxSteps:=9^9) (disch:=omega) [-List.map_replicate,-List.map_set,-List.getD_eq_getElem?_getD,-getElem?_pos,-getElem?_neg,om,Gz,h0,hBl];refine Wp.bw (fun (a:Nat×Option AV×Option AV×Option AV×Option AV)=>B.length-a.1) (fun a=> [none,some (.ah nl bz E),some (.ptr 0 0),none,none,none,none,some (.ah nl bz E),some (.int .i64 B.length),some (.int .i64 a.1),none,none,none,none,none,none,a.2.1,a.2.2.1,a.2.2.2.1,a.2.2.2.2,none]) (fun _=> [.var 26 [.ah c.ln z (au L),.ah c.bn c.bz A2,.ah c.sn c.sz A3]]) (fun a=>iN L none B=iN L (if a.1=0 then none else B[a.1-1]?) (B.drop a.1)∧a.1≤B.length) ?_ (0,none,none,none,none) ⟨by simp,by simp⟩ (by simp) rfl;rintro ⟨i,o1,o2,o3,o4⟩ ⟨hi,hil⟩;simp only at hi hil⊢;rw [hi];clear hi;by_cases h1:i<B.length
 ·have hg:=hE i h1;obtain rfl:bz=3:=hbz (ne_of_lt h1);have hh:=nj c.ln z L hz hl B[i].lang;rw [List.drop_eq_getElem_cons h1];simp only [iN];have fin: ∃a,(iN L (some B[i]) (B.drop (i+1))=iN L (if a=0 then none else B[a-1]?) (B.drop a)∧a≤B.length)∧B.length-a<B.length-i∧(i:Int)+1=(a:Int):=⟨i+1,⟨by simp [h1],by omega⟩,by omega,by simp⟩;have hp:i≠0→ ∃p,B[i-1]?=some p∧E[i-1]?=some (.agg [.int .i64 p.el,.str p.lang,.str p.text]):=fun h=>⟨B[i-1],List.getElem?_eq_getElem (by omega),hE _ (by omega)⟩;clear hE hz hbz;generalize iN L (some B[i]) (B.drop (i+1))=R at*
  generalize B[i]=x at*
  by_cases hi0:i=0
  ·subst hi0;rw [if_pos rfl];clear hp;generalize hlv:zm L none x=lv at*
   simp (maxSteps:=9^9) (disch:=omega) [-List.map_replicate,-List.map_set,-List.getD_eq_getElem?_getD,-getElem?_pos,-getElem?_neg,om,h1,hg,af,hh];unfold zm at hlv;by_cases e1:x.el<1∨64<x.el
   ·rw [if_pos e1];rw [if_pos e1] at hlv;subst hlv;rfl
   rw [if_neg e1];rw [if_neg e1] at hlv;cases e2:fW L x.lang with
   | false=>rw [if_neg (by simp)];rw [if_pos e2] at hlv;subst hlv;rfl
   | true=>
    rw [if_pos rfl];rw [if_neg (by simp [e2])] at hlv;by_cases e3:(x.text.length:Int)<1∨4096<(x.text.length:Int)
    ·rw [if_pos e3];rw [if_pos (by omega)] at hlv;subst hlv;rfl
    rw [if_neg e3];rw [if_neg (by omega)] at hlv;subst hlv;rw [if_pos rfl];exact fin
  ·obtain ⟨p,q1,q2⟩:=hp hi0;rw [if_neg hi0,q1];have c1:=tv p.el x.el;have c2:=DO p.lang x.lang;have c3:=B5 none (iL p.el x.el) (Lib.compareBytes p.lang x.lang);have c4:=wo p.el x.el p.lang x.lang;generalize (if iL p.el x.el=0 then Lib.compareBytes p.lang x.lang else iL p.el x.el)=rr at*
   generalize iL p.el x.el=r1 at*
   generalize Lib.compareBytes p.lang x.lang=r2 at*
   have hi1:(0:Int)<(i:Int):=by omega
   have hi2:((i:Int)-1).toNat=i-1:=by omega
   clear hp;generalize hlv:zm L (some p) x=lv at*
   simp (maxSteps:=9^9) (disch:=omega) [-List.map_replicate,-List.map_set,-List.getD_eq_getElem?_getD,-getElem?_pos,-getElem?_neg,om,h1,hg,af,hh,hi0,hi1,hi2,q2,c1,c2,c3];unfold zm at hlv;by_cases e1:x.el<1∨64<x.el
   ·rw [if_pos e1];rw [if_pos e1] at hlv;subst hlv;rfl
   rw [if_neg e1];rw [if_neg e1] at hlv;cases e2:fW L x.lang with
   | false=>rw [if_neg (by simp)];rw [if_pos e2] at hlv;subst hlv;rfl
   | true=>
    rw [if_pos rfl];rw [if_neg (by simp [e2])] at hlv;by_cases e3:(x.text.length:Int)<1∨4096<(x.text.length:Int)
    ·rw [if_pos e3];rw [if_pos (by omega)] at hlv;subst hlv;rfl
    rw [if_neg e3];rw [if_neg (by omega)] at hlv;simp only at hlv;by_cases e4:0≤rr
    ·rw [if_pos e4];rw [if_pos (c4.1 e4)] at hlv;subst hlv;rfl
    rw [if_neg e4];rw [if_neg (fun h=>e4 (c4.2 h))] at hlv;subst hlv;rw [if_pos rfl];exact fin
 ·rw [List.drop_eq_nil_of_le (by omega)];simp (maxSteps:=9^9) (disch:=omega) [-List.map_replicate,-List.map_set,-List.getD_eq_getElem?_getD,-getElem?_pos,-getElem?_neg,om,h1,iN]
end Go.Proofs.YtfnkchadeaedlaaGreatDoor
namespace Go.Proofs.YtfnkchadeaedlaaGreatDoor
open Go.Am
set_option maxRecDepth 10000
set_option maxHeartbeats 4000000
theorem DS (l:List Sh) {i:Nat} (h:i<l.length):(l.map bk)[i]?=some (.agg [.int .i64 l[i].unit,.int .i64 l[i].par,.int .i64 l[i].level,.str l[i].mark,.str l[i].title,.ah l[i].fn l[i].fz (l[i].facts.map er)]):=get_map _ _ h
def zn (u:Int):List Sh→Nat→Int
 | [],_=> -1
 | s::r,i=>if s.unit=u then (i:Int) else zn u r (i+1)
theorem GA (u:Int): ∀(l:List Sh) (i:Nat),zn u l i=match aP l u with | some k=>((i+k:Nat):Int) | none=> -1
 | [],i=>rfl
 | x::r,i=>by
  unfold zn aP;by_cases h:x.unit=u
  ·rw [if_pos h,if_pos h];simp
  ·rw [if_neg h,if_neg h];rw [GA u r (i+1)];cases aP r u with
   | none=>rfl
   | some k=>simp only [Option.map_some];congr 1;omega
theorem GB (u:Int) (l:List Sh):zn u l 0=cH (aP l u):=by
 rw [GA];cases aP l u with
 | none=>rfl
 | some k=>simp [cH]
structure wq (f:FuncId):Prop where
 ex:exts f=none
 ob:tc f=none
 ov:Gs f=none
 mu:jX f=false
theorem zo (nl:Option Bool) (z:Nat) (l:List Sh) (hz:l≠ []→z=6) (hl:l.length<1000000) (f:FuncId) (hns:wq f) (j:Nat) (bs:List ab) (u:Int)
  (hf: ∀s:Sh,ar cfg f [bk s,.ptr j 0] bs=some (.bool (s.unit==u),bs)) (hj:j<bs.length) (hsh:shut bs.length bs=true):
  ar cfg 108 [.ah nl z (l.map bk),.fn f [] [.ptr j 0]] bs=some (.int .i64 (cH (aP l u)),bs):=by
 refine ad PM LN ?_;have hLl:(l.map bk).length=l.length:=by simp
 have hE: ∀i (h:i<l.length),(l.map bk)[i]?=some (bk l[i]):=fun i h=>get_map _ _ h;generalize l.map bk=E at*
 obtain ⟨n1,n2,n3,n4⟩:=hns;simp only [exts,tc,Gs,jX] at n1 n2 n3 n4;have hm:=shut_map (Nat.le_refl _) hsh;simp (maxSteps:=9^9) (disch:=omega) [-List.map_replicate,-List.map_set,-List.getD_eq_getElem?_getD,-getElem?_pos,-getElem?_neg,om,KA,hLl];rw [←GB];refine Wp.bw (fun (i:Nat)=>l.length-i) (fun i=> [some (.ah nl z E),some (.fn f [] [.ptr j 0]),none,none,some (.int .i64 l.length),some (.int .i64 i),none,none]) (fun _=>bs) (fun i=>zn u l 0=zn u (l.drop i) i∧i≤l.length) ?_ 0 ⟨by simp,by omega⟩ (by simp) rfl;rintro i ⟨hi,hil⟩;rw [hi];clear hi;by_cases h1:i<l.length
 ·have hg:=hE i h1;have hs:=hf l[i];obtain rfl:=hz (ne_of_lt h1);rw [List.drop_eq_getElem_cons h1];simp only [zn];generalize l[i]=x at*
  unfold bk at hg hs;simp (maxSteps:=9^9) (disch:=omega) [-List.map_replicate,-List.map_set,-List.getD_eq_getElem?_getD,-getElem?_pos,-getElem?_neg,om,h1,hg,hs,n1,n2,n3,n4];exact fun _=>⟨i+1,⟨rfl,by omega⟩,by omega,by simp⟩
 ·rw [List.drop_eq_nil_of_le (by omega)];simp (maxSteps:=9^9) (disch:=omega) [-List.map_replicate,-List.map_set,-List.getD_eq_getElem?_getD,-getElem?_pos,-getElem?_neg,om,h1,zn]
theorem GC (s:Sh) (u:Int):ar cfg 109 [bk s,.ptr 0 0] [.var 3 [.int .i64 u]]=some (.bool (s.unit==u), [.var 3 [.int .i64 u]]):=by refine ad PN LO ?_;unfold bk;simp (maxSteps:=9^9) (disch:=omega) [-List.map_replicate,-List.map_set,-List.getD_eq_getElem?_getD,-getElem?_pos,-getElem?_neg,om,KB]
theorem tw (nl:Option Bool) (z:Nat) (l:List Sh) (hz:l≠ []→z=6) (hl:l.length<1000000) (u:Int):ar cfg 58 [.ah nl z (l.map bk),.int .i64 u] []=some (.int .i64 (cH (aP l u)), []):=by
 refine ad SV PO ?_;have h:=zo nl z l hz hl 109 ⟨rfl,rfl,rfl,rfl⟩ 0 [.var 3 [.int .i64 u]] u (fun s=>GC s u) (by simp) rfl;have hpl:=cA l;generalize l.map bk=E at*
 simp (maxSteps:=9^9) (disch:=omega) [-List.map_replicate,-List.map_set,-List.getD_eq_getElem?_getD,-getElem?_pos,-getElem?_neg,om,PQ,h,hpl]
end Go.Proofs.YtfnkchadeaedlaaGreatDoor
namespace Go.Proofs.YtfnkchadeaedlaaGreatDoor
open Go.Am
set_option maxRecDepth 10000
set_option maxHeartbeats 4000000
theorem B6 (P:List Int) (k:Nat):(dW P).take k=dW (P.take k):=by simp [dW]
theorem qP (P Q:List Int):dW P++dW Q=dW (P++Q):=by simp [dW]
theorem DT: ∀{l:List Int} {u:Int} {k:Nat},oB l u=some k→k<l.length
 | x::r,u,k,h=>by
  unfold oB at h;split at h
  ·cases h;simp
  ·cases hr:oB r u with
   | none=>rw [hr] at h;cases h
   | some j=>rw [hr] at h;simp only [Option.map_some,Option.some.injEq] at h;have:=DT hr;simp only [List.length_cons];omega
theorem wu (o:Option Nat):(0≤cH o)↔o.isSome=true:=by
 cases o with
 | none=>simp [cH]
 | some n=>simp [cH]
theorem iO (pre:List Sh) (x:Sh):((((x.unit<1∨1073741824<x.unit)∨x.level<1)∨4<x.level)→kU pre x=2)∧
  (¬ (((x.unit<1∨1073741824<x.unit)∨x.level<1)∨4<x.level)→((64<(x.mark.length:Int)∨(x.title.length:Int)<1)∨64<(x.title.length:Int))→kU pre x=4)∧
  (¬ (((x.unit<1∨1073741824<x.unit)∨x.level<1)∨4<x.level)→ ¬ ((64<(x.mark.length:Int)∨(x.title.length:Int)<1)∨64<(x.title.length:Int))→0≤cH (aP pre x.unit)→kU pre x=6)∧
  (¬ (((x.unit<1∨1073741824<x.unit)∨x.level<1)∨4<x.level)→ ¬ ((64<(x.mark.length:Int)∨(x.title.length:Int)<1)∨64<(x.title.length:Int))→ ¬ 0≤cH (aP pre x.unit)→kU pre x=0):=by
 unfold kU;refine ⟨fun h=> ?_,fun h1 h2=> ?_,fun h1 h2 h3=> ?_,fun h1 h2 h3=> ?_⟩
 ·rw [if_pos (by omega)]
 ·rw [if_neg (by omega),if_pos (by omega)]
 ·rw [if_neg (by omega),if_neg (by omega),if_pos ((wu _).1 h3)]
 ·rw [if_neg (by omega),if_neg (by omega),if_neg (fun h=>h3 ((wu _).2 h))]
theorem LP (c:Ct) (hc:c.ok):ar cfg 106 [bM c] []=some (.int .i64 (tP c.aa c.an), []):=by
 refine ad PR LQ ?_;have hF:=fun (B:List Fc) nl z=>I0 c hc nl z B;have hz:=hc.sz;have hl:=hc.sl;have hsh:=hc.sh;unfold tP;unfold bM di at*
 generalize au c.aa=A1 at*
 generalize c.av.map cM=A2 at*
 have hBl:(c.an.map bk).length=c.an.length:=by simp
 have hE: ∀k (h:k<c.an.length),(c.an.map bk)[k]?=some (.agg [.int .i64 c.an[k].unit,.int .i64 c.an[k].par,.int .i64 c.an[k].level,.str c.an[k].mark,.str c.an[k].title,.ah c.an[k].fn c.an[k].fz (c.an[k].facts.map er)]):=fun k h=>DS _ h
 have hfd: ∀k (h:k<c.an.length),ar cfg 58 [.ah c.sn 6 ((c.an.map bk).take k),.int .i64 c.an[k].unit] []=some (.int .i64 (cH (aP (c.an.take k) c.an[k].unit)), []):=fun k h=>by
  have:=tw c.sn 6 (c.an.take k) (fun _=>rfl) (by simp;omega) c.an[k].unit
  rwa [List.map_take] at this
 have hpl:ai (c.an.map bk)=true:=cA _;generalize c.an.map bk=E at*
 generalize c.an=L at*
 by_cases h0:256<L.length
 ·simp (maxSteps:=9^9) (disch:=omega) [-List.map_replicate,-List.map_set,-List.getD_eq_getElem?_getD,-getElem?_pos,-getElem?_neg,om,GD,h0,hBl]
 rw [if_neg h0];simp (maxSteps:=9^9) (disch:=omega) [-List.map_replicate,-List.map_set,-List.getD_eq_getElem?_getD,-getElem?_pos,-getElem?_neg,om,GD,h0,hBl];refine Wp.bw (fun (a:Nat×Nat×List Int×List ab)=>L.length-a.1) (fun a=> [none,some (.ptr 0 0),none,some (.az (1+a.2.1) a.2.2.1.length),none,none,none,none,none,some (.ah c.sn c.sz E),some (.int .i64 L.length),some (.int .i64 a.1),none,none,none,none,none,none,none,none,none,none,none,none,none,none,none,none]) (fun a=> .var 26 [.ah c.ln c.lz A1,.ah c.bn c.bz A2,.ah c.sn c.sz E]::a.2.2.2) (fun a=>l5 c.aa [] [] L=l5 c.aa (L.take a.1) a.2.2.1 (L.drop a.1)∧a.1≤L.length∧a.2.1<a.2.2.2.length∧ab.at a.2.2.2 a.2.1= .sl ⟨false,some 3,none⟩ 1 (dW a.2.2.1)∧a.2.2.1.length≤a.1∧ ∀n,shut n a.2.2.2=true) ?_ (0,0, [], [.sl ⟨false,some 3,none⟩ 1 []]) ⟨by simp,by simp,by simp,rfl,by simp,fun _=>rfl⟩ (by simp) rfl;rintro ⟨i,j,P,J⟩ ⟨hi,hil,hj,hjb,hPl,hJ⟩;simp only at hi hil hj hjb hPl hJ⊢;rw [hi];clear hi;by_cases h1:i<L.length
 ·have hg:=hE i h1;obtain hz6:c.sz=6:=hz (ne_of_lt h1);rw [hz6] at hF⊢;have hh:=hfd i h1;have hso:=hsh L[i] (List.getElem_mem h1);have hFF:=hF L[i].facts L[i].fn L[i].fz hso.fz hso.fl;rw [List.drop_eq_getElem_cons h1];simp only [l5];have htk:L.take (i+1)=L.take i++ [L[i]]:=tN L h1;clear hE hfd hF hz hsh hso;generalize L[i]=x at*
  generalize x.facts.map er=FA at*
  generalize nZ c.aa x.facts=fe at*
  have hix:=ET none 1 P (fun _=>rfl) (by omega) x.par;rw [Gv] at hix;obtain ⟨ct,hctd⟩: ∃ct,ct=ab.var 26 [.ah c.ln c.lz A1,.ah c.bn c.bz A2,.ah c.sn 6 E]:=⟨_,rfl⟩;obtain ⟨bs,hbs⟩: ∃bs,bs=ct::J:=⟨_,rfl⟩;rw [←hctd,←hbs];have hbl:bs.length=J.length+1:=by rw [hbs];rfl
  have hcu: ∀n,shut n [ct]=true:=fun n=>by rw [hctd];rfl
  have e0: ∀l,ab.at (bs++l) 0= .var 26 [.ah c.ln c.lz A1,.ah c.bn c.bz A2,.ah c.sn 6 E]:=fun l=>by rw [hbs,hctd];rfl
  have e0':=e0 [];rw [List.append_nil] at e0'
  have e1: ∀l,ab.at (bs++l) (1+j)= .sl ⟨false,some 3,none⟩ 1 (dW P):=fun l=>by
   rw [hbs,Nat.add_comm];show ab.at (J++l) j=_;rw [eV _ _ hj,hjb]
  have e1':=e1 [];rw [List.append_nil] at e1'
  have mk: ∀Y:ab,(∀n,shut n [Y]=true)→ ∃C,C=ct::J.set j Y∧(∀l,(bs++l).set (1+j) Y=C++l)∧C.length=bs.length∧(∀l,ab.at (C++l) 0= .var 26 [.ah c.ln c.lz A1,.ah c.bn c.bz A2,.ah c.sn 6 E])∧(∀l m,(C++l)[bs.length+m]?=l[m]?)∧(∀l m X,(C++l).set (bs.length+m) X=C++l.set m X)∧C.map (bA bs.length)=C∧(∀l,(C++l).take bs.length=C)∧(∀l m,ab.at (C++l) (bs.length+m)=ab.at l m):=fun Y hY=>by
   have hCl:(ct::J.set j Y).length=bs.length:=by rw [hbl];simp
   refine ⟨ct::J.set j Y,rfl,fun l=> ?_,hCl,fun l=>by rw [hctd];rfl,fun l m=>by rw [←hCl];exact dC _ _ _,fun l m X=>by rw [←hCl];exact cB _ _ _ _,?_,fun l=>List.take_left' hCl,fun l m=>by rw [←hCl,dX]⟩
   ·rw [hbs,Nat.add_comm];show ct::((J++l).set j Y)=_;rw [List.set_append_left _ _ hj];rfl
   ·refine shut_map (Nat.le_refl _) ?_;have h2:=hcu bs.length;have h3:shut bs.length (J.set j Y)=true:=(show nU (J.set j Y) from nU.set (fun n=>hJ n) j (fun n=>hY n)) _;show shut bs.length ([ct]++J.set j Y)=true;rw [dY,h2,h3];rfl
  have a1:bs.length+1-bs.length=1:=by omega
  have a2:bs.length+1+1-bs.length=2:=by omega
  have a3:bs.length+1+1+1-bs.length=3:=by omega
  have hil2:(dW P).length=P.length:=ES P;have hitk: ∀k,(dW P).take k=dW (P.take k):=B6 P;generalize hV:(if kU (L.take i) x=0 then _ else kU (L.take i) x)=V;have b0: ∀l:List ab,(bs++l)[bs.length]?=l[0]?:=fun l=>by have:=dC bs l 0;simpa using this
  have b1: ∀l:List ab,(bs++l)[bs.length+1]?=l[1]?:=fun l=>dC bs l 1;have b2: ∀l:List ab,(bs++l)[bs.length+1+1]?=l[2]?:=fun l=>dC bs l 2;by_cases hpar:x.par=0
  ·have hpl0:fF P x=some 0:=by unfold fF;rw [if_pos hpar]
   rw [hpl0] at hV;by_cases hP0:P= []
   ·subst hP0;obtain ⟨C,hC,s1,s2,s3,s4,s5,s6,s7,s8⟩:=mk (.sl ⟨false,some 3,none⟩ 1 (dW []++ [.int .i64 x.unit])) (fun n=>rfl);have s80: ∀l,ab.at (C++l) bs.length=ab.at l 0:=fun l=>by simpa using s8 l 0
    have s40: ∀l,(C++l)[bs.length]?=l[0]?:=fun l=>by simpa using s4 l 0
    have s50: ∀l X,(C++l).set bs.length X=C++l.set 0 X:=fun l X=>by simpa using s5 l 0 X
    clear hbs hctd mk hcu;simp (maxSteps:=9^9) (disch:=omega) [-List.map_replicate,-List.map_set,-List.getD_eq_getElem?_getD,-getElem?_pos,-getElem?_neg,om,h1,hg,af,hh,hFF,hpar,hix,  e0,e0',e1,e1',s1,s2,s3,s4,s5,s6,s7,s8,s80,s40,s50,b2,b1,b0,a1,a2,a3,hil2,hitk];simp only at hV;obtain ⟨k1,k2,k3,k4⟩:=iO (L.take i) x;by_cases f1:((x.unit<1∨1073741824<x.unit)∨x.level<1)∨4<x.level
    ·rw [if_pos f1];rw [k1 f1,if_neg (by decide)] at hV;exact hV
    rw [if_neg f1];by_cases f2:(64<(x.mark.length:Int)∨(x.title.length:Int)<1)∨64<(x.title.length:Int)
    ·rw [if_pos f2];rw [k2 f1 f2,if_neg (by decide)] at hV;exact hV
    rw [if_neg f2];by_cases f3:0≤cH (aP (L.take i) x.unit)
    ·rw [if_pos f3];rw [k3 f1 f2 f3,if_neg (by decide)] at hV;exact hV
    rw [if_neg f3];rw [k4 f1 f2 f3,if_pos rfl] at hV;rw [if_neg (by decide)] at hV;by_cases f5:fe=0
    ·rw [if_pos f5];rw [if_pos f5] at hV;exact ⟨i+1,j, [x.unit],J.set j (.sl ⟨false,some 3,none⟩ 1 [.int .i64 x.unit]),⟨by rw [htk];exact hV.symm,by omega,by simpa using hj,by rw [bg _ _ _ hj,if_pos rfl];rfl,by simp,fun n=>nU.set (fun n=>hJ n) j (fun n=>rfl) n⟩,by omega,⟨⟨rfl,rfl⟩,by simp⟩,hC⟩
    ·rw [if_neg f5];rw [if_neg f5] at hV;exact hV
   ·have hPl0: ¬ P.length=0:=fun h=>hP0 (List.length_eq_zero_iff.1 h);have hPl1: ¬ 0=P.length:=fun h=>hPl0 h.symm;obtain ⟨C,hC,s1,s2,s3,s4,s5,s6,s7,s8⟩:=mk (.gone) (fun n=>rfl);have s80: ∀l,ab.at (C++l) bs.length=ab.at l 0:=fun l=>by simpa using s8 l 0
    have s40: ∀l,(C++l)[bs.length]?=l[0]?:=fun l=>by simpa using s4 l 0
    have s50: ∀l X,(C++l).set bs.length X=C++l.set 0 X:=fun l X=>by simpa using s5 l 0 X
    clear hbs hctd mk hcu;simp (maxSteps:=9^9) (disch:=omega) [-List.map_replicate,-List.map_set,-List.getD_eq_getElem?_getD,-getElem?_pos,-getElem?_neg,om,h1,hg,af,hh,hFF,hpar,hix,hPl0,hPl1,e0,e0',e1,e1',s1,s2,s3,s4,s5,s6,s7,s8,s80,s40,s50,b2,b1,b0,a1,a2,a3,hil2,hitk];simp only at hV;obtain ⟨k1,k2,k3,k4⟩:=iO (L.take i) x;by_cases f1:((x.unit<1∨1073741824<x.unit)∨x.level<1)∨4<x.level
    ·rw [if_pos f1];rw [k1 f1,if_neg (by decide)] at hV;exact hV
    rw [if_neg f1];by_cases f2:(64<(x.mark.length:Int)∨(x.title.length:Int)<1)∨64<(x.title.length:Int)
    ·rw [if_pos f2];rw [k2 f1 f2,if_neg (by decide)] at hV;exact hV
    rw [if_neg f2];by_cases f3:0≤cH (aP (L.take i) x.unit)
    ·rw [if_pos f3];rw [k3 f1 f2 f3,if_neg (by decide)] at hV;exact hV
    rw [if_neg f3];rw [k4 f1 f2 f3,if_pos rfl] at hV;rw [if_neg (by decide)] at hV;by_cases f5:fe=0
    ·rw [if_pos f5];rw [if_pos f5] at hV;have hb: ∀l,C++l=ct::(J.set j .gone++l):=fun l=>by rw [hC];rfl
     refine ⟨i+1,J.length+2, []++ [x.unit],_,⟨by rw [htk];exact hV.symm,by omega,?_,?_,?_,?_⟩,by omega,⟨⟨by omega,by simp⟩,by simp⟩,hb _⟩
     ·simp
     ·rw [show J.length+2=(J.set j ab.gone).length+2 by simp,dX];rw [←qP];rfl
     ·simp
     ·exact fun n=>nU.app (nU.set (fun n=>hJ n) j (fun n=>rfl)) (fun n=>rfl) n
    ·rw [if_neg f5];rw [if_neg f5] at hV;exact hV
  ·cases hI:oB P x.par with
   | none=>
    have hpl0:fF P x=none:=by unfold fF;rw [if_neg hpar,hI];rfl
    rw [hpl0] at hV;rw [hI] at hix;simp only at hix;clear mk;simp (maxSteps:=9^9) (disch:=omega) [-List.map_replicate,-List.map_set,-List.getD_eq_getElem?_getD,-getElem?_pos,-getElem?_neg,om,h1,hg,af,hh,hFF,hpar,hix,e0,e0',e1,e1',b2,b1,b0,a1,a2,a3,hil2,hitk];simp only at hV;obtain ⟨k1,k2,k3,k4⟩:=iO (L.take i) x;by_cases f1:((x.unit<1∨1073741824<x.unit)∨x.level<1)∨4<x.level
    ·rw [if_pos f1];rw [k1 f1,if_neg (by decide)] at hV;exact hV
    rw [if_neg f1];by_cases f2:(64<(x.mark.length:Int)∨(x.title.length:Int)<1)∨64<(x.title.length:Int)
    ·rw [if_pos f2];rw [k2 f1 f2,if_neg (by decide)] at hV;exact hV
    rw [if_neg f2];by_cases f3:0≤cH (aP (L.take i) x.unit)
    ·rw [if_pos f3];rw [k3 f1 f2 f3,if_neg (by decide)] at hV;exact hV
    rw [if_neg f3];rw [k4 f1 f2 f3,if_pos rfl] at hV;exact hV
   | some k=>
    have hpl0:fF P x=some (k+1):=by unfold fF;rw [if_neg hpar,hI];rfl
    rw [hpl0] at hV;rw [hI] at hix;simp only [Nat.zero_add] at hix;have hkl:=DT hI;have hk1:((k:Int)+1).toNat=k+1:=by omega
    have hk2: ¬ ((k:Int)+1=0):=by omega
    have hk3:((k:Int)+1)≤(P.length:Int):=by omega
    by_cases hkP:k+1=P.length
    ·have htkP:P.take (k+1)=P:=List.take_of_length_le (by omega);have hkP2:(k:Int)+1=(P.length:Int):=by omega
     obtain ⟨C,hC,s1,s2,s3,s4,s5,s6,s7,s8⟩:=mk (.sl ⟨false,some 3,none⟩ 1 (dW P++ [.int .i64 x.unit])) (fun n=>rfl);have s80: ∀l,ab.at (C++l) bs.length=ab.at l 0:=fun l=>by simpa using s8 l 0
     have s40: ∀l,(C++l)[bs.length]?=l[0]?:=fun l=>by simpa using s4 l 0
     have s50: ∀l X,(C++l).set bs.length X=C++l.set 0 X:=fun l X=>by simpa using s5 l 0 X
     clear hbs hctd mk hcu;simp (maxSteps:=9^9) (disch:=omega) [-List.map_replicate,-List.map_set,-List.getD_eq_getElem?_getD,-getElem?_pos,-getElem?_neg,om,h1,hg,af,hh,hFF,hpar,hix,hk1,hk2,hk3,hkP,e0,e0',e1,e1',s1,s2,s3,s4,s5,s6,s7,s8,s80,s40,s50,b2,b1,b0,a1,a2,a3,hil2,hitk];simp only at hV;obtain ⟨k1,k2,k3,k4⟩:=iO (L.take i) x;by_cases f1:((x.unit<1∨1073741824<x.unit)∨x.level<1)∨4<x.level
     ·rw [if_pos f1];rw [k1 f1,if_neg (by decide)] at hV;exact hV
     rw [if_neg f1];by_cases f2:(64<(x.mark.length:Int)∨(x.title.length:Int)<1)∨64<(x.title.length:Int)
     ·rw [if_pos f2];rw [k2 f1 f2,if_neg (by decide)] at hV;exact hV
     rw [if_neg f2];by_cases f3:0≤cH (aP (L.take i) x.unit)
     ·rw [if_pos f3];rw [k3 f1 f2 f3,if_neg (by decide)] at hV;exact hV
     rw [if_neg f3];rw [k4 f1 f2 f3,if_pos rfl] at hV;by_cases f4:12≤(k:Int)+1
     ·rw [if_pos f4];rw [if_pos (by omega)] at hV;exact hV
     rw [if_neg f4];rw [if_neg (by omega)] at hV;by_cases f5:fe=0
     ·rw [if_pos f5];rw [if_pos f5] at hV;rw [htkP] at hV;exact ⟨i+1,j,P++ [x.unit],J.set j (.sl ⟨false,some 3,none⟩ 1 (dW P++ [.int .i64 x.unit])),⟨by rw [htk];exact hV.symm,by omega,by simpa using hj,by rw [bg _ _ _ hj,if_pos rfl,←qP];rfl,by simp;omega,fun n=>nU.set (fun n=>hJ n) j (fun n=>rfl) n⟩,by omega,⟨⟨rfl,by simp⟩,by simp⟩,hC⟩
     ·rw [if_neg f5];rw [if_neg f5] at hV;exact hV
    ·have hkP2: ¬ (k+1=P.length):=hkP;obtain ⟨C,hC,s1,s2,s3,s4,s5,s6,s7,s8⟩:=mk (.gone) (fun n=>rfl);have s80: ∀l,ab.at (C++l) bs.length=ab.at l 0:=fun l=>by simpa using s8 l 0
     have s40: ∀l,(C++l)[bs.length]?=l[0]?:=fun l=>by simpa using s4 l 0
     have s50: ∀l X,(C++l).set bs.length X=C++l.set 0 X:=fun l X=>by simpa using s5 l 0 X
     clear hbs hctd mk hcu;simp (maxSteps:=9^9) (disch:=omega) [-List.map_replicate,-List.map_set,-List.getD_eq_getElem?_getD,-getElem?_pos,-getElem?_neg,om,h1,hg,af,hh,hFF,hpar,hix,hk1,hk2,hk3,hkP,e0,e0',e1,e1',s1,s2,s3,s4,s5,s6,s7,s8,s80,s40,s50,b2,b1,b0,a1,a2,a3,hil2,hitk];simp only at hV;obtain ⟨k1,k2,k3,k4⟩:=iO (L.take i) x;by_cases f1:((x.unit<1∨1073741824<x.unit)∨x.level<1)∨4<x.level
     ·rw [if_pos f1];rw [k1 f1,if_neg (by decide)] at hV;exact hV
     rw [if_neg f1];by_cases f2:(64<(x.mark.length:Int)∨(x.title.length:Int)<1)∨64<(x.title.length:Int)
     ·rw [if_pos f2];rw [k2 f1 f2,if_neg (by decide)] at hV;exact hV
     rw [if_neg f2];by_cases f3:0≤cH (aP (L.take i) x.unit)
     ·rw [if_pos f3];rw [k3 f1 f2 f3,if_neg (by decide)] at hV;exact hV
     rw [if_neg f3];rw [k4 f1 f2 f3,if_pos rfl] at hV;by_cases f4:12≤(k:Int)+1
     ·rw [if_pos f4];rw [if_pos (by omega)] at hV;exact hV
     rw [if_neg f4];rw [if_neg (by omega)] at hV;by_cases f5:fe=0
     ·rw [if_pos f5];rw [if_pos f5] at hV;have hb: ∀l,C++l=ct::(J.set j .gone++l):=fun l=>by rw [hC];rfl
      refine ⟨i+1,J.length+2,P.take (k+1)++ [x.unit],_,⟨by rw [htk];exact hV.symm,by omega,?_,?_,?_,?_⟩,by omega,⟨⟨by omega,by simp;omega⟩,by simp⟩,hb _⟩
      ·simp
      ·rw [show J.length+2=(J.set j ab.gone).length+2 by simp,dX];rw [←qP];rfl
      ·simp;omega
      ·exact fun n=>nU.app (nU.set (fun n=>hJ n) j (fun n=>rfl)) (fun n=>rfl) n
     ·rw [if_neg f5];rw [if_neg f5] at hV;exact hV
 ·rw [List.drop_eq_nil_of_le (by omega)];simp (maxSteps:=9^9) (disch:=omega) [-List.map_replicate,-List.map_set,-List.getD_eq_getElem?_getD,-getElem?_pos,-getElem?_neg,om,h1,l5]
theorem tQ (c:Ct) (hc:c.ok):ar cfg 56 [bM c] []=some (.int .i64 (fX c), []):=by
 refine ad SX PS ?_;have h1:=Gx c hc;have h2:=IZ c hc;have h3:=LP c hc;unfold fX;unfold bM di at*
 generalize oC c.aa=e1 at*
 generalize tO c.aa c.av=e2 at*
 generalize tP c.aa c.an=e3 at*
 by_cases k1:e1=0
 ·by_cases k2:e2=0
  ·simp (maxSteps:=9^9) (disch:=omega) [-List.map_replicate,-List.map_set,-List.getD_eq_getElem?_getD,-getElem?_pos,-getElem?_neg,om,I1,h1,h2,h3,k1,k2]
  ·simp (maxSteps:=9^9) (disch:=omega) [-List.map_replicate,-List.map_set,-List.getD_eq_getElem?_getD,-getElem?_pos,-getElem?_neg,om,I1,h1,h2,k1,k2]
 ·simp (maxSteps:=9^9) (disch:=omega) [-List.map_replicate,-List.map_set,-List.getD_eq_getElem?_getD,-getElem?_pos,-getElem?_neg,om,I1,h1,k1]
end Go.Proofs.YtfnkchadeaedlaaGreatDoor
namespace Go.Proofs.YtfnkchadeaedlaaGreatDoor
open Go.Am
set_option maxRecDepth 10000
set_option maxHeartbeats 4000000
theorem tR (order:List ae) (cur f:Fc) (r:List Fc):fG order cur (f::r)=if cur.el≠f.el then cur::fG order f r else if rk order f.lang<rk order cur.lang then fG order f r else fG order cur r:=by rw [fG]
theorem tS (nl:Option Bool) (z:Nat) (l:List Fc) (hz:l≠ []→z=3) (hl:l.length<1000000) (on:Option Bool) (order:List ae) (ho:order.length<1000000):
  ar cfg 79 [.ah nl z (l.map er),.ah on 1 (au order)] []=some (.ah none 3 ((aq order l).map er), []):=by
 refine ad SY PT ?_;have hLl:(l.map er).length=l.length:=by simp
 have hE: ∀k (h:k<l.length),(l.map er)[k]?=some (.agg [.int .i64 l[k].el,.str l[k].lang,.str l[k].text]):=fun k h=>get_map _ _ h;have hI:=fun w=>kj on 1 order (fun _=>rfl) ho w;simp only [DK] at hI;generalize l.map er=E at*
 simp (maxSteps:=9^9) (disch:=omega) [-List.map_replicate,-List.map_set,-List.getD_eq_getElem?_getD,-getElem?_pos,-getElem?_neg,om,PU,hLl];refine Wp.bw (fun (a:Nat×List Fc)=>l.length-a.1) (fun a=> [none,some (.ah on 1 (au order)),none,some (.az 0 a.2.length),none,none,some (.ah nl z E),some (.int .i64 l.length),some (.int .i64 a.1),none,none,none,none,none,none,none,none]) (fun a=> [.sl ⟨false,some 79,none⟩ 3 (a.2.map er)]) (fun a=>a.1≤l.length∧a.2.length≤a.1∧((a.1=0∧a.2= [])∨ ∃done cur,a.2=done++ [cur]∧aq order l=done++fG order cur (l.drop a.1))) ?_ (0, []) ⟨by simp,by simp,.inl ⟨rfl,rfl⟩⟩ (by simp) rfl;rintro ⟨i,out⟩ ⟨hil,hol,hx⟩;simp only at hil hol hx⊢;by_cases h1:i<l.length
 ·have hg:=hE i h1;obtain rfl:=hz (ne_of_lt h1);have hd:=List.drop_eq_getElem_cons h1;rcases hx with ⟨rfl,rfl⟩ | ⟨done,cur,rfl,hx⟩
  ·have h0:aq order l= []++fG order l[0] (l.drop 1):=by
    cases l with
    | nil=>simp at h1
    | cons f r=>rfl
   clear hE hz;generalize l[0]=x at*
   simp (maxSteps:=9^9) (disch:=omega) [-List.map_replicate,-List.map_set,-List.getD_eq_getElem?_getD,-getElem?_pos,-getElem?_neg,om,h1,hg,af];exact ⟨1, [x],⟨by omega,by simp,.inr ⟨[],x,rfl,h0⟩⟩,by omega,⟨rfl,rfl⟩,rfl⟩
  ·rw [hd] at hx;rw [tR] at hx;have hi1:=hI l[i].lang;have hi2:=hI cur.lang;have hpos:0<i:=by have:(done++ [cur]).length≤i:=hol;simp at this;omega
   clear hE hz hI;generalize l[i]=x at*
   have hlast:((done++ [cur]).map er)[done.length]?=some (.agg [.int .i64 cur.el,.str cur.lang,.str cur.text]):=by simp [er]
   have hlen:(done++ [cur]).length=done.length+1:=by simp
   have hlen2:((done++ [cur]).map er).length=done.length+1:=by simp
   have hset:((done++ [cur]).map er).set done.length (.agg [.int .i64 x.el,.str x.lang,.str x.text])=(done++ [x]).map er:=by simp [er,List.set_append]
   have hn1:((done.length:Int)+1-1).toNat=done.length:=by omega
   have happ:(done++ [cur]).map er++ [.agg [.int .i64 x.el,.str x.lang,.str x.text]]=(done++ [cur]++ [x]).map er:=by simp [er]
   have hn0: ¬ ((done.length:Int)+1=0):=by omega
   rw [hlen];generalize hOA:(done++ [cur]).map er=OA at*
   simp (maxSteps:=9^9) (disch:=omega) [-List.map_replicate,-List.map_set,-List.getD_eq_getElem?_getD,-getElem?_pos,-getElem?_neg,om,h1,hg,af,hi1,hi2,hlast,hlen2,hset,hn1,happ,hn0];by_cases e1:cur.el=x.el
   ·rw [if_pos e1];rw [if_neg (fun h=>h e1)] at hx;by_cases e2:rk order x.lang<rk order cur.lang
    ·rw [if_pos e2];rw [if_pos e2] at hx;exact ⟨i+1,done++ [x],⟨by omega,by simp at hol⊢;omega,.inr ⟨done,x,rfl,hx⟩⟩,by omega,⟨by simp,by simp⟩,by simp⟩
    ·rw [if_neg e2];rw [if_neg e2] at hx;exact ⟨i+1,done++ [cur],⟨by omega,by simp at hol⊢;omega,.inr ⟨done,cur,rfl,hx⟩⟩,by omega,⟨by simp,by simp⟩,hOA.symm⟩
   ·rw [if_neg e1];rw [if_pos e1] at hx;exact ⟨i+1,done++ [cur]++ [x],⟨by omega,by simp at hol⊢;omega,.inr ⟨done++ [cur],x,rfl,by rw [hx];simp⟩⟩,by omega,⟨by simp,by simp⟩,by simp⟩
 ·have hi2:i=l.length:=by omega
  subst hi2
  have hfin:aq order l=out:=by
   rcases hx with ⟨h0,rfl⟩ | ⟨done,cur,rfl,hx⟩
   ·rw [List.length_eq_zero_iff.1 h0];rfl
   ·rw [hx,List.drop_length];rfl
  rw [hfin];simp (maxSteps:=9^9) (disch:=omega) [-List.map_replicate,-List.map_set,-List.getD_eq_getElem?_getD,-getElem?_pos,-getElem?_neg,om,h1]
theorem zp (order:List ae) (el:Int) (t:ae) (b:Int) (l:Lb) (r:List Lb):fi order el t b (l::r)=if l.el=el∧rk order l.lang<b then fi order el l.text (rk order l.lang) r else fi order el t b r:=by rw [fi]
theorem zq (c:Ct) (hc:c.ok) (el:Int) (h0: -9223372036854775808≤el) (h9:el≤9223372036854775807) (on:Option Bool) (order:List ae) (ho:order.length<1000000):
  ar cfg 113 [bM c,.int .i64 el,.ah on 1 (au order)] []=some (.str (fI order c.av el (fp Lib.itoa el)), []):=by
 refine ad PV LR ?_;have hbl:=hc.bl;have hbz:=hc.bz;have hil:=Lib.itoa_length_le el h0 h9;have hI:=fun w=>kj on 1 order (fun _=>rfl) ho w;simp only [DK] at hI;unfold fI fp bM di;obtain ⟨d,hd⟩: ∃d,d= [101,108,101,109,101,110,116,32]++Lib.itoa el:=⟨_,rfl⟩;have hd2:101::108::101::109::101::110::116::32::Lib.itoa el=d:=by rw [hd];rfl
 rw [←hd];generalize c.an.map bk=A3 at*
 generalize au c.aa=A1 at*
 generalize c.av=B at*
 generalize c.bz=bz at*
 have hBl:(B.map cM).length=B.length:=by simp
 have hE: ∀k (h:k<B.length),(B.map cM)[k]?=some (.agg [.int .i64 B[k].el,.str B[k].lang,.str B[k].text,.int .i64 B[k].ix]):=fun k h=>get_map _ _ h;generalize B.map cM=E at*
 have hol:(au order).length=order.length:=ki order;simp (maxSteps:=9^9) (disch:=omega) [-List.map_replicate,-List.map_set,-List.getD_eq_getElem?_getD,-getElem?_pos,-getElem?_neg,om,KC,zr,h0,h9,hBl,hol,hd2];refine Wp.bw (fun (a:Nat×ae×Int)=>B.length-a.1) (fun a=> [none,some (.int .i64 el),some (.ah on 1 (au order)),none,none,some (.str a.2.1),some (.int .i64 a.2.2),none,none,none,some (.ah c.bn bz E),some (.int .i64 B.length),some (.int .i64 a.1),none,none,none,none]) (fun _=> [.var 26 [.ah c.ln c.lz A1,.ah c.bn bz E,.ah c.sn c.sz A3]]) (fun a=>a.1≤B.length∧fi order el d order.length B=fi order el a.2.1 a.2.2 (B.drop a.1)) ?_ (0,d,order.length) ⟨by simp,by simp⟩ (by simp) rfl;rintro ⟨i,t,b⟩ ⟨hil,hx⟩;simp only at hil hx⊢;rw [hx];clear hx;by_cases h1:i<B.length
 ·have hg:=hE i h1;obtain rfl:bz=4:=hbz (ne_of_lt h1);have hi1:=hI B[i].lang;rw [List.drop_eq_getElem_cons h1,zp];clear hE hbz hI;generalize B[i]=x at*
  simp (maxSteps:=9^9) (disch:=omega) [-List.map_replicate,-List.map_set,-List.getD_eq_getElem?_getD,-getElem?_pos,-getElem?_neg,om,h1,hg,af,hi1];by_cases e1:x.el=el∧rk order x.lang<b
  ·rw [if_pos e1];exact ⟨i+1,_,_,⟨by omega,rfl⟩,by omega,rfl,rfl,by simp⟩
  ·rw [if_neg e1];exact ⟨i+1,t,b,⟨by omega,by rw [if_neg e1]⟩,by omega,rfl,rfl,by simp⟩
 ·rw [List.drop_eq_nil_of_le (by omega)];simp (maxSteps:=9^9) (disch:=omega) [-List.map_replicate,-List.map_set,-List.getD_eq_getElem?_getD,-getElem?_pos,-getElem?_neg,om,h1,fi]
theorem zs (c:Ct) (hc:c.ok) (u:Int) (hb: ∀s∈c.an,s.mark.length<1000000∧s.title.length<1000000):ar cfg 112 [bM c,.int .i64 u] []=some (.str (et c.an u), []):=by
 refine ad PW LS ?_;have hf:=tw c.sn c.sz c.an hc.sz hc.sl u;have hz:=hc.sz;unfold et bM di;cases hi:aP c.an u with
 | none=>
  rw [hi] at hf;simp only [cH] at hf;have hpl:=cA c.an;generalize c.an.map bk=E at*
  simp (maxSteps:=9^9) (disch:=omega) [-List.map_replicate,-List.map_set,-List.getD_eq_getElem?_getD,-getElem?_pos,-getElem?_neg,om,DU,hf,hpl]
 | some i=>
  rw [hi] at hf;simp only [cH] at hf;have hil:=ef hi;have hx:c.an[i]?=some c.an[i]:=List.getElem?_eq_getElem hil;have hg:=DS c.an hil;obtain ⟨hb1,hb2⟩:=hb _ (List.getElem_mem hil);have hz6:=hz (ne_of_lt hil);have hpl:=cA c.an;have hBl:(c.an.map bk).length=c.an.length:=by simp
  rw [hz6] at hf⊢;simp only [hx];generalize c.an.map bk=E at*
  generalize c.an[i]=x at*
  have hil2:(i:Int)<(c.an.length:Int):=by omega
  by_cases hm:x.mark= []
  ·rw [if_pos hm];simp (maxSteps:=9^9) (disch:=omega) [-List.map_replicate,-List.map_set,-List.getD_eq_getElem?_getD,-getElem?_pos,-getElem?_neg,om,DU,hf,hpl,hg,hBl,hil2,af,hm]
  ·rw [if_neg hm];have hm2:(x.mark== [])=false:=by simpa using hm
   simp (maxSteps:=9^9) (disch:=omega) [-List.map_replicate,-List.map_set,-List.getD_eq_getElem?_getD,-getElem?_pos,-getElem?_neg,om,DU,hf,hpl,hg,hBl,hil2,af,hm,hm2]
end Go.Proofs.YtfnkchadeaedlaaGreatDoor
namespace Go.Proofs.YtfnkchadeaedlaaGreatDoor
open Go.Am
set_option maxRecDepth 10000
set_option maxHeartbeats 4000000
theorem B7 (a b:List ae) (k:Nat):af (au a) k (au b)=au (a.take k++b++a.drop (k+b.length)):=by simp [af,au]
theorem qQ (c:Ct) (hc:c.ok) (s:ae) (hs:fW c.aa s=true):ar cfg 59 [bM c,.str s] []=some (.ah none 1 (au (ak c.aa s)), []):=by
 refine ad SZ PX ?_;have hl:=hc.ll;obtain ⟨i,hi⟩:=zt hs;have hil:=I2 hi;have hix:=kj none 1 c.aa (fun _=>rfl) hl s;rw [B4,hi] at hix;obtain hz:c.lz=1:=hc.lz (ne_of_lt hil);unfold ak bM di;rw [hi,hz];simp only [Nat.zero_add] at hix⊢;clear hi hs;generalize c.aa=L at*
 generalize c.an.map bk=A3 at*
 generalize c.av.map cM=A2 at*
 have hLl:(au L).length=L.length:=ki L;have htk: ∀k,(au L).take k=au (L.take k):=fun k=>by simp [au]
 have hts:L.take L.length=L:=List.take_length
 have hsp:af (List.replicate L.length (AV.str [])) 0 (au L)=au L:=by simp [af]
 have hpos:0<L.length:=by omega
 by_cases h1:L.length=1
 ·obtain rfl:i=0:=by omega
  obtain ⟨x,rfl⟩:=List.length_eq_one_iff.1 h1;simp only [au,List.map_cons,List.map_nil] at hix;simp (maxSteps:=9^9) (disch:=omega) [-List.map_replicate,-List.map_set,-List.getD_eq_getElem?_getD,-getElem?_pos,-getElem?_neg,om,LU,hix,af,au]
 ·have h2:(L.take i).length=i:=by simp;omega
  have h3:(au (L.take i)).take (L.length-1)=au (L.take i):=List.take_of_length_le (by rw [ki];omega);have h4:=B7 L (L.take i) 1;rw [h2,List.append_assoc] at h4
  have h5:(au (L.take 1++(L.take i++L.drop (1+i)))).set 0 (.str s)=au (s::(L.take i++L.drop (i+1))):=by
   match L,hpos with
   | x::r,_=>simp [au,Nat.add_comm]
  have h6: ¬ (1:Nat)=L.length:=fun h=>h1 h.symm;have h7:(L.take 1++(L.take i++L.drop (1+i))).length=L.length:=by simp;omega
  have h8:(au (L.take 1++(L.take i++L.drop (1+i))))[0]?=some (.str ((L.take 1++(L.take i++L.drop (1+i))).getD 0 [])):=zj _ (by rw [h7];exact hpos);simp (maxSteps:=9^9) (disch:=omega) [-List.map_replicate,-List.map_set,-List.getD_eq_getElem?_getD,-getElem?_pos,-getElem?_neg,om,LU,hix,hLl,htk,hts,hsp,h1,h3,h4,h5,h6,h7,h8,hil]
  try rfl
end Go.Proofs.YtfnkchadeaedlaaGreatDoor
namespace Go.Proofs.YtfnkchadeaedlaaGreatDoor
open Go.Am
set_option maxRecDepth 10000
set_option maxHeartbeats 4000000
abbrev B8:=List UInt8
structure LV (bs:List ab) (k j:Nat) (a:AV) (s:B8):Prop where
 hk:ab.at bs k= .var 159 [a,.az j s.length]
 hj:ab.at bs j= .sl ⟨false,some 5,none⟩ 1 (s.map aj)
 ne:j≠k
 ha:a= .bJ∨a= .ptr k 0
 kl:k<bs.length
 jl:j<bs.length
 sh:shut bs.length bs=true
theorem eu {n:Nat}: ∀{bs:List ab} (k:Nat) {x:ab},shut n bs=true→shut n [x]=true→shut n (bs.set k x)=true
 | [],_,_,_,_=>rfl
 | b::r,0,x,h,hx=>by
  cases x <;> cases b <;> simp_all [shut]
 | b::r,k+1,x,h,hx=>by
  have:=fun (h:shut n r=true)=>eu (bs:=r) k h hx;cases b <;> simp_all [shut]
def gN (bs:List ab) (k j:Nat) (s:B8):List ab:=(bs.set k (.var 159 [.ptr k 0,.az j s.length])).set j (.sl ⟨false,some 5,none⟩ 1 (s.map aj))
theorem pv {bs:List ab} {k j:Nat} {a:AV} {s:B8} (h:LV bs k j a s):ar cfg 167 [.ptr k 0] bs=some (.aO [],bs.set k (.var 159 [.ptr k 0,.az j s.length])):=by
 obtain ⟨hk,hj,ne,ha,kl,jl,sh⟩:=h;refine ad PY LW ?_;have a1: ∀l,ab.at (bs++l) k= .var 159 [a,.az j s.length]:=fun l=>by rw [eV _ _ kl,hk]
 have s1: ∀l b,(bs++l).set k b=bs.set k b++l:=fun l b=>List.set_append_left _ _ kl;have m1:=shut_map (Nat.le_refl bs.length) (eu k sh (x:= .var 159 [.ptr k 0,.az j s.length]) (by simp [shut,aw,AV.under,kl,jl]));rcases ha with rfl | rfl
 ·simp (maxSteps:=9^9) (disch:=omega) [-List.map_replicate,-List.map_set,-List.getD_eq_getElem?_getD,-getElem?_pos,-getElem?_neg,om,GF,GG,af,ax.descOf,hk,a1,s1,m1];exact List.take_left' (by simp)
 ·have e:bs.set k (.var 159 [.ptr k 0,.az j s.length])=bs:=by
   rw [←hk];apply List.ext_getElem?;intro i;by_cases hi:i=k
   ·subst hi;simp [ab.at,kl,List.getD_eq_getElem?_getD]
   ·rw [List.getElem?_set_ne (Ne.symm hi)]
  simp (maxSteps:=9^9) (disch:=omega) [-List.map_replicate,-List.map_set,-List.getD_eq_getElem?_getD,-getElem?_pos,-getElem?_neg,om,GF,ax.descOf,hk,e]
theorem gy {bs:List ab} {k j:Nat} {a:AV} {s:B8} (h:LV bs k j a s) (x:B8) (hl:s.length<100000000) (hx:x.length<1000000):
  ar cfg 126 [.ptr k 0,.str x] bs=some (.aO [.int .i64 x.length,.fq false],gN bs k j (s++x)):=by
 have hc:=pv h;obtain ⟨hk,hj,ne,ha,kl,jl,sh⟩:=h;refine ad PZ LX ?_;have e1:ab.at (bs.set k (.var 159 [.ptr k 0,.az j s.length])) k= .var 159 [.ptr k 0,.az j s.length]:=by rw [Go.Am.bg _ _ _ kl,if_pos rfl]
 have e2:ab.at (bs.set k (.var 159 [.ptr k 0,.az j s.length])) j= .sl ⟨false,some 5,none⟩ 1 (s.map aj):=by rw [Go.Am.bg _ _ _ kl,if_neg (Ne.symm ne),hj]
 have shc:=eu k sh (x:= .var 159 [.ptr k 0,.az j s.length]) (by simp [shut,aw,AV.under,kl,jl]);have m2:=shut_map (Nat.le_refl bs.length) (eu j shc (x:= .sl ⟨false,some 5,none⟩ 1 ((s++x).map aj)) rfl);have hCl:(bs.set k (.var 159 [.ptr k 0,.az j s.length])).length=bs.length:=by simp
 have hfin:gN bs k j (s++x)=((bs.set k (.var 159 [.ptr k 0,.az j s.length])).set j (.sl ⟨false,some 5,none⟩ 1 ((s++x).map aj))).set k (.var 159 [.ptr k 0,.az j (s++x).length]):=by unfold gN;rw [List.set_comm _ _ ne,List.set_set]
 rw [hfin];generalize bs.set k (.var 159 [.ptr k 0,.az j s.length])=C at*
 have a1: ∀l,ab.at (C++l) k= .var 159 [.ptr k 0,.az j s.length]:=fun l=>by rw [eV _ _ (by omega),e1]
 have a2: ∀l,ab.at (C++l) j= .sl ⟨false,some 5,none⟩ 1 (s.map aj):=fun l=>by rw [eV _ _ (by omega),e2]
 have s2: ∀l b,(C++l).set j b=C.set j b++l:=fun l b=>List.set_append_left _ _ (by omega);have e3:ab.at (C.set j (.sl ⟨false,some 5,none⟩ 1 (s.map aj++x.map aj))) k= .var 159 [.ptr k 0,.az j s.length]:=by rw [Go.Am.bg _ _ _ (by omega),if_neg ne,e1]
 have m3:=shut_map (Nat.le_refl bs.length) (eu k (eu j shc (x:= .sl ⟨false,some 5,none⟩ 1 (s.map aj++x.map aj)) rfl) (x:= .var 159 [.ptr k 0,.az j (s.length+x.length)]) (by simp [shut,aw,AV.under,kl,jl]));have hDl:(C.set j (.sl ⟨false,some 5,none⟩ 1 (s.map aj++x.map aj))).length=bs.length:=by simp [hCl]
 generalize hD:C.set j (.sl ⟨false,some 5,none⟩ 1 (s.map aj++x.map aj))=D at*
 have b1: ∀l,ab.at (D++l) k= .var 159 [.ptr k 0,.az j s.length]:=fun l=>by rw [eV _ _ (by omega),e3]
 have t2: ∀l b,(D++l).set k b=D.set k b++l:=fun l b=>List.set_append_left _ _ (by omega);simp (maxSteps:=9^9) (disch:=omega) [-List.map_replicate,-List.map_set,-List.getD_eq_getElem?_getD,-getElem?_pos,-getElem?_neg,om,KD,hc,af,a1,a2,s2,hCl,hD,b1,t2,m3,hDl]
 try exact List.take_left' (by simp [hDl])
theorem Ub {C bs:List ab} (h:C.length=bs.length):(∀l,(C++l)[bs.length]?=l[0]?)∧(∀l m,(C++l)[bs.length+m]?=l[m]?)∧(∀l X,(C++l).set bs.length X=C++l.set 0 X)∧(∀l m X,(C++l).set (bs.length+m) X=C++l.set m X)∧(∀l,ab.at (C++l) bs.length=ab.at l 0)∧(∀l m,ab.at (C++l) (bs.length+m)=ab.at l m)∧(∀l,(C++l).take bs.length=C):=by rw [←h];exact ⟨fun l=>by simpa using dC C l 0,fun l m=>dC C l m,fun l X=>by simpa using cB C l 0 X,fun l m X=>cB C l m X,fun l=>by simpa using dX C l 0,fun l m=>dX C l m,fun l=>List.take_left' rfl⟩
theorem pw {bs:List ab} {k j:Nat} {a:AV} {s:B8} (h:LV bs k j a s) (x:UInt8) (hl:s.length<100000000):
  ar cfg 127 [.ptr k 0,.int .u8 (x.toNat:Int)] bs=some (.fq false,gN bs k j (s++ [x])):=by
 have hc:=pv h;obtain ⟨hk,hj,ne,ha,kl,jl,sh⟩:=h;refine ad P0 LY ?_;have e1:ab.at (bs.set k (.var 159 [.ptr k 0,.az j s.length])) k= .var 159 [.ptr k 0,.az j s.length]:=by rw [Go.Am.bg _ _ _ kl,if_pos rfl]
 have e2:ab.at (bs.set k (.var 159 [.ptr k 0,.az j s.length])) j= .sl ⟨false,some 5,none⟩ 1 (s.map aj):=by rw [Go.Am.bg _ _ _ kl,if_neg (Ne.symm ne),hj]
 have shc:=eu k sh (x:= .var 159 [.ptr k 0,.az j s.length]) (by simp [shut,aw,AV.under,kl,jl]);have hCl:(bs.set k (.var 159 [.ptr k 0,.az j s.length])).length=bs.length:=by simp
 have hfin:gN bs k j (s++ [x])=((bs.set k (.var 159 [.ptr k 0,.az j s.length])).set j (.sl ⟨false,some 5,none⟩ 1 (s.map aj++ [aj x]))).set k (.var 159 [.ptr k 0,.az j (s.length+1)]):=by unfold gN;rw [List.set_comm _ _ ne,List.set_set];simp
 rw [hfin];generalize bs.set k (.var 159 [.ptr k 0,.az j s.length])=C at*
 have a1: ∀l,ab.at (C++l) k= .var 159 [.ptr k 0,.az j s.length]:=fun l=>by rw [eV _ _ (by omega),e1]
 have a2: ∀l,ab.at (C++l) j= .sl ⟨false,some 5,none⟩ 1 (s.map aj):=fun l=>by rw [eV _ _ (by omega),e2]
 have s2: ∀l b,(C++l).set j b=C.set j b++l:=fun l b=>List.set_append_left _ _ (by omega);have e3:ab.at (C.set j (.sl ⟨false,some 5,none⟩ 1 (s.map aj++ [aj x]))) k= .var 159 [.ptr k 0,.az j s.length]:=by rw [Go.Am.bg _ _ _ (by omega),if_neg ne,e1]
 have m3:=shut_map (Nat.le_refl bs.length) (eu k (eu j shc (x:= .sl ⟨false,some 5,none⟩ 1 (s.map aj++ [aj x])) rfl) (x:= .var 159 [.ptr k 0,.az j (s.length+1)]) (by simp [shut,aw,AV.under,kl,jl]));have hDl:(C.set j (.sl ⟨false,some 5,none⟩ 1 (s.map aj++ [aj x]))).length=bs.length:=by simp [hCl]
 generalize hD:C.set j (.sl ⟨false,some 5,none⟩ 1 (s.map aj++ [aj x]))=D at*
 have b1: ∀l,ab.at (D++l) k= .var 159 [.ptr k 0,.az j s.length]:=fun l=>by rw [eV _ _ (by omega),e3]
 have t2: ∀l b,(D++l).set k b=D.set k b++l:=fun l b=>List.set_append_left _ _ (by omega);have of1:AV.int .u8 (x.toNat:Int)=aj x:=rfl;obtain ⟨p1,p2,p3,p4,p5,p6,p7⟩:=Ub hCl;obtain ⟨q1,q2,q3,q4,q5,q6,q7⟩:=Ub hDl;have z1:bs.length+1-bs.length=1:=by omega
 simp (maxSteps:=9^9) (disch:=omega) [-List.map_replicate,-List.map_set,-List.getD_eq_getElem?_getD,-getElem?_pos,-getElem?_neg,om,KE,hc,af,a1,a2,s2,hCl,hD,b1,t2,m3,hDl,of1,p1,p2,p3,p4,p5,p6,p7,q1,q2,q3,q4,q5,q6,q7,z1]
 try exact List.take_left' (by simp [hDl])
theorem oD {bs:List ab} {k j:Nat} {a:AV} {s:B8} (h:LV bs k j a s) (hl:s.length<100000000) (h0:s≠ []):
  ar cfg 128 [.ptr k 0] bs=some (.str s,bs.set j (.sl ⟨false,none,none⟩ 1 (s.map aj))):=by
 obtain ⟨hk,hj,ne,ha,kl,jl,sh⟩:=h;refine ad KF GH ?_;have hb:=n9 s;have e1:ab.at (bs.set j (.sl ⟨false,none,none⟩ 1 (s.map aj))) k= .var 159 [a,.az j s.length]:=by rw [Go.Am.bg _ _ _ jl,if_neg ne,hk]
 have e2:ab.at (bs.set j (.sl ⟨false,none,none⟩ 1 (s.map aj))) j= .sl ⟨false,none,none⟩ 1 (s.map aj):=by rw [Go.Am.bg _ _ _ jl,if_pos rfl]
 cases s with
 | nil=>exact absurd rfl h0
 | cons c s=>
  simp only [List.length_cons,List.map_cons] at*
  simp (maxSteps:=9^9) (disch:=omega) [-List.map_replicate,-List.map_set,-List.getD_eq_getElem?_getD,-getElem?_pos,-getElem?_neg,om,GI,hk,hj,e1,e2,hb,ax.descOf]
theorem rZ {bs:List ab} {k j:Nat} {a:AV} (h:LV bs k j a []):
  ar cfg 128 [.ptr k 0] bs=some (.str [],bs.set j (.sl ⟨false,none,none⟩ 1 [])):=by
 obtain ⟨hk,hj,ne,ha,kl,jl,sh⟩:=h;refine ad KF GH ?_;have e1:ab.at (bs.set j (.sl ⟨false,none,none⟩ 1 [])) k= .var 159 [a,.az j 0]:=by rw [Go.Am.bg _ _ _ jl,if_neg ne,hk];rfl
 have e2:ab.at (bs.set j (.sl ⟨false,none,none⟩ 1 [])) j= .sl ⟨false,none,none⟩ 1 []:=by rw [Go.Am.bg _ _ _ jl,if_pos rfl]
 simp only [List.length_nil,List.map_nil] at hk hj;simp (maxSteps:=9^9) (disch:=omega) [-List.map_replicate,-List.map_set,-List.getD_eq_getElem?_getD,-getElem?_pos,-getElem?_neg,om,GI,hk,hj,e1,e2,ax.descOf]
end Go.Proofs.YtfnkchadeaedlaaGreatDoor
namespace Go.Proofs.YtfnkchadeaedlaaGreatDoor
open Go.Am Go.ChangeShapes Go.WideShapes Go.RowKit
set_option maxRecDepth 10000
set_option maxHeartbeats 4000000
structure Sh.B1 (s:Sh):Prop where
 fz:s.facts≠ []→s.fz=3
 fl:s.facts.length≤maxLen
structure Ct.B1 (c:Ct):Prop where
 lz:c.aa≠ []→c.lz=1
 bz:c.av≠ []→c.bz=4
 sz:c.an≠ []→c.sz=6
 ll:c.aa.length≤maxLen
 bl:c.av.length≤maxLen
 sl:c.an.length≤maxLen
 sh: ∀s∈c.an,s.B1
theorem B9 {m:Nat} {cs:List AV} (h:l6 Tryz.prog m 9 cs): ∃s:ae,True∧aM (jY (Tryz.prog.underlying 9)) cs=AV.str s:=by obtain ⟨s,rfl,_⟩:=h.str (by kernel_rfl);exact ⟨s,trivial,by rw [show Tryz.prog.underlying 9=some .string by kernel_rfl];rfl⟩
theorem EV {m:Nat} {cs:List AV} (h:l6 Tryz.prog m 77 cs): ∃n:Lb,True∧aM (jY (Tryz.prog.underlying 77)) cs=cM n:=by
 have hfs:Tryz.prog.underlying 77=some (.struct (bP Tryz.prog 77)):=by kernel_rfl
 have hft:(bP Tryz.prog 77).toList.map (·.type)= [3,9,9,3]:=by kernel_rfl
 obtain ⟨m,hs⟩:=h.struct hfs;rw [hft] at hs;obtain ⟨a,r,rfl,ha,b,r2,rfl,hb,c,r3,rfl,hc,d,r4,rfl,hd,rfl⟩:=hs;obtain ⟨x,rfl,_⟩:=ha.int (k:= .i64) (by kernel_rfl);obtain ⟨s,rfl,_⟩:=hb.str (by kernel_rfl);obtain ⟨t,rfl,_⟩:=hc.str (by kernel_rfl);obtain ⟨y,rfl,_⟩:=hd.int (k:= .i64) (by kernel_rfl);exact ⟨⟨x,s,t,y⟩,trivial,by rw [hfs];rfl⟩
theorem GJ {m:Nat} {cs:List AV} (h:l6 Tryz.prog m 79 cs): ∃n:Fc,True∧aM (jY (Tryz.prog.underlying 79)) cs=er n:=by
 have hfs:Tryz.prog.underlying 79=some (.struct (bP Tryz.prog 79)):=by kernel_rfl
 have hft:(bP Tryz.prog 79).toList.map (·.type)= [3,9,9]:=by kernel_rfl
 obtain ⟨m,hs⟩:=h.struct hfs;rw [hft] at hs;obtain ⟨a,r,rfl,ha,b,r2,rfl,hb,c,r3,rfl,hc,rfl⟩:=hs;obtain ⟨x,rfl,_⟩:=ha.int (k:= .i64) (by kernel_rfl);obtain ⟨s,rfl,_⟩:=hb.str (by kernel_rfl);obtain ⟨t,rfl,_⟩:=hc.str (by kernel_rfl);exact ⟨⟨x,s,t⟩,trivial,by rw [hfs];rfl⟩
theorem EW {m:Nat} {cs:List AV} (h:l6 Tryz.prog m 73 cs): ∃n:Sh,n.B1∧aM (jY (Tryz.prog.underlying 73)) cs=bk n:=by
 have hfs:Tryz.prog.underlying 73=some (.struct (bP Tryz.prog 73)):=by kernel_rfl
 have hft:(bP Tryz.prog 73).toList.map (·.type)= [3,3,3,9,9,71]:=by kernel_rfl
 obtain ⟨m,hs⟩:=h.struct hfs;rw [hft] at hs;obtain ⟨a,r,rfl,ha,b,r2,rfl,hb,c,r3,rfl,hc,d,r4,rfl,hd,e,r5,rfl,he,f,r6,rfl,hf,rfl⟩:=hs;obtain ⟨x,rfl,_⟩:=ha.int (k:= .i64) (by kernel_rfl);obtain ⟨y,rfl,_⟩:=hb.int (k:= .i64) (by kernel_rfl);obtain ⟨z,rfl,_⟩:=hc.int (k:= .i64) (by kernel_rfl);obtain ⟨s,rfl,_⟩:=hd.str (by kernel_rfl);obtain ⟨t,rfl,_⟩:=he.str (by kernel_rfl);obtain ⟨n1,z1,l1,rfl,p1,q1,s1,_⟩:=hf.pz (e:=79) er (fun _=>True) (by kernel_rfl) 3 (by kernel_rfl) (by decide) (fun m cs h=>GJ h);exact ⟨⟨x,y,z,s,t,l1,some n1,z1⟩,⟨fun hl=>p1 0 (List.length_pos_iff.2 hl),s1⟩,by rw [hfs];rfl⟩
theorem ic {ts:List TypeId} {xs:List AV} (h:eh Tryz.prog (26::ts) xs): ∃(c:Ct) (r:List AV),xs=bM c::r∧c.B1∧eh Tryz.prog ts r:=by
 obtain ⟨n,cs,r,rfl,h1,h2⟩:=h;have hfs:Tryz.prog.underlying 26=some (.struct (bP Tryz.prog 26)):=by kernel_rfl
 have hft:(bP Tryz.prog 26).toList.map (·.type)= [22,23,24]:=by kernel_rfl
 obtain ⟨m,hs⟩:=h1.struct hfs;rw [hft] at hs;obtain ⟨a,r1,rfl,ha,b,r2,rfl,hb,c,r3,rfl,hc,rfl⟩:=hs;obtain ⟨n1,z1,l1,rfl,p1,q1,s1,_⟩:=ha.pz (e:=9) AV.str (fun _=>True) (by kernel_rfl) 1 (by kernel_rfl) (by decide) (fun m cs h=>B9 h);obtain ⟨n2,z2,l2,rfl,p2,q2,s2,_⟩:=hb.pz (e:=77) cM (fun _=>True) (by kernel_rfl) 4 (by kernel_rfl) (by decide) (fun m cs h=>EV h);obtain ⟨n3,z3,l3,rfl,p3,q3,s3,t3⟩:=hc.pz (e:=73) bk Sh.B1 (by kernel_rfl) 6 (by kernel_rfl) (by decide) (fun m cs h=>EW h);exact ⟨⟨l1,l2,l3,some n1,z1,some n2,z2,some n3,z3⟩,r,by rw [hfs];rfl,⟨fun hl=>p1 0 (List.length_pos_iff.2 hl),fun hl=>p2 0 (List.length_pos_iff.2 hl),fun hl=>p3 0 (List.length_pos_iff.2 hl),s1,s2,s3,t3⟩,h2⟩
theorem eW {ts:List TypeId} {xs:List AV} (h:eh Tryz.prog (3::ts) xs): ∃(i:Int) (r:List AV),xs= .int .i64 i::r∧ -9223372036854775808≤i∧i≤9223372036854775807∧eh Tryz.prog ts r:=by obtain ⟨n,cs,r,rfl,h1,h2⟩:=h;obtain ⟨x,rfl,hx⟩:=h1.int (k:= .i64) (by kernel_rfl);simp [Lit.wf,IntKind.min,IntKind.max,IntKind.signed,IntKind.bits] at hx;exact ⟨x,r,by rw [show Tryz.prog.underlying 3=some (.int .i64) by kernel_rfl];rfl,by omega,by omega,h2⟩
theorem iz {ts:List TypeId} {xs:List AV} (h:eh Tryz.prog (9::ts) xs): ∃(s:ae) (r:List AV),xs= .str s::r∧s.length≤maxLen∧eh Tryz.prog ts r:=by obtain ⟨n,cs,r,rfl,h1,h2⟩:=h;obtain ⟨s,rfl,hs⟩:=h1.str (by kernel_rfl);exact ⟨s,r,by rw [show Tryz.prog.underlying 9=some .string by kernel_rfl];rfl,hs,h2⟩
end Go.Proofs.YtfnkchadeaedlaaGreatDoor
namespace Go.Proofs.YtfnkchadeaedlaaGreatDoor
open Go.Am
set_option maxRecDepth 10000
set_option maxHeartbeats 4000000
def jZ (m acc:Nat):ae→Nat×Nat
 | []=>(acc,0)
 | c::r=>if 48≤c.toNat∧c.toNat≤57 then (if m<acc*10+(c.toNat-48) then (m,1) else jZ m (acc*10+(c.toNat-48)) r) else (0,2)
def I3 (n:Nat):AV:=if n=0 then .fq false else .kT 193 .i64 n
theorem ko (m acc:Nat) (c:UInt8) (r:ae):jZ m acc (c::r)=if 48≤c.toNat∧c.toNat≤57 then (if m<acc*10+(c.toNat-48) then (m,1) else jZ m (acc*10+(c.toNat-48)) r) else (0,2):=rfl
theorem wx (m:Nat): ∀(s:ae) (acc:Nat),(jZ m acc s).2=0∨(jZ m acc s).2=1∨(jZ m acc s).2=2
 | [],_=> .inl rfl
 | c::r,acc=>by
  rw [ko];split
  ·split
   ·exact .inr (.inl rfl)
   ·exact wx m r _
  ·exact .inr (.inr rfl)
theorem x5 (m:Nat): ∀(s:ae) (acc:Nat),acc≤m→(jZ m acc s).1≤m
 | [],_,h=>h
 | c::r,acc,h=>by
  rw [ko];split
  ·split
   ·exact Nat.le_refl _
   ·exact x5 m r _ (by omega)
  ·exact Nat.zero_le _
theorem GK (s:ae) {i:Nat} (h:i<s.length):s.drop i=s.getD i 0::s.drop (i+1):=by rw [List.drop_eq_getElem_cons h];simp [List.getD_eq_getElem?_getD,h]
theorem EX (s:ae) (c:UInt8):x6 [.str s,aj c]=some (.int .i64 (Lib.indexByte s c)):=by simp [x6,aj]
theorem pA (s:ae) (c:UInt8):ar cfg 80 [.str s,aj c] []=some (.int .i64 (Lib.indexByte s c), []):=by
 have h1:ar cfg 131 [.str s,aj c] []=some (.int .i64 (Lib.indexByte s c), []):=by refine ad P1 LZ ?_;simp (maxSteps:=9^9) (disch:=omega) [-List.map_replicate,-List.map_set,-List.getD_eq_getElem?_getD,-getElem?_pos,-getElem?_neg,om,KG,EX]
 refine ad S0 P2 ?_;simp (maxSteps:=9^9) (disch:=omega) [-List.map_replicate,-List.map_set,-List.getD_eq_getElem?_getD,-getElem?_pos,-getElem?_neg,om,P3,h1]
theorem GL (c:UInt8): ∃z:Int,ar cfg 170 [aj c] []=some (.int .u8 z, []):=by apply Exists.intro;refine ad P4 L0 ?_;simp (maxSteps:=9^9) (disch:=omega) [-List.map_replicate,-List.map_set,-List.getD_eq_getElem?_getD,-getElem?_pos,-getElem?_neg,om,KH,aj];exact rfl
theorem Ca (m:Nat) (bits:Int) (hm:m=1099511627775∧bits=40∨m=65535∧bits=16) (c0:UInt8) (s0:ae) (hl:s0.length<1000000):
  ar cfg 132 [.str (c0::s0),.int .i64 10,.int .i64 bits] []=some (.aO [.int .u64 (jZ m 0 (c0::s0)).1,I3 (jZ m 0 (c0::s0)).2], []):=by
 refine ad KI GM ?_;have hb:0<bits∧bits<64:=by omega
 have hsl:(c0::s0).length<1000001:=by simp;omega
 have hne:c0::s0≠ []:=by simp
 generalize c0::s0=s at*
 have hml:(s.map aj).length=s.length:=by simp
 obtain ⟨⟨v,k⟩,hvk⟩: ∃vk:Nat×Nat,vk=jZ m 0 s:=⟨_,rfl⟩;rw [←hvk]
 have hz:(IntKind.u64.wrap (2^min (IntKind.u64.wrap bits).toNat IntKind.u64.bits)-1)=m∧ ¬ IntKind.u64.wrap bits<0∧m<1099511627776:=by rcases hm with ⟨rfl,rfl⟩ | ⟨rfl,rfl⟩ <;> decide
 obtain ⟨z1,z2,z3⟩:=hz;clear hm
 have hw:IntKind.u64.wrap (m:Int)=m:=by show (m:Int)%18446744073709551616=_;omega
 simp (maxSteps:=9^9) (disch:=omega) [-List.map_replicate,-List.map_set,-List.getD_eq_getElem?_getD,-getElem?_pos,-getElem?_neg,om,GN,hne,hb.1,hb.2,z1,z2,ax.descOf,hw]
 have hgg: ∀{i:Nat},i<s.length→(s.map aj)[i]?=some (.int .u8 ((s.getD i 0).toNat:Int)):=fun {i} h=>by
  rw [List.getElem?_map,List.getElem?_eq_getElem h];simp [List.getD_eq_getElem?_getD,h,aj]
 refine Wp.bw (fun (a:Nat×Nat)=>s.length-a.1) (fun a=> [none,some (.int .i64 10),none,none,none,some (.bool false),some (.str s),some (.int .u64 1844674407370955162),some (.int .u64 m),some (.bool false),some (.int .u64 a.2),none,none,none,none,none,none,none,none,none,none,none,none,none,none,none,none,none,none,none,none,none,some (.az 1 s.length),some (.int .i64 s.length),some (.int .i64 a.1),none,none,none,none,none,none,none,none,none,none,none,none,none,none,none,none,none]) (fun _=> [.dead,.sl ⟨false,some 5,none⟩ 1 (s.map aj)]) (fun a=>(v,k)=jZ m a.2 (s.drop a.1)∧a.1≤s.length∧a.2≤m) ?_ (0,0) ⟨hvk,by simp,by simp⟩ (by simp) rfl;rintro ⟨i,acc⟩ ⟨hi,hil,hac⟩;simp only at hi hil hac⊢;by_cases h1:i<s.length
 ·have hg:=hgg h1;rw [GK s h1,ko] at hi;generalize s.getD i 0=c at*
  clear hgg;obtain ⟨z,hz⟩:=GL c;simp only [aj] at hz;have w8:IntKind.u8.wrap 10=10:=rfl;have zg:IntKind.u64.wrap 10=10:=rfl;by_cases f1:48≤c.toNat∧c.toNat≤57
  ·rw [if_pos f1] at hi
   have d1:IntKind.u8.wrap ((c.toNat:Int)-48)=((c.toNat-48:Nat):Int):=by show ((c.toNat:Int)-48)%256=_;omega
   have d2: ∀n:Nat,n<18446744073709551616→IntKind.u64.wrap (n:Int)=n:=fun n hn=>by
    show (n:Int)%18446744073709551616=_;omega
   have d3:(acc:Int)*10=((acc*10:Nat):Int):=by omega
   have d4:IntKind.u64.wrap ((acc:Int)*10)=((acc*10:Nat):Int):=by rw [d3,d2 _ (by omega)]
   have d5:IntKind.u64.wrap ((c.toNat-48:Nat):Int)=((c.toNat-48:Nat):Int):=d2 _ (by omega);have d6:IntKind.u64.wrap (((acc*10:Nat):Int)+((c.toNat-48:Nat):Int))=((acc*10+(c.toNat-48):Nat):Int):=by rw [←Int.natCast_add,d2 _ (by omega)]
   clear d2;generalize hn1:acc*10=n1 at*
   generalize hn2:c.toNat-48=n2 at*
   obtain ⟨f1a,f1b⟩:=f1;by_cases f2:m<n1+n2
   ·rw [if_pos f2] at hi;obtain ⟨rfl,rfl⟩:=Prod.mk.inj hi;simp (maxSteps:=9^9) (disch:=omega) [-List.map_replicate,-List.map_set,-List.getD_eq_getElem?_getD,-getElem?_pos,-getElem?_neg,om,h1,hg,af,f1a,f1b,w8,zg,d1,d4,d5,d6,I3]
   ·rw [if_neg f2] at hi;simp (maxSteps:=9^9) (disch:=omega) [-List.map_replicate,-List.map_set,-List.getD_eq_getElem?_getD,-getElem?_pos,-getElem?_neg,om,h1,hg,af,f1a,f1b,w8,zg,d1,d4,d5,d6];refine ⟨i+1,n1+n2,⟨hi,by omega,by omega⟩,by omega,?_⟩;exact ⟨by omega,by omega⟩
  ·rw [if_neg f1] at hi;obtain ⟨rfl,rfl⟩:=Prod.mk.inj hi;by_cases f3:97≤z
   ·by_cases f4:z≤122
    ·have d7:IntKind.u8.wrap (IntKind.u8.wrap (z-97)+10)=z-87:=by show ((z-97)%256+10)%256=_;omega
     simp (maxSteps:=9^9) (disch:=omega) [-List.map_replicate,-List.map_set,-List.getD_eq_getElem?_getD,-getElem?_pos,-getElem?_neg,om,h1,hg,af,hz,w8,zg,f1,f3,f4,d7,I3];intro;omega
    ·simp (maxSteps:=9^9) (disch:=omega) [-List.map_replicate,-List.map_set,-List.getD_eq_getElem?_getD,-getElem?_pos,-getElem?_neg,om,h1,hg,af,hz,w8,zg,f1,f3,f4,I3];intro;omega
   ·simp (maxSteps:=9^9) (disch:=omega) [-List.map_replicate,-List.map_set,-List.getD_eq_getElem?_getD,-getElem?_pos,-getElem?_neg,om,h1,hg,af,hz,w8,zg,f1,f3,I3];intro;omega
 ·rw [List.drop_eq_nil_of_le (by omega)] at hi;obtain ⟨rfl,rfl⟩:=Prod.mk.inj hi;simp (maxSteps:=9^9) (disch:=omega) [-List.map_replicate,-List.map_set,-List.getD_eq_getElem?_getD,-getElem?_pos,-getElem?_neg,om,h1,I3]
def P5 (m:Nat) (s:ae):AV:=if s= [] then .aO [.int .u64 0,.fq true] else .aO [.int .u64 (jZ m 0 s).1,.fq (decide ((jZ m 0 s).2≠0))]
theorem zu (m:Nat) (bits:Int) (hm:m=1099511627775∧bits=40∨m=65535∧bits=16) (s:ae) (hl:s.length<1000000):
  ar cfg 81 [.str s,.int .i64 10,.int .i64 bits] []=some (P5 m s, []):=by
 refine ad S1 P6 ?_;cases s with
 | nil=>
  have h0:ar cfg 132 [.str [],.int .i64 10,.int .i64 bits] []=some (.aO [.int .u64 0,.kT 193 .i64 2], []):=by refine ad KI GM ?_;simp (maxSteps:=9^9) (disch:=omega) [-List.map_replicate,-List.map_set,-List.getD_eq_getElem?_getD,-getElem?_pos,-getElem?_neg,om,GN]
  simp (maxSteps:=9^9) (disch:=omega) [-List.map_replicate,-List.map_set,-List.getD_eq_getElem?_getD,-getElem?_pos,-getElem?_neg,om,GO,h0,l7,P5]
 | cons c0 s0=>
  have hin:=Ca m bits hm c0 s0 (by simp at hl;omega);have hne:c0::s0≠ []:=by simp
  have hcd:=wx m (c0::s0) 0;generalize c0::s0=s at*
  clear hm;unfold P5;rw [if_neg hne];generalize (jZ m 0 s).1=v at*
  generalize (jZ m 0 s).2=k at*
  rcases hcd with rfl | rfl | rfl
  ·simp (maxSteps:=9^9) (disch:=omega) [-List.map_replicate,-List.map_set,-List.getD_eq_getElem?_getD,-getElem?_pos,-getElem?_neg,om,GO,hin,I3]
  ·simp (maxSteps:=9^9) (disch:=omega) [-List.map_replicate,-List.map_set,-List.getD_eq_getElem?_getD,-getElem?_pos,-getElem?_neg,om,GO,hin,I3,l7]
  ·simp (maxSteps:=9^9) (disch:=omega) [-List.map_replicate,-List.map_set,-List.getD_eq_getElem?_getD,-getElem?_pos,-getElem?_neg,om,GO,hin,I3,l7]
theorem wy: ∀(s:ae) (acc:Nat),pB acc s=if (jZ 1099511627775 acc s).2=0 then some (jZ 1099511627775 acc s).1 else none
 | [],acc=>rfl
 | c::r,acc=>by
  rw [ko];unfold pB;by_cases h1:48≤c.toNat∧c.toNat≤57
  ·rw [if_pos h1,if_pos h1];by_cases h2:1099511627775<acc*10+(c.toNat-48)
   ·rw [if_pos h2,if_pos h2];rfl
   ·rw [if_neg h2,if_neg h2,wy r]
  ·rw [if_neg h1,if_neg h1];rfl
theorem wz: ∀(s:ae) (acc:Nat),td acc s=if (jZ 65535 acc s).2=0 then some (jZ 65535 acc s).1 else none
 | [],acc=>rfl
 | c::r,acc=>by
  rw [ko];unfold td;by_cases h1:48≤c.toNat∧c.toNat≤57
  ·rw [if_pos h1,if_pos h1];by_cases h2:65535<acc*10+(c.toNat-48)
   ·rw [if_pos h2,if_pos h2];rfl
   ·rw [if_neg h2,if_neg h2,wz r]
  ·rw [if_neg h1,if_neg h1];rfl
theorem tT (s:ae) (hl:s.length<1000000): ∃(v:Nat) (b:Bool),ar cfg 81 [.str s,.int .i64 10,.int .i64 40] []=some (.aO [.int .u64 v,.fq b], [])∧tx s=(if b then none else some v)∧v≤1099511627775:=by
 have h:=zu 1099511627775 40 (.inl ⟨rfl,rfl⟩) s hl;unfold P5 at h;unfold tx;by_cases h0:s= []
 ·rw [if_pos h0] at h⊢;exact ⟨0,true,h,rfl,by omega⟩
 ·rw [if_neg h0] at h⊢;refine ⟨_,_,h,?_,x5 1099511627775 s 0 (by omega)⟩;rw [wy];by_cases hk:(jZ 1099511627775 0 s).2=0
  ·simp [hk]
  ·simp [hk]
theorem tU (s:ae) (hl:s.length<1000000): ∃(v:Nat) (b:Bool),ar cfg 81 [.str s,.int .i64 10,.int .i64 16] []=some (.aO [.int .u64 v,.fq b], [])∧jw s=(if b then none else some v)∧v≤65535:=by
 have h:=zu 65535 16 (.inr ⟨rfl,rfl⟩) s hl;unfold P5 at h;unfold jw;by_cases h0:s= []
 ·rw [if_pos h0] at h⊢;exact ⟨0,true,h,rfl,by omega⟩
 ·rw [if_neg h0] at h⊢;refine ⟨_,_,h,?_,x5 65535 s 0 (by omega)⟩;rw [wz];by_cases hk:(jZ 65535 0 s).2=0
  ·simp [hk]
  ·simp [hk]
end Go.Proofs.YtfnkchadeaedlaaGreatDoor
namespace Go.Proofs.YtfnkchadeaedlaaGreatDoor
open Go.Am
set_option maxRecDepth 10000
set_option maxHeartbeats 4000000
def x7 (p:Int×Int):AV:= .aO [.int .i64 p.1,.int .i64 p.2]
theorem kV: ∀(s:ae) (c:UInt8),-1≤Lib.indexByte s c∧(Lib.indexByte s c<s.length)
 | [],c=>by simp [Lib.indexByte]
 | b::l,c=>by
  have ih:=kV l c;rw [Lib.indexByte];split
  ·simp only [List.length_cons];omega
  ·split
   ·simp only [List.length_cons];omega
   ·simp only [List.length_cons];omega
theorem DV (s:ae):ar cfg 158 [.str s] []=some (x7 (oE s), []):=by
 refine ad P7 L5 ?_;have hi:ar cfg 80 [.str s,.int .u8 93] []=some (.int .i64 (Lib.indexByte s 93), []):=pA s 93;have hb:=kV s 93;have hsd: ∀{j:Nat},j<s.length→s[j]?=some (s.getD j 0):=fun {j} h=>by simp [List.getD_eq_getElem?_getD,h]
 unfold oE;generalize Lib.indexByte s 93=n at*
 by_cases h1:n<2∨11<n
 ·have e:(n<2∨11<n∨s.getD 1 0=48):=by omega
  rw [if_pos e];rcases h1 with h1 | h1
  ·simp (maxSteps:=9^9) (disch:=omega) [-List.map_replicate,-List.map_set,-List.getD_eq_getElem?_getD,-getElem?_pos,-getElem?_neg,om,tV,hi,h1,x7]
  ·simp (maxSteps:=9^9) (disch:=omega) [-List.map_replicate,-List.map_set,-List.getD_eq_getElem?_getD,-getElem?_pos,-getElem?_neg,om,tV,hi,h1,x7]
 ·obtain ⟨n,rfl⟩: ∃k:Nat,n=k:=⟨n.toNat,by omega⟩;have g1:=hsd (j:=1) (by omega);have hn:2≤n∧n≤11:=by omega
  have hnl:n<s.length:=by omega
  clear hsd h1 hb;rw [Int.toNat_natCast];obtain ⟨v,b,hp,hpv,hv⟩:=tT ((s.take n).drop 1) (by simp;omega);generalize s.getD 1 0=c at*
  rw [hpv];have hw:(v:Int)%18446744073709551616=v:=by omega
  rw [List.drop_one] at hp;by_cases hc:c=48
  ·subst hc;rw [if_pos (.inr (.inr rfl))];simp (maxSteps:=9^9) (disch:=omega) [-List.map_replicate,-List.map_set,-List.getD_eq_getElem?_getD,-getElem?_pos,-getElem?_neg,om,tV,hi,hn.1,hn.2,g1,aj,x7]
  ·have hc2: ¬ ((c.toNat:Int)=48):=fun h=>hc (UInt8.toNat_inj.mp (by simp;omega));rw [if_neg (fun h=>by rcases h with h | h | h;omega;omega;exact hc h)];cases b with
   | true=>simp (maxSteps:=9^9) (disch:=omega) [-List.map_replicate,-List.map_set,-List.getD_eq_getElem?_getD,-getElem?_pos,-getElem?_neg,om,tV,hi,hn.1,hn.2,g1,aj,x7,hp,hc2]
   | false=>
    simp only [Bool.false_eq_true,if_false];by_cases hv2:1073741824<v
    ·simp (maxSteps:=9^9) (disch:=omega) [-List.map_replicate,-List.map_set,-List.getD_eq_getElem?_getD,-getElem?_pos,-getElem?_neg,om,tV,hi,hn.1,hn.2,g1,aj,x7,hp,hc2,hv2]
    ·simp (maxSteps:=9^9) (disch:=omega) [-List.map_replicate,-List.map_set,-List.getD_eq_getElem?_getD,-getElem?_pos,-getElem?_neg,om,tV,hi,hn.1,hn.2,g1,aj,x7,hp,hc2,hv2]
theorem zw (s:ae) (h00:s≠ []):ar cfg 40 [.str s] []=some (x7 (x8 s), []):=by
 refine ad S4 P8 ?_;have hi:ar cfg 80 [.str s,.int .u8 93] []=some (.int .i64 (Lib.indexByte s 93), []):=pA s 93;have hb:=kV s 93;have hsd: ∀{j:Nat},j<s.length→s[j]?=some (s.getD j 0):=fun {j} h=>by simp [List.getD_eq_getElem?_getD,h]
 have hs0:0<s.length:=List.length_pos_iff.mpr h00;have g0:=hsd (j:=0) hs0;unfold x8;generalize hc0:s.getD 0 0=c0 at*
 by_cases h91:c0=91
 case neg=>
  have hc3: ¬ ((c0.toNat:Int)=91):=fun h=>h91 (UInt8.toNat_inj.mp (by simp;omega));rw [if_pos h91];clear hsd hi;simp (maxSteps:=9^9) (disch:=omega) [-List.map_replicate,-List.map_set,-List.getD_eq_getElem?_getD,-getElem?_pos,-getElem?_neg,om,zx,g0,aj,x7,hc3]
 rw [if_neg (by simp [h91])];subst h91;unfold oE;generalize Lib.indexByte s 93=n at*
 by_cases h1:n<2∨11<n
 ·have e:(n<2∨11<n∨s.getD 1 0=48):=by omega
  rw [if_pos e];rcases h1 with h1 | h1
  ·simp (maxSteps:=9^9) (disch:=omega) [-List.map_replicate,-List.map_set,-List.getD_eq_getElem?_getD,-getElem?_pos,-getElem?_neg,om,zx,hi,h1,x7,g0,aj]
  ·simp (maxSteps:=9^9) (disch:=omega) [-List.map_replicate,-List.map_set,-List.getD_eq_getElem?_getD,-getElem?_pos,-getElem?_neg,om,zx,hi,h1,x7,g0,aj]
 ·obtain ⟨n,rfl⟩: ∃k:Nat,n=k:=⟨n.toNat,by omega⟩;have g1:=hsd (j:=1) (by omega);have hn:2≤n∧n≤11:=by omega
  have hnl:n<s.length:=by omega
  clear hsd h1 hb;rw [Int.toNat_natCast];obtain ⟨v,b,hp,hpv,hv⟩:=tT ((s.take n).drop 1) (by simp;omega);generalize s.getD 1 0=c at*
  rw [hpv];have hw:(v:Int)%18446744073709551616=v:=by omega
  rw [List.drop_one] at hp;by_cases hc:c=48
  ·subst hc;rw [if_pos (.inr (.inr rfl))];simp (maxSteps:=9^9) (disch:=omega) [-List.map_replicate,-List.map_set,-List.getD_eq_getElem?_getD,-getElem?_pos,-getElem?_neg,om,zx,hi,hn.1,hn.2,g0,g1,aj,x7]
  ·have hc2: ¬ ((c.toNat:Int)=48):=fun h=>hc (UInt8.toNat_inj.mp (by simp;omega));rw [if_neg (fun h=>by rcases h with h | h | h;omega;omega;exact hc h)];cases b with
   | true=>simp (maxSteps:=9^9) (disch:=omega) [-List.map_replicate,-List.map_set,-List.getD_eq_getElem?_getD,-getElem?_pos,-getElem?_neg,om,zx,hi,hn.1,hn.2,g0,g1,aj,x7,hp,hc2]
   | false=>
    simp only [Bool.false_eq_true,if_false];by_cases hv2:1073741824<v
    ·simp (maxSteps:=9^9) (disch:=omega) [-List.map_replicate,-List.map_set,-List.getD_eq_getElem?_getD,-getElem?_pos,-getElem?_neg,om,zx,hi,hn.1,hn.2,g0,g1,aj,x7,hp,hc2,hv2]
    ·simp (maxSteps:=9^9) (disch:=omega) [-List.map_replicate,-List.map_set,-List.getD_eq_getElem?_getD,-getElem?_pos,-getElem?_neg,om,zx,hi,hn.1,hn.2,g0,g1,aj,x7,hp,hc2,hv2]
end Go.Proofs.YtfnkchadeaedlaaGreatDoor
namespace Go.Proofs.YtfnkchadeaedlaaGreatDoor
open Go.Am
set_option maxRecDepth 10000
set_option maxHeartbeats 4000000
def aZ (bs:List ab) (a:AV) (s:ae):List ab:=bs++ [.var 159 [a,.az (bs.length+1) s.length],.sl ⟨false,some 5,none⟩ 1 (s.map aj)]
theorem gd {bs:List ab} (hs:shut bs.length bs=true) {a:AV} (ha:a= .bJ∨a= .ptr bs.length 0) (s:ae):LV (aZ bs a s) bs.length (bs.length+1) a s:=by
 unfold aZ;refine ⟨?_,?_,by omega,ha,by simp,by simp,?_⟩
 ·rw [wA];rfl
 ·rw [dX];rfl
 ·rw [dY,ie (by simp) hs];rcases ha with rfl | rfl <;> simp [shut,aw,AV.under]
theorem iB {bs:List ab} {a:AV} {s t:ae}:gN (aZ bs a s) bs.length (bs.length+1) t=aZ bs (.ptr bs.length 0) t:=by unfold gN aZ;rw [tW,cB];rfl
theorem EY (f:FuncId) (hns:wq f) (j:Nat) (bs:List ab) (hsh:shut bs.length bs=true) (hj:j<bs.length) (nm:Int→ae)
  (hf: ∀u J,ar cfg f [.int .i64 u,.ptr j 0] (bs++J)=some (.str (nm u),bs++J)) (hnm: ∀u,(nm u).length≤1000) (s:ae) (hs:s.length≤10000):
  ar cfg 110 [.str s,.fn f [] [.ptr j 0]] bs=some (.str (bI nm s),bs):=by
 refine ad P9 L6 ?_;obtain ⟨n1,n2,n3,n4⟩:=hns;simp only [exts,tc,Gs,jX] at n1 n2 n3 n4;have hm:=shut_map (Nat.le_refl _) hsh;simp (maxSteps:=9^9) (disch:=omega) [-List.map_replicate,-List.map_set,-List.getD_eq_getElem?_getD,-getElem?_pos,-getElem?_neg,om,KJ];refine Wp.bw (fun (a:Nat×ae×AV)=>s.length-a.1) (fun a=> [some (.str s),some (.fn f [] [.ptr j 0]),none,some (.ptr bs.length 0),some (.int .i64 a.1),none,none,none,none,none,none,none,none]) (fun a=>aZ bs a.2.2 a.2.1) (fun a=>bI nm s=a.2.1++bI nm (s.drop a.1)∧a.1≤s.length∧a.2.1.length≤1000*a.1∧(a.2.2= .bJ∨a.2.2= .ptr bs.length 0)) ?_ (0, [],.bJ) ⟨by simp,by simp,by simp,.inl rfl⟩ (by simp) rfl;rintro ⟨i,out,a⟩ ⟨hi,hil,hol,ha⟩;simp only at hi hil hol ha⊢;have hbl:=gd hsh ha out;have hBl: ∀a out,(aZ bs a out).length=bs.length+2:=fun a out=>by simp [aZ]
 by_cases h1:i<s.length
 ·have hg:s[i]?=some (s.getD i 0):=by simp [List.getD_eq_getElem?_getD,h1]
  have hwb:=pw hbl (s.getD i 0) (by omega);rw [iB] at hwb;have hd:=GK s h1;by_cases hp:(ao (s.drop i)).2=0
  ·have hi':bI nm s=out++ [s.getD i 0]++bI nm (s.drop (i+1)):=by rw [hi,hd,kW nm _ _ (by rw [←hd];exact hp)];simp
   by_cases hc:s.getD i 0=91
   ·have hu:=DV (s.drop i);rw [hd,hc,oF,←hc,←hd] at hu;unfold x7 at hu;rw [hp] at hu;generalize (ao (s.drop i)).1=p1 at*
    rw [hc] at hg hwb hi';replace hwb:ar cfg 127 [.ptr bs.length 0,.int .u8 91] _=_:=hwb;have hk2:=hBl a out;have hk3:=hBl (.ptr bs.length 0) (out++ [91]);generalize aZ bs a out=B at*
    clear hd hp hc hi hf hbl;simp (maxSteps:=9^9) (disch:=omega) [-List.map_replicate,-List.map_set,-List.getD_eq_getElem?_getD,-getElem?_pos,-getElem?_neg,om,h1,hg,aj,hu,hwb,hk2,hk3];refine ⟨i+1,out++ [91],.ptr bs.length 0,⟨hi',by omega,by simp;omega,.inr rfl⟩,by omega,?_⟩;simp
   ·have hc2: ¬ (((s.getD i 0).toNat:Int)=91):=fun h=>hc (UInt8.toNat_inj.mp (by show _=91;omega));generalize s.getD i 0=c at*
    have hk2:=hBl a out;have hk3:=hBl (.ptr bs.length 0) (out++ [c]);generalize aZ bs a out=B at*
    clear hd hp hc hi hf hbl;simp (maxSteps:=9^9) (disch:=omega) [-List.map_replicate,-List.map_set,-List.getD_eq_getElem?_getD,-getElem?_pos,-getElem?_neg,om,h1,hg,aj,hwb,hk2,hk3,hc2];refine ⟨i+1,out++ [c],.ptr bs.length 0,⟨hi',by omega,by simp;omega,.inr rfl⟩,by omega,?_⟩;simp
  ·obtain ⟨q1,q2,q3,q4,q5⟩:=(dv (s.drop i)).resolve_left (fun h=>hp (by rw [h]));have hc:s.getD i 0=91:=by rw [hd] at q5;simpa using q5
   have hu:=DV (s.drop i);rw [hd,hc,oF,←hc,←hd] at hu;unfold x7 at hu
   have hi':bI nm s=out++nm (ao (s.drop i)).1++bI nm (s.drop (i+(ao (s.drop i)).2.toNat)):=by rw [hi,j0 nm _ hp,List.drop_drop,List.append_assoc]
   have hw:ar cfg f [.int .i64 (ao (s.drop i)).1,.ptr j 0] (aZ bs a out)=some (.str (nm (ao (s.drop i)).1),aZ bs a out):=hf _ _;have hnx:=hnm (ao (s.drop i)).1;have hws:=gy hbl (nm (ao (s.drop i)).1) (by omega) (by omega);rw [iB] at hws;obtain ⟨n,hn⟩: ∃n:Nat,(ao (s.drop i)).2=n:=⟨(ao (s.drop i)).2.toNat,by omega⟩;rw [hn] at hu hi' q3 q4;rw [Int.toNat_natCast] at hi';have q4':i+n≤s.length:=by simp at q4;omega
   have q3':0<n:=by omega
   generalize nm (ao (s.drop i)).1=x at*
   generalize (ao (s.drop i)).1=p1 at*
   rw [hc] at hg;have hk2:=hBl a out;have hk3:=hBl (.ptr bs.length 0) (out++x);generalize aZ bs a out=B at*
   clear hd hp hc hi hf hbl hwb q1 q2 q3 q4 q5 hn;simp (maxSteps:=9^9) (disch:=omega) [-List.map_replicate,-List.map_set,-List.getD_eq_getElem?_getD,-getElem?_pos,-getElem?_neg,om,h1,hg,aj,hu,hw,hws,hk2,hk3,q3',n1,n2,n3,n4];refine ⟨i+n,out++x,.ptr bs.length 0,⟨hi',by omega,by simp;omega,.inr rfl⟩,by omega,?_⟩;simp
 ·rw [List.drop_eq_nil_of_le (by omega),jx,List.append_nil] at hi;rw [hi];have hfin:(aZ bs a out).take bs.length=bs:=by unfold aZ;exact List.take_left' rfl
  by_cases h0:out= []
  ·subst h0;have hst:=rZ hbl;have hfs:((aZ bs a []).set (bs.length+1) (.sl ⟨false,none,none⟩ 1 [])).take bs.length=bs:=by unfold aZ;rw [cB];exact List.take_left' rfl
   have hk2:=hBl a [];generalize aZ bs a []=B at*
   simp (maxSteps:=9^9) (disch:=omega) [-List.map_replicate,-List.map_set,-List.getD_eq_getElem?_getD,-getElem?_pos,-getElem?_neg,om,h1,hst,hfs,hm,hk2]
  ·have hst:=oD hbl (by omega) h0;have hfs:((aZ bs a out).set (bs.length+1) (.sl ⟨false,none,none⟩ 1 (out.map aj))).take bs.length=bs:=by unfold aZ;rw [cB];exact List.take_left' rfl
   have hk2:=hBl a out;generalize aZ bs a out=B at*
   simp (maxSteps:=9^9) (disch:=omega) [-List.map_replicate,-List.map_set,-List.getD_eq_getElem?_getD,-getElem?_pos,-getElem?_neg,om,h1,hst,hfs,hm,hk2]
end Go.Proofs.YtfnkchadeaedlaaGreatDoor
namespace Go.Proofs.YtfnkchadeaedlaaGreatDoor
open Go.Am
set_option maxRecDepth 10000
set_option maxHeartbeats 4000000
theorem r7 (s:ae) (h:s.length<1000000):ar cfg 65 [.str s,.str [46]] []=some (.int .i64 (bW s), []):=by refine ad Qa KK ?_;simp (maxSteps:=9^9) (disch:=omega) [-List.map_replicate,-List.map_set,-List.getD_eq_getElem?_getD,-getElem?_pos,-getElem?_neg,om,L7,x9,bW,Lib.countByte]
theorem GP (c:Ct) (hc:c.ok) (hb: ∀s∈c.an,s.mark.length<1000000∧s.title.length<1000000) (u:Int) (j:Nat) (B:List ab) (hj:ab.at B j= .var 26 (di c)):
  ar cfg 111 [.int .i64 u,.ptr j 0] B=some (.str (et c.an u),B):=by
 refine ad Qb L8 ?_;have h:=zs c hc u hb;unfold bM di at h;simp (maxSteps:=9^9) (disch:=omega) [-List.map_replicate,-List.map_set,-List.getD_eq_getElem?_getD,-getElem?_pos,-getElem?_neg,om,KL,hj,h,di]
def gO (n:Nd):AV:= .agg [.int .i64 n.depth,.str n.tag,.str n.text]
def cN (s:tf):AV:= .agg [.int .i64 s.unit,.str s.num,.ah none 3 (s.nodes.map gO)]
theorem qR (order:List ae): ∀(r:List Fc) (cur:Fc),(fG order cur r).length≤r.length+1
 | [],cur=>by simp [fG]
 | f::r,cur=>by
  have h1:=qR order r f;have h2:=qR order r cur;rw [tR];split
  ·simp only [List.length_cons];omega
  ·split <;> simp only [List.length_cons] <;> omega
theorem fr (order:List ae): ∀l:List Fc,(aq order l).length≤l.length
 | []=>Nat.le_refl _
 | f::r=>qR order r f
theorem r8 {nm:Int→ae} (h: ∀u,(nm u).length≤1000): ∀s:ae,(bI nm s).length≤1000*s.length:=by
 suffices H: ∀(n:Nat) (s:ae),s.length≤n→(bI nm s).length≤1000*s.length from fun s=>H _ s (Nat.le_refl _)
 intro n
 induction n with
 | zero=>intro s hs;have:s= []:=List.length_eq_zero_iff.mp (by omega);subst this;simp [jx]
 | succ n ih=>
  intro s hs;cases s with
  | nil=>simp [jx]
  | cons c r=>
   by_cases hp:(ao (c::r)).2=0
   ·rw [kW nm _ _ hp];have:=ih r (by simp at hs;omega);simp only [List.length_cons];omega
   ·obtain ⟨q1,q2,q3,q4,q5⟩:=(dv (c::r)).resolve_left (fun h=>hp (by rw [h]));rw [j0 nm _ hp];have h1:=h (ao (c::r)).1;have h2:=ih ((c::r).drop (ao (c::r)).2.toNat) (by simp at hs⊢;omega);simp only [List.length_append,List.length_drop] at h2⊢;omega
theorem Cb (c:Ct) (hc:c.ok) (hb: ∀s∈c.an,s.mark.length<1000000∧s.title.length<1000000) (hcl: ∀u,(et c.an u).length≤1000) (x:Sh) (num:ae) (hnl:num.length<10000) (hxo:x.ok) (hxl:1≤x.level∧x.level≤4)
  (hxt:x.title.length<10000) (on:Option Bool) (order:List ae) (ho:order.length<1000000) (hnb: ∀el,-9223372036854775808≤el→el≤9223372036854775807→(fI order c.av el (fp Lib.itoa el)).length≤10000000) (hft: ∀f∈x.facts,f.text.length≤10000∧ -9223372036854775808≤f.el∧f.el≤9223372036854775807):
  ar cfg 62 [bM c,bk x,.str num,.ah on 1 (au order)] []=some (cN (dB Lib.itoa order c (x,num)), []):=by
 refine ad S5 Qc ?_;have hcnt:=r7 num (by omega);have hch:=tS x.fn x.fz x.facts hxo.fz hxo.fl on order ho;have hsx:bk x= .agg [.int .i64 x.unit,.int .i64 x.par,.int .i64 x.level,.str x.mark,.str x.title,.ah x.fn x.fz (x.facts.map er)]:=rfl
 have hlev:([.str [],.str [102,111,110,100,115],.str [115,101,114,105,101,115],.str [102,105,108,101],.str [105,116,101,109]]:List AV)[x.level.toNat]?=some (.str (gf x.level)):=by
  have:x.level=1∨x.level=2∨x.level=3∨x.level=4:=by omega
  rcases this with h | h | h | h <;> rw [h] <;> rfl
 have hxl2:x.level.toNat<5:=by omega
 rw [hsx];have hsecN:(dB Lib.itoa order c (x,num)).nodes=⟨bW num,gf x.level,num++32::x.title⟩::(wB (bW num+1) x++(aq order x.facts).map (pC Lib.itoa order c (bW num+1))):=by simp [dB]
 have hse:cN (dB Lib.itoa order c (x,num))= .agg [.int .i64 x.unit,.str num,.ah none 3 ((dB Lib.itoa order c (x,num)).nodes.map gO)]:=rfl;rw [hse,hsecN];have hs1:=fun u B hj=>GP c hc hb u 0 B hj;have hnm: ∀el,-9223372036854775808≤el→el≤9223372036854775807→ar cfg 113 [bM c,.int .i64 el,.ah on 1 (au order)] []=some (.str (fI order c.av el (fp Lib.itoa el)), []):=fun el h0 h9=>zq c hc el h0 h9 on order ho;unfold bM di at*
 generalize au c.aa=L1 at*
 generalize c.av.map cM=L2 at*
 generalize c.an.map bk=L3 at*
 generalize au order=OA at*
 generalize x.facts.map er=FA at*
 generalize hCA:(aq order x.facts).map er=CA at*
 have hCl:CA.length=(aq order x.facts).length:=by rw [←hCA];simp
 clear hsx;have hdl:bW num≤num.length:=List.count_le_length;have hw:IntKind.i64.wrap ((bW num:Int)+1)=bW num+1:=wrap_i64 (by omega) (by omega);have hCHl:(aq order x.facts).length≤1000000:=Nat.le_trans (fr order x.facts) (by have:=hxo.fl;omega)
 have hCHm: ∀i (h:i<(aq order x.facts).length),CA[i]?=some (.agg [.int .i64 (aq order x.facts)[i].el,.str (aq order x.facts)[i].lang,.str (aq order x.facts)[i].text])∧(aq order x.facts)[i].text.length≤10000∧ -9223372036854775808≤(aq order x.facts)[i].el∧(aq order x.facts)[i].el≤9223372036854775807:=fun i h=>by
  obtain ⟨h1,h2,h3⟩:=hft _ (ba (List.getElem_mem h));refine ⟨?_,h1,h2,h3⟩;rw [←hCA];exact get_map _ _ h
 have hexp: ∀(t:ae) (R:List ab),t.length≤10000→shut (R.length+1) R=true→ar cfg 110 [.str t,.fn 111 [] [.ptr 0 0]] (.var 26 [.ah c.ln c.lz L1,.ah c.bn c.bz L2,.ah c.sn c.sz L3]::R)=some (.str (bI (et c.an) t),.var 26 [.ah c.ln c.lz L1,.ah c.bn c.bz L2,.ah c.sn c.sz L3]::R):=fun t R ht hR=>by
  refine EY 111 ⟨rfl,rfl,rfl,rfl⟩ 0 _ (by simpa [shut,aw,AV.under] using hR) (by simp) (et c.an) (fun u J=>hs1 u _ ?_) (fun u=>hcl u) t ht;simp [ab.at]
 generalize hCH:aq order x.facts=CH at*
 have hNFl:(gO ⟨bW num,gf x.level,num++32::x.title⟩)= .agg [.int .i64 (bW num),.str (gf x.level),.str (num++32::x.title)]:=rfl;generalize hFNd:pC Lib.itoa order c ((bW num:Int)+1)=FN at*
 generalize hNF:(⟨bW num,gf x.level,num++32::x.title⟩::(wB (bW num+1) x++CH.map FN):List Nd)=NF at*
 by_cases hmk:x.mark= []
 ·rw [hmk];simp (maxSteps:=9^9) (disch:=omega) [-List.map_replicate,-List.map_set,-List.getD_eq_getElem?_getD,-getElem?_pos,-getElem?_neg,om,L9,hcnt,hch,af,hlev,hxl2,hCl]
  refine Wp.bw (fun (a:Nat×List Nd)=>CH.length-a.1) (fun a=> [none,none,none,some (.ah on 1 OA),some (.ptr 0 0),none,some (.ptr 2 0),some (.int .i64 (bW num)),none,some (.ptr 6 0),none,none,none,none,none,none,none,none,none,none,none,none,none,some (.ah none 3 CA),some (.int .i64 CH.length),some (.int .i64 a.1),none,none,none,none,none,none,none,none,none,none]) (fun a=> [.var 26 [.ah c.ln c.lz L1,.ah c.bn c.bz L2,.ah c.sn c.sz L3],.var 73 [.int .i64 x.unit,.int .i64 x.par,.int .i64 x.level,.str [],.str x.title,.ah x.fn x.fz FA],.var 46 [.int .i64 0,.str [],.az 3 0],.sl ⟨false,some 75,none⟩ 3 [],.var 141 [.str [],.str [102,111,110,100,115],.str [115,101,114,105,101,115],.str [102,105,108,101],.str [105,116,101,109]],.sl ⟨false,some 75,none⟩ 3 (a.2.map gO),.var 46 [.int .i64 x.unit,.str num,.az 5 a.2.length]])
   (fun a=>NF=a.2++(CH.drop a.1).map FN∧a.1≤CH.length∧a.2.length≤a.1+2) ?_ (0, [⟨bW num,gf x.level,num++32::x.title⟩]) ⟨by simp [←hNF,wB,hmk],by simp,by simp⟩ (by simp) (by simp [gO])
  rintro ⟨i,N⟩ ⟨hi,hil,hNl⟩;simp only at hi hil hNl⊢;rw [hi];by_cases h1:i<CH.length
  ·obtain ⟨hg,ht,hel1,hel2⟩:=hCHm i h1;have hn:=hnm CH[i].el hel1 hel2;have hx:=hexp CH[i].text [.var 73 [.int .i64 x.unit,.int .i64 x.par,.int .i64 x.level,.str [],.str x.title,.ah x.fn x.fz FA],.var 46 [.int .i64 0,.str [],.az 3 0],.sl ⟨false,some 75,none⟩ 3 [],.var 141 [.str [],.str [102,111,110,100,115],.str [115,101,114,105,101,115],.str [102,105,108,101],.str [105,116,101,109]],.sl ⟨false,some 75,none⟩ 3 (N.map gO),.var 46 [.int .i64 x.unit,.str num,.az 5 N.length],.var 79 [.int .i64 CH[i].el,.str CH[i].lang,.str CH[i].text]] ht (by simp [shut,aw,AV.under,cC]);rw [List.drop_eq_getElem_cons h1,List.map_cons] at hi⊢;have hFN:FN CH[i]=⟨(bW num:Int)+1, [112],fI order c.av CH[i].el (fp Lib.itoa CH[i].el)++58::32::bI (et c.an) CH[i].text⟩:=by rw [←hFNd];simp [pC]
   have hNd:FN CH[i]::(CH.drop (i+1)).map FN= [FN CH[i]]++(CH.drop (i+1)).map FN:=rfl;have hNm:(N.map gO).length=N.length:=by simp
   have hxtl:=r8 hcl CH[i].text;have hnml:=hnb CH[i].el hel1 hel2;generalize CH[i]=f at*
   generalize fI order c.av f.el (fp Lib.itoa f.el)=nm at*
   generalize bI (et c.an) f.text=xt at*
   clear hCHm hexp hnm hs1 hi hsecN hlev hb hcl hft hch hNF hnb;simp (maxSteps:=9^9) (disch:=omega) [-List.map_replicate,-List.map_set,-List.getD_eq_getElem?_getD,-getElem?_pos,-getElem?_neg,om,h1,hg,af,hn,hx,hw,hNm];refine ⟨i+1,N++ [FN f],⟨by simp,by omega,by simp;omega⟩,by omega,?_⟩;exact ⟨by omega,by simp [gO,hFN],by simp⟩
  ·rw [List.drop_eq_nil_of_le (by omega),List.map_nil,List.append_nil] at hi⊢;simp (maxSteps:=9^9) (disch:=omega) [-List.map_replicate,-List.map_set,-List.getD_eq_getElem?_getD,-getElem?_pos,-getElem?_neg,om,h1,af]
 ·simp (maxSteps:=9^9) (disch:=omega) [-List.map_replicate,-List.map_set,-List.getD_eq_getElem?_getD,-getElem?_pos,-getElem?_neg,om,L9,hcnt,hch,af,hlev,hxl2,hCl,hmk,hw]
  refine Wp.bw (fun (a:Nat×List Nd)=>CH.length-a.1) (fun a=> [none,none,none,some (.ah on 1 OA),some (.ptr 0 0),none,some (.ptr 2 0),some (.int .i64 (bW num)),none,some (.ptr 6 0),none,none,none,none,none,none,none,none,none,none,none,none,none,some (.ah none 3 CA),some (.int .i64 CH.length),some (.int .i64 a.1),none,none,none,none,none,none,none,none,none,none]) (fun a=> [.var 26 [.ah c.ln c.lz L1,.ah c.bn c.bz L2,.ah c.sn c.sz L3],.var 73 [.int .i64 x.unit,.int .i64 x.par,.int .i64 x.level,.str x.mark,.str x.title,.ah x.fn x.fz FA],.var 46 [.int .i64 0,.str [],.az 3 0],.sl ⟨false,some 75,none⟩ 3 [],.var 141 [.str [],.str [102,111,110,100,115],.str [115,101,114,105,101,115],.str [102,105,108,101],.str [105,116,101,109]],.sl ⟨false,some 75,none⟩ 3 (a.2.map gO),.var 46 [.int .i64 x.unit,.str num,.az 5 a.2.length],.sl ⟨false,some 75,none⟩ 3 [.agg [.int .i64 ((bW num:Int)+1),.str [109,97,114,107],.str x.mark]],.dead])
   (fun a=>NF=a.2++(CH.drop a.1).map FN∧a.1≤CH.length∧a.2.length≤a.1+2) ?_ (0, [⟨bW num,gf x.level,num++32::x.title⟩,⟨(bW num:Int)+1, [109,97,114,107],x.mark⟩]) ⟨by simp [←hNF,wB,hmk],by simp,by simp⟩ (by simp) (by simp [gO])
  rintro ⟨i,N⟩ ⟨hi,hil,hNl⟩;simp only at hi hil hNl⊢;rw [hi];by_cases h1:i<CH.length
  ·obtain ⟨hg,ht,hel1,hel2⟩:=hCHm i h1;have hn:=hnm CH[i].el hel1 hel2;have hx:=hexp CH[i].text [.var 73 [.int .i64 x.unit,.int .i64 x.par,.int .i64 x.level,.str x.mark,.str x.title,.ah x.fn x.fz FA],.var 46 [.int .i64 0,.str [],.az 3 0],.sl ⟨false,some 75,none⟩ 3 [],.var 141 [.str [],.str [102,111,110,100,115],.str [115,101,114,105,101,115],.str [102,105,108,101],.str [105,116,101,109]],.sl ⟨false,some 75,none⟩ 3 (N.map gO),.var 46 [.int .i64 x.unit,.str num,.az 5 N.length],.sl ⟨false,some 75,none⟩ 3 [.agg [.int .i64 ((bW num:Int)+1),.str [109,97,114,107],.str x.mark]],.dead,.var 79 [.int .i64 CH[i].el,.str CH[i].lang,.str CH[i].text]] ht (by simp [shut,aw,AV.under,cC]);rw [List.drop_eq_getElem_cons h1,List.map_cons] at hi⊢;have hFN:FN CH[i]=⟨(bW num:Int)+1, [112],fI order c.av CH[i].el (fp Lib.itoa CH[i].el)++58::32::bI (et c.an) CH[i].text⟩:=by rw [←hFNd];simp [pC]
   have hNd:FN CH[i]::(CH.drop (i+1)).map FN= [FN CH[i]]++(CH.drop (i+1)).map FN:=rfl;have hNm:(N.map gO).length=N.length:=by simp
   have hxtl:=r8 hcl CH[i].text;have hnml:=hnb CH[i].el hel1 hel2;generalize CH[i]=f at*
   generalize fI order c.av f.el (fp Lib.itoa f.el)=nm at*
   generalize bI (et c.an) f.text=xt at*
   clear hCHm hexp hnm hs1 hi hsecN hlev hb hcl hft hch hNF hnb;simp (maxSteps:=9^9) (disch:=omega) [-List.map_replicate,-List.map_set,-List.getD_eq_getElem?_getD,-getElem?_pos,-getElem?_neg,om,h1,hg,af,hn,hx,hw,hNm];refine ⟨i+1,N++ [FN f],⟨by simp,by omega,by simp;omega⟩,by omega,?_⟩;exact ⟨by omega,by simp [gO,hFN],by simp⟩
  ·rw [List.drop_eq_nil_of_le (by omega),List.map_nil,List.append_nil] at hi⊢;simp (maxSteps:=9^9) (disch:=omega) [-List.map_replicate,-List.map_set,-List.getD_eq_getElem?_getD,-getElem?_pos,-getElem?_neg,om,h1,af]
end Go.Proofs.YtfnkchadeaedlaaGreatDoor
namespace Go.Proofs.YtfnkchadeaedlaaGreatDoor
open Go.Am
set_option maxRecDepth 10000
set_option maxHeartbeats 4000000
section
variable {α:Type}
def js (vf:α→AV) (e:Int×α×Nat):AV×AV×Nat:=(.int .i64 e.1,vf e.2.1,e.2.2)
def fZ (u:Int):List (Int×α×Nat)→Nat→Option (Nat×Int×α×Nat)
 | [],_=>none
 | e::r,i=>if e.1=u then some (i,e) else fZ u r (i+1)
theorem pD (vf:α→AV) (u:Int): ∀(m:List (Int×α×Nat)) (i:Nat),jy (bH cfg 20 3) (.int .i64 u) (m.map (js vf)) i=some ((fZ u m i).map fun p=>(p.1,js vf p.2))
 | [],i=>rfl
 | e::r,i=>by
  have ih:=pD vf u r (i+1);have he:bH cfg 20 3 (.int .i64 u) (js vf e).1=some (u==e.1):=by simp (config:={maxSteps:=1000000}) (disch:=omega) [-List.map_replicate,-List.map_set,-List.getD_eq_getElem?_getD,-getElem?_pos,-getElem?_neg,wrap_i64,nk,jz,jA,ig,js]
  simp only [List.map_cons,jy,he,fZ];by_cases hs:e.1=u
  ·simp [hs]
  ·have hs2:(u==e.1)=false:=by simpa using fun h=>hs h.symm
   simp only [hs2,if_neg hs];exact ih
def bB (m:List (Int×α×Nat)):List (Int×α):=m.map fun e=>(e.1,e.2.1)
theorem oG (u:Int): ∀(m:List (Int×α×Nat)) (i:Nat),(fZ u m i).map (fun p=>p.2.2.1)=cO (bB m) u
 | [],i=>rfl
 | e::r,i=>by
  have ih:=oG u r (i+1);simp only [fZ,bB,List.map_cons,cO];by_cases hs:e.1=u
  ·simp [hs]
  ·rw [if_neg hs,if_neg hs];exact ih
theorem kX (u:Int): ∀(m:List (Int×α×Nat)) (i j:Nat) (e:Int×α×Nat),fZ u m i=some (j,e)→i≤j∧m[j-i]?=some e∧e.1=u
 | [],i,j,e,h=>by cases h
 | x::r,i,j,e,h=>by
  simp only [fZ] at h;split at h
  ·rename_i hs;cases h;exact ⟨Nat.le_refl _,by simp,hs⟩
  ·obtain ⟨h1,h2,h3⟩:=kX u r (i+1) j e h;refine ⟨by omega,?_,h3⟩;rw [show j-i=(j-(i+1))+1 by omega];simpa using h2
def pE (m:List (Int×α×Nat)) (clock:Nat) (u:Int) (v:α):List (Int×α×Nat):=match fZ u m 0 with
 | some (j,e)=>m.set j (u,v,e.2.2)
 | none=>m++ [(u,v,clock)]
def lQ (m:List (Int×α×Nat)) (clock:Nat) (u:Int):Nat:=match fZ u m 0 with
 | some _=>clock
 | none=>clock+1
theorem DW (u:Int) (v:α): ∀(m:List (Int×α×Nat)) (i j:Nat) (e:Int×α×Nat),fZ u m i=some (j,e)→jt (bB m) u v=bB (m.set (j-i) (u,v,e.2.2))
 | [],i,j,e,h=>by cases h
 | x::r,i,j,e,h=>by
  simp only [fZ] at h;split at h
  ·rename_i hs;cases h;simp [bB,jt,hs]
  ·rename_i hs;obtain ⟨h1,_,_⟩:=kX u r (i+1) j e h;have ih:=DW u v r (i+1) j e h;rw [show j-i=(j-(i+1))+1 by omega,List.set_cons_succ];simp only [bB,List.map_cons,jt,if_neg hs] at ih⊢;rw [ih]
theorem zy (u:Int) (v:α) (c:Nat): ∀(m:List (Int×α×Nat)) (i:Nat),fZ u m i=none→jt (bB m) u v=bB (m++ [(u,v,c)])
 | [],i,_=>rfl
 | x::r,i,h=>by
  simp only [fZ] at h;split at h
  ·cases h
  ·rename_i hs;have ih:=zy u v c r (i+1) h;simp only [bB,List.map_cons,List.cons_append,jt,if_neg hs] at ih⊢;rw [ih]
theorem eX (m:List (Int×α×Nat)) (clock:Nat) (u:Int) (v:α):bB (pE m clock u v)=jt (bB m) u v:=by
 unfold pE;cases h:fZ u m 0 with
 | none=>exact (zy u v clock m 0 h).symm
 | some p=>obtain ⟨j,e⟩:=p;have:=DW u v m 0 j e h;simp only [Nat.sub_zero] at this;exact this.symm
end
end Go.Proofs.YtfnkchadeaedlaaGreatDoor
namespace Go.Proofs.YtfnkchadeaedlaaGreatDoor
open Go.Am
set_option maxRecDepth 10000
set_option maxHeartbeats 4000000
theorem oH {α:Type} (u:Int) (v:α) (m:List (Int×α)):cO (jt m u v) u=some v:=by rw [gz,if_pos rfl]
def Cc (m:List (Int×ae)) (u:Int):AV:=match cO m u with
 | some v=> .aO [.str v,.bool true]
 | none=> .aO [.str [],.bool false]
def iA (n:Int):AV:= .int .i64 n
theorem I4 {bs:List ab} {k clock:Nat} {m:List (Int×ae×Nat)} (h:ab.at bs k= .mp (m.map (js .str)) clock) (u:Int):dM cfg (cfg.ti 139) (.cw k) (.int .i64 u) true bs=some (Cc (bB m) u,.none):=by
 have hf:=pD .str u m 0;have hl:=oG u m 0;unfold Cc;rw [←hl];cases hq:fZ u m 0 with
 | none=>rw [hq] at hf;simp [dM,fJ,qS,pF,cD,h,hf,-bH]
 | some p=>rw [hq] at hf;simp [dM,fJ,qS,pF,cD,h,hf,-bH,js]
theorem I5 {bs:List ab} {k clock:Nat} {m:List (Int×Int×Nat)} (h:ab.at bs k= .mp (m.map (js iA)) clock) (u:Int):dM cfg (cfg.ti 140) (.cw k) (.int .i64 u) false bs=some (.int .i64 ((cO (bB m) u).getD 0),.none):=by
 have hf:=pD iA u m 0;have hl:=oG u m 0;rw [←hl];cases hq:fZ u m 0 with
 | none=>rw [hq] at hf;simp [dM,fJ,qS,pF,cD,h,hf,-bH]
 | some p=>rw [hq] at hf;simp [dM,fJ,qS,pF,cD,h,hf,-bH,js,iA]
theorem r9 {α:Type} (vf:α→AV) (m:List (Int×α×Nat)) (j:Nat) (e:Int×α×Nat):(m.set j e).map (js vf)=(m.map (js vf)).set j (js vf e):=by simp [List.map_set]
theorem Ma {bs:List ab} {k clock:Nat} {m:List (Int×ae×Nat)} (h:ab.at bs k= .mp (m.map (js .str)) clock) (u:Int) (v:ae):aQ cfg (cfg.ti 139) (.cw k) (.int .i64 u) (.str v) bs=some (.aO [],.gZ k (.mp ((pE m clock u v).map (js .str)) (lQ m clock u))):=by
 have hf:=pD .str u m 0;unfold pE lQ;cases hq:fZ u m 0 with
 | none=>rw [hq] at hf;simp [aQ,cD,gA,gg,hZ,h,hf,-bH,js]
 | some p=>obtain ⟨j,e⟩:=p;obtain ⟨_,_,he⟩:=kX u m 0 j e hq;rw [hq] at hf;simp [aQ,cD,gA,gg,hZ,h,hf,-bH,js,sameKey,iP,he,r9,-List.map_set]
theorem Mb {bs:List ab} {k clock:Nat} {m:List (Int×Int×Nat)} (h:ab.at bs k= .mp (m.map (js iA)) clock) (u:Int) (v:Int):aQ cfg (cfg.ti 140) (.cw k) (.int .i64 u) (.int .i64 v) bs=some (.aO [],.gZ k (.mp ((pE m clock u v).map (js iA)) (lQ m clock u))):=by
 have hf:=pD iA u m 0;unfold pE lQ;cases hq:fZ u m 0 with
 | none=>rw [hq] at hf;simp [aQ,cD,gA,gg,hZ,h,hf,-bH,js,iA]
 | some p=>obtain ⟨j,e⟩:=p;obtain ⟨_,_,he⟩:=kX u m 0 j e hq;rw [hq] at hf;simp [aQ,cD,gA,gg,hZ,h,hf,-bH,js,iA,sameKey,iP,he,r9,-List.map_set]
theorem Mc {C:List ab} {n:Nat} (h:C.length=n):(∀l,(C++l)[n]?=l[0]?)∧(∀l,(C++l)[n+1]?=l[1]?)∧(∀l,(C++l)[n+1+1]?=l[2]?)∧(∀l,(C++l)[n+1+1+1]?=l[3]?)
  ∧(∀l X,(C++l).set n X=C++l.set 0 X)∧(∀l X,(C++l).set (n+1) X=C++l.set 1 X)∧(∀l X,(C++l).set (n+1+1) X=C++l.set 2 X)∧(∀l X,(C++l).set (n+1+1+1) X=C++l.set 3 X)
  ∧(∀l,ab.at (C++l) n=ab.at l 0)∧(∀l,ab.at (C++l) (n+1)=ab.at l 1)∧(∀l,ab.at (C++l) (n+1+1)=ab.at l 2)∧(∀l,ab.at (C++l) (n+1+1+1)=ab.at l 3)∧(∀l,(C++l).take n=C):=by
 subst h
 exact ⟨fun l=>by simpa using dC C l 0,fun l=>dC C l 1,fun l=>dC C l 2,fun l=>dC C l 3,
  fun l X=>by simpa using cB C l 0 X,fun l X=>cB C l 1 X,fun l X=>cB C l 2 X,fun l X=>cB C l 3 X,
  fun l=>by simpa using dX C l 0,fun l=>dX C l 1,fun l=>dX C l 2,fun l=>dX C l 3,fun l=>List.take_left' rfl⟩
theorem DX {C:List ab} {n:Nat} (h:C.length=n) (l:List ab):(C++l).take (n+3)=C++l.take 3:=by subst h;rw [List.take_append,List.take_of_length_le (by omega)];simp
theorem ya (n:Nat):ed n∘js AV.str=js AV.str:=by funext e;simp [ed,js,forget,AV.under]
theorem yb (n:Nat):ed n∘js iA=js iA:=by funext e;simp [ed,js,iA,forget,AV.under]
theorem I6 (n:Nat) (m:List (Int×ae×Nat)):dN n (m.map (js .str))=true:=by
 induction m with
 | nil=>rfl
 | cons e r ih=>simp [dN,js,AV.under] at ih⊢;try exact ih
theorem I7 (n:Nat) (m:List (Int×Int×Nat)):dN n (m.map (js iA))=true:=by
 induction m with
 | nil=>rfl
 | cons e r ih=>simp [dN,js,iA,AV.under] at ih⊢;try exact ih
theorem sa {σ:Type} (K:σ→List ab) (stp:σ→Sh×ae→σ) (Inv:Nat→σ→Prop) (n0:Nat) (hKl: ∀st,(K st).length=n0) (hKs: ∀st,shut n0 (K st)=true)
  (f:FuncId) (hns:wq f) (caps:List AV) (c:Ct) (hc:c.ok) (hlen:c.an.length≤400)
  (hcu: ∀n,n0≤n→aw n caps=true) (hcL: ∀B,dd B caps=some caps) (hcP:ai caps=false)
  (hf: ∀i st s n J,i<c.an.length→Inv i st→s∈c.an→n.length<10000→shut (n0+J.length) J=true→ar cfg f (bk s:: .str n::caps) (K st++J)=some (.aO [],K (stp st (s,n))++J)∧Inv (i+1) (stp st (s,n)))
  (hInv: ∀i st,Inv i st→Inv (i+1) st) (root:Int) (st0:σ) (h0:Inv 0 st0):
  ar cfg 60 [bM c,.int .i64 root,.fn f [] caps] (K st0)=some (.aO [],K ((bt Lib.itoa root ⟨[], []⟩ c.an).foldl stp st0)):=by
 refine ad S6 Qd ?_;obtain ⟨n1,n2,n3,n4⟩:=hns;simp only [exts,tc,Gs,jX] at n1 n2 n3 n4;have hE: ∀k (h:k<c.an.length),(c.an.map bk)[k]?=some (bk c.an[k]):=fun k h=>get_map _ _ h;have hEl:(c.an.map bk).length=c.an.length:=by simp
 have hcsz:=hc.sz;unfold bM di;generalize au c.aa=L1 at*
 generalize c.av.map cM=L2 at*
 generalize c.an.map bk=L3 at*
 generalize c.sz=sz at*
 generalize c.an=l at*
 have hk0:=hKl st0;have e1:n0+1-n0=1:=by omega
 have e2:n0+1+1-n0=2:=by omega
 have e3:n0+1+1+1-n0=3:=by omega
 obtain ⟨g0,g1,g2,g3,s0,s1,s2,s3,b0,b1,b2,b3,tk⟩:=Mc hk0;simp (maxSteps:=9^9) (disch:=omega) [-List.map_replicate,-List.map_set,-List.getD_eq_getElem?_getD,-getElem?_pos,-getElem?_neg,om,Qe,af,hEl,hk0,g0,g1,g2,g3,s0,s1,s2,s3,b0,b1,b2,b3,tk,kp,e1,e2,e3];clear g0 g1 g2 g3 s0 s1 s2 s3 b0 b1 b2 b3 tk hk0
 refine Wp.bw (fun (a:Nat×σ×(List (Int×ae×Nat)×Nat)×(List (Int×Int×Nat)×Nat))=>l.length-a.1) (fun a=> [none,some (.int .i64 root),some (.fn f [] caps),none,some (.cw (n0+1)),some (.cw (n0+1+1)),none,none,none,none,none,none,none,some (.ah c.sn sz L3),some (.int .i64 l.length),some (.int .i64 a.1),none,none,none,none,none,none,none,none,none,none,none,none])
  (fun a=>K a.2.1++ [.var 26 [.ah c.ln c.lz L1,.ah c.bn c.bz L2,.ah c.sn sz L3],.mp (a.2.2.1.1.map (js .str)) a.2.2.1.2,.mp (a.2.2.2.1.map (js iA)) a.2.2.2.2])
  (fun a=>(bt Lib.itoa root ⟨[], []⟩ l).foldl stp st0=(bt Lib.itoa root ⟨bB a.2.2.1.1,bB a.2.2.2.1⟩ (l.drop a.1)).foldl stp a.2.1∧a.1≤l.length∧Inv a.1 a.2.1
   ∧(∀u v,cO (bB a.2.2.1.1) u=some v→v.length≤22*(a.1+1))∧(∀u,0≤(cO (bB a.2.2.2.1) u).getD 0∧(cO (bB a.2.2.2.1) u).getD 0≤a.1)) ?_ (0,st0,([],0),([],0)) ⟨rfl,by omega,h0,by simp [bB,cO],by simp [bB,cO]⟩ (by simp) (by simp)
 rintro ⟨i,st,⟨m,cm⟩,⟨q,cq⟩⟩ ⟨hi,hil,hI,hm,hq⟩;simp only at hi hil hI hm hq⊢;have hcu3:=hcu (n0+3) (by omega);have hks:=hKs st;have hkm:=shut_map (Nat.le_refl _) hks;obtain ⟨g0,g1,g2,g3,s0,s1,s2,s3,b0,b1,b2,b3,tk⟩:=Mc (hKl st);by_cases h1:i<l.length
 ·have hk1:=hKl st;have look1: ∀(m:List (Int×ae×Nat)) cm b' l' u,dM cfg (cfg.ti 139) (.cw (n0+1)) (.int .i64 u) true (K st++(b':: .mp (m.map (js .str)) cm::l'))=some (Cc (bB m) u,.none):=fun m cm b' l' u=>I4 (by rw [b1];rfl) u;have look2: ∀(m:List (Int×Int×Nat)) cm b' b'' l' u,dM cfg (cfg.ti 140) (.cw (n0+1+1)) (.int .i64 u) false (K st++(b'::b'':: .mp (m.map (js iA)) cm::l'))=some (.int .i64 ((cO (bB m) u).getD 0),.none):=fun m cm b' b'' l' u=>I5 (by rw [b2];rfl) u;have put1: ∀(m:List (Int×ae×Nat)) cm b' l' u v,aQ cfg (cfg.ti 139) (.cw (n0+1)) (.int .i64 u) (.str v) (K st++(b':: .mp (m.map (js .str)) cm::l'))=some (.aO [],.gZ (n0+1) (.mp ((pE m cm u v).map (js .str)) (lQ m cm u))):=fun m cm b' l' u v=>Ma (by rw [b1];rfl) u v;have ew: ∀(m:List (Int×Int×Nat)) cm b' b'' l' u v,aQ cfg (cfg.ti 140) (.cw (n0+1+1)) (.int .i64 u) (.int .i64 v) (K st++(b'::b'':: .mp (m.map (js iA)) cm::l'))=some (.aO [],.gZ (n0+1+1) (.mp ((pE m cm u v).map (js iA)) (lQ m cm u))):=fun m cm b' b'' l' u v=>Mb (by rw [b2];rfl) u v;simp only [Qf,Qg] at look1 look2 put1 ew;have hg:=hE i h1;have hsm:l[i]∈l:=List.getElem_mem h1;have hcl:=fun n J hn hJ=>hf i st l[i] n J h1 hI hsm hn hJ;obtain rfl:=hcsz (ne_of_lt h1);rw [List.drop_eq_getElem_cons h1] at hi;simp only [bt] at hi;clear hE hf;generalize l[i]=s at*
  unfold bk at hg hcl;have b3': ∀l,ab.at (K st++l) (n0+3)=ab.at l 3:=b3;have g3': ∀l,(K st++l)[n0+3]?=l[3]?:=g3;have s3': ∀l X,(K st++l).set (n0+3) X=K st++l.set 3 X:=s3
  have hJ: ∀(m:List (Int×ae×Nat)) (cm:Nat) (q:List (Int×Int×Nat)) (cq:Nat),shut (n0+4) [.var 26 [.ah c.ln c.lz L1,.ah c.bn c.bz L2,.ah c.sn 6 L3],.mp (m.map (js .str)) cm,.mp (q.map (js iA)) cq,.var 73 [.int .i64 s.unit,.int .i64 s.par,.int .i64 s.level,.str s.mark,.str s.title,.ah s.fn s.fz (s.facts.map er)]]=true:=fun m cm q cq=>by
   simp [shut,aw,AV.under,I6,I7]
  by_cases hr:s.unit=root
  ·subst hr;have hst:dO Lib.itoa s.unit ⟨bB m,bB q⟩ s=⟨jt (bB m) s.unit [49],bB q⟩:=by unfold dO;rw [if_pos rfl]
   rw [hst] at hi;have hlk:cO (jt (bB m) s.unit [49]) s.unit=some [49]:=oH _ _ _;rw [hlk] at hi;simp only [List.foldl_cons] at hi;have hlk2:Cc (jt (bB m) s.unit [49]) s.unit= .aO [.str [49],.bool true]:=by unfold Cc;rw [hlk]
   obtain ⟨hc1,hc2⟩:=hcl [49] [.var 26 [.ah c.ln c.lz L1,.ah c.bn c.bz L2,.ah c.sn 6 L3],.mp ((pE m cm s.unit [49]).map (js .str)) (lQ m cm s.unit),.mp (q.map (js iA)) cq,.var 73 [.int .i64 s.unit,.int .i64 s.par,.int .i64 s.level,.str s.mark,.str s.title,.ah s.fn s.fz (s.facts.map er)]] (by simp) (hJ _ _ _ _);have hk2:=hKl (stp st (s, [49]));have tk3:=DX hk2;have hkm2:=shut_map (show n0≤n0+3 by omega) (hKs (stp st (s, [49])));simp (maxSteps:=9^9) (disch:=omega) [-List.map_replicate,-List.map_set,-List.getD_eq_getElem?_getD,-getElem?_pos,-getElem?_neg,om,h1,hg,af,hk1,g0,g1,g2,g3,s0,s1,s2,s3,b0,b1,b2,b3,tk,e1,e2,e3,look1,look2,put1,ew,n1,n2,n3,n4,hcL,hcP,b3',g3',s3',eX,hlk2,hc1,hk2,tk3,hkm2,ya,yb,hcu3];refine ⟨i+1,stp st (s, [49]),pE m cm s.unit [49],lQ m cm s.unit,q,⟨by rw [eX];exact hi,by omega,hc2,?_,?_⟩,by omega,by omega,cq,rfl⟩
   ·intro u v hv;rw [eX,gz] at hv;split at hv
    ·cases hv;simp;omega
    ·have:=hm u v hv;omega
   ·intro u;have:=hq u;omega
  ·cases hpar:cO (bB m) s.par with
   | none=>
    have hst:dO Lib.itoa root ⟨bB m,bB q⟩ s=⟨bB m,bB q⟩:=by unfold dO;rw [if_neg hr,hpar]
    rw [hst] at hi;have hlp:Cc (bB m) s.par= .aO [.str [],.bool false]:=by unfold Cc;rw [hpar]
    cases hun:cO (bB m) s.unit with
    | none=>
     rw [hun] at hi;have hlk2:Cc (bB m) s.unit= .aO [.str [],.bool false]:=by unfold Cc;rw [hun]
     have tk3:=DX hk1;have hkm2:=shut_map (show n0≤n0+3 by omega) hks;simp (maxSteps:=9^9) (disch:=omega) [-List.map_replicate,-List.map_set,-List.getD_eq_getElem?_getD,-getElem?_pos,-getElem?_neg,om,h1,hg,af,hk1,g0,g1,g2,g3,s0,s1,s2,s3,b0,b1,b2,b3,tk,e1,e2,e3,look1,look2,put1,ew,n1,n2,n3,n4,hcL,hcP,b3',g3',s3',eX,ya,yb,hcu3,hr,hlk2,hlp,tk3,hkm2];refine ⟨i+1,st,m,cm,q,⟨hi,by omega,hInv _ _ hI,fun u v hv=>by have:=hm u v hv;omega,fun u=>by have:=hq u;omega⟩,by omega,by omega,cq,rfl⟩
    | some n=>
     rw [hun] at hi;simp only [List.foldl_cons] at hi;have hlk2:Cc (bB m) s.unit= .aO [.str n,.bool true]:=by unfold Cc;rw [hun]
     obtain ⟨hc1,hc2⟩:=hcl n [.var 26 [.ah c.ln c.lz L1,.ah c.bn c.bz L2,.ah c.sn 6 L3],.mp (m.map (js .str)) cm,.mp (q.map (js iA)) cq,.var 73 [.int .i64 s.unit,.int .i64 s.par,.int .i64 s.level,.str s.mark,.str s.title,.ah s.fn s.fz (s.facts.map er)]] (by have:=hm _ _ hun;omega) (hJ _ _ _ _);have hk2:=hKl (stp st (s,n));have tk3:=DX hk2;have hkm2:=shut_map (show n0≤n0+3 by omega) (hKs (stp st (s,n)));simp (maxSteps:=9^9) (disch:=omega) [-List.map_replicate,-List.map_set,-List.getD_eq_getElem?_getD,-getElem?_pos,-getElem?_neg,om,h1,hg,af,hk1,g0,g1,g2,g3,s0,s1,s2,s3,b0,b1,b2,b3,tk,e1,e2,e3,look1,look2,put1,ew,n1,n2,n3,n4,hcL,hcP,b3',g3',s3',eX,ya,yb,hcu3,hr,hlk2,hlp,hc1,hk2,tk3,hkm2];refine ⟨i+1,stp st (s,n),m,cm,q,⟨hi,by omega,hc2,fun u v hv=>by have:=hm u v hv;omega,fun u=>by have:=hq u;omega⟩,by omega,by omega,cq,rfl⟩
   | some above=>
    have hxq:=hq s.par;generalize hx:(cO (bB q) s.par).getD 0=x at*
    have hst:dO Lib.itoa root ⟨bB m,bB q⟩ s=⟨jt (bB m) s.unit (above++46::Lib.itoa (x+1)),jt (bB q) s.par (x+1)⟩:=by unfold dO;rw [if_neg hr,hpar];simp [hx]
    rw [hst] at hi;have hal:=hm _ _ hpar;have hit:(Lib.itoa (x+1)).length≤21:=Lib.itoa_length_le (x+1) (by omega) (by omega);have hlp:Cc (bB m) s.par= .aO [.str above,.bool true]:=by unfold Cc;rw [hpar]
    have hw:IntKind.i64.wrap (x+1)=x+1:=wrap_i64 (by omega) (by omega);have hk3:(cO (jt (bB q) s.par (x+1)) s.par).getD 0=x+1:=by rw [oH];rfl
    have hid1: -9223372036854775808≤x+1:=by omega
    have hid2:x+1≤9223372036854775807:=by omega
    have hlk:cO (jt (bB m) s.unit (above++46::Lib.itoa (x+1))) s.unit=some (above++46::Lib.itoa (x+1)):=oH _ _ _;rw [hlk] at hi;simp only [List.foldl_cons] at hi;have hlk2:Cc (jt (bB m) s.unit (above++46::Lib.itoa (x+1))) s.unit= .aO [.str (above++46::Lib.itoa (x+1)),.bool true]:=by unfold Cc;rw [hlk]
    generalize hit2:Lib.itoa (x+1)=it at*
    obtain ⟨hc1,hc2⟩:=hcl (above++46::it) [.var 26 [.ah c.ln c.lz L1,.ah c.bn c.bz L2,.ah c.sn 6 L3],.mp ((pE m cm s.unit (above++46::it)).map (js .str)) (lQ m cm s.unit),.mp ((pE q cq s.par (x+1)).map (js iA)) (lQ q cq s.par),.var 73 [.int .i64 s.unit,.int .i64 s.par,.int .i64 s.level,.str s.mark,.str s.title,.ah s.fn s.fz (s.facts.map er)]] (by simp;omega) (hJ _ _ _ _);have hk2:=hKl (stp st (s,above++46::it));have tk3:=DX hk2;have hkm2:=shut_map (show n0≤n0+3 by omega) (hKs (stp st (s,above++46::it)));clear hlk hst;simp (maxSteps:=9^9) (disch:=omega) [-List.map_replicate,-List.map_set,-List.getD_eq_getElem?_getD,-getElem?_pos,-getElem?_neg,om,h1,hg,af,hk1,g0,g1,g2,g3,s0,s1,s2,s3,b0,b1,b2,b3,tk,e1,e2,e3,look1,look2,put1,ew,n1,n2,n3,n4,hcL,hcP,b3',g3',s3',eX,ya,yb,hcu3,hr,hlk2,hlp,hx,hw,hk3,zr,hid1,hid2,hit2,hc1,hk2,tk3,hkm2];refine ⟨i+1,stp st (s,above++46::it),pE m cm s.unit (above++46::it),lQ m cm s.unit,pE q cq s.par (x+1),⟨by rw [eX,eX];exact hi,by omega,hc2,?_,?_⟩,by omega,by omega,lQ q cq s.par,rfl⟩
    ·intro u v hv;rw [eX,gz] at hv;split at hv
     ·cases hv;simp;omega
     ·have:=hm u v hv;omega
    ·intro u;rw [eX,gz];split
     ·simp;omega
     ·have:=hq u;omega
 ·rw [List.drop_eq_nil_of_le (by omega)] at hi;rw [show (bt Lib.itoa root ⟨bB m,bB q⟩ []).foldl stp st=st from rfl] at hi;rw [hi];have hk1:=hKl st;generalize K st=KS at*
  simp (maxSteps:=9^9) (disch:=omega) [-List.map_replicate,-List.map_set,-List.getD_eq_getElem?_getD,-getElem?_pos,-getElem?_neg,om,h1,tk,hkm,hk1]
end Go.Proofs.YtfnkchadeaedlaaGreatDoor
namespace Go.Proofs.YtfnkchadeaedlaaGreatDoor
open Go.Am
set_option maxRecDepth 10000
set_option maxHeartbeats 4000000
theorem sb (u:Int): ∀(l:List (Sh×ae)) (st:ae),l.foldl (fun st x=>if x.1.unit=u then x.2 else st) st=eS u st l
 | [],_=>rfl
 | x::r,st=>by
  rw [List.foldl_cons,sb u r,eS];split <;> rfl
def Qh (c:Ct) (u:Int) (f:ae):List ab:= [.var 26 (di c),.var 3 [.int .i64 u],.var 9 [.str f]]
theorem I8 (c:Ct) (u:Int) (st:ae) (s:Sh) (n:ae) (J:List ab) (hJ:shut (3+J.length) J=true):
  ar cfg 77 (bk s:: .str n:: [.ptr 1 0,.ptr 2 0]) (Qh c u st++J)=some (.aO [],Qh c u (if s.unit=u then n else st)++J):=by
 refine ad S7 Qi ?_;have hJm:=shut_map (show 3+J.length≤J.length+1+1+1 by omega) hJ;unfold bk Qh di;generalize au c.aa=L1 at*
 generalize c.av.map cM=L2 at*
 generalize c.an.map bk=L3 at*
 by_cases h:s.unit=u
 ·simp (maxSteps:=9^9) (disch:=omega) [-List.map_replicate,-List.map_set,-List.getD_eq_getElem?_getD,-getElem?_pos,-getElem?_neg,om,Md,h,af,hJm]
 ·simp (maxSteps:=9^9) (disch:=omega) [-List.map_replicate,-List.map_set,-List.getD_eq_getElem?_getD,-getElem?_pos,-getElem?_neg,om,Md,h,af,hJm]
theorem qT (c:Ct) (hc:c.ok) (root u:Int):
  ar cfg 38 [bM c,.int .i64 root,.int .i64 u] []=some (.aO (if fX c=0 then [.str (bZ Lib.itoa c root u),.bool (decide (bZ Lib.itoa c root u≠ []))] else [.str [],.bool false]), []):=by
 refine ad S8 Qj ?_;have h1:=tQ c hc;by_cases h:fX c=0
 ·rw [if_pos h];rw [h] at h1
  have h2:=sa (Qh c u) (fun st x=>if x.1.unit=u then x.2 else st) (fun _ _=>True) 3 (fun st=>rfl) (fun st=>rfl) 77 ⟨rfl,rfl,rfl,rfl⟩ [.ptr 1 0,.ptr 2 0] c hc (Nat.le_trans (cE h).EZ (by omega)) (fun n hn=>by simp [aw,AV.under];omega) (fun B=>rfl) rfl
   (fun i st s n J _ _ _ _ hJ=>⟨I8 c u st s n J hJ,trivial⟩) (fun _ _ _=>trivial) root [] trivial
  rw [sb] at h2;have h3:eS u [] (bt Lib.itoa root ⟨[], []⟩ c.an)=bZ Lib.itoa c root u:=rfl;rw [h3] at h2;generalize bZ Lib.itoa c root u=N at*
  unfold Qh bM di at*
  generalize au c.aa=L1 at*
  generalize c.av.map cM=L2 at*
  generalize c.an.map bk=L3 at*
  simp (maxSteps:=9^9) (disch:=omega) [-List.map_replicate,-List.map_set,-List.getD_eq_getElem?_getD,-getElem?_pos,-getElem?_neg,om,Me,h1,h2,af];cases N <;> rfl
 ·rw [if_neg h];unfold bM di at*
  generalize au c.aa=L1 at*
  generalize c.av.map cM=L2 at*
  generalize c.an.map bk=L3 at*
  simp (maxSteps:=9^9) (disch:=omega) [-List.map_replicate,-List.map_set,-List.getD_eq_getElem?_getD,-getElem?_pos,-getElem?_neg,om,Me,h1,h,af]
end Go.Proofs.YtfnkchadeaedlaaGreatDoor
namespace Go.Proofs.YtfnkchadeaedlaaGreatDoor
open Go.Am
set_option maxRecDepth 10000
set_option maxHeartbeats 4000000
theorem kY {N:Nat} (order:List ae) (el:Int): ∀(l:List Lb) (t:ae) (b:Int),t.length≤N→(∀x∈l,x.text.length≤N)→(fi order el t b l).length≤N
 | [],t,b,h,_=>h
 | x::r,t,b,h,hl=>by
  unfold fi;split
  ·exact kY order el r _ _ (hl x (by simp)) (fun y hy=>hl y (by simp [hy]))
  ·exact kY order el r _ _ h (fun y hy=>hl y (by simp [hy]))
theorem zz {l:List Sh} (h: ∀s∈l,s.mark.length≤64∧s.title.length≤64) (u:Int):(et l u).length≤1000:=by
 unfold et;split
 ·simp
 ·split
  ·rename_i s hs;obtain ⟨h1,h2⟩:=h s (List.mem_of_getElem? hs);split
   ·omega
   ·simp;omega
  ·simp
theorem yc (c:Ct) (hc:c.ok) (hk:gP c) (x:Sh) (hx:x∈c.an) (num:ae) (hnl:num.length<10000) (on:Option Bool) (order:List ae) (ho:order.length<1000000):
  ar cfg 62 [bM c,bk x,.str num,.ah on 1 (au order)] []=some (cN (dB Lib.itoa order c (x,num)), []):=by
 have hs:=hk.an x hx;refine Cb c hc (fun s hs=>by have:=hk.an s hs;exact ⟨by have:=this.mark;omega,by have:=this.zA;omega⟩) (fun u=>zz (fun s hs=>⟨(hk.an s hs).mark,(hk.an s hs).zA⟩) u) x num hnl (hc.sh x hx) ⟨hs.l1,hs.l2⟩ (by have:=hs.zA;omega) on order ho (fun el h0 h9=> ?_) (fun f hf=> ?_)
 ·refine Nat.le_trans (kY (N:=64) order el c.av _ _ ?_ (fun y hy=>(hk.av y hy).len)) (by omega);have:=Lib.itoa_length_le el h0 h9;simp [fp];omega
 ·have:=hs.facts f hf;exact ⟨by have:=this.len;omega,by have:=this.E0;omega,by have:=this.IL;omega⟩
def Oe (c:Ct) (root:Int) (lang:ae) (order:List ae) (l:List tf):List ab:= [.var 26 (di c),.var 41 [.int .i64 0,.str [],.az 2 0],.sl ⟨false,some 46,none⟩ 3 [],.var 41 [.int .i64 root,.str lang,.az 5 l.length],.var 22 [.ah none 1 (au order)],.sl ⟨false,some 46,none⟩ 3 (l.map cN)]
theorem I9 (c:Ct) (hc:c.ok) (hk:gP c) (root:Int) (lang:ae) (order:List ae) (ho:order.length<1000000) (l:List tf) (hl:l.length<1000) (s:Sh) (hs:s∈c.an) (n:ae) (hn:n.length<10000) (J:List ab) (hJ:shut (6+J.length) J=true):
  ar cfg 61 (bk s:: .str n:: [.ptr 3 0,.ptr 0 0,.ptr 4 0]) (Oe c root lang order l++J)=some (.aO [],Oe c root lang order (l++ [dB Lib.itoa order c (s,n)])++J):=by
 refine ad S9 Qk ?_;have hJm:=shut_map (show 6+J.length≤J.length+1+1+1+1+1+1 by omega) hJ;have hsec:=yc c hc hk s hs n hn none order ho;have hll:(l.map cN).length=l.length:=by simp
 have hse: ∀x:tf,cN x= .agg [.int .i64 x.unit,.str x.num,.ah none 3 (x.nodes.map gO)]:=fun x=>rfl;generalize dB Lib.itoa order c (s,n)=X at*
 have hlx:(l++ [X]).map cN=l.map cN++ [.agg [.int .i64 X.unit,.str X.num,.ah none 3 (X.nodes.map gO)]]:=by simp [hse]
 have hxp:ai (X.nodes.map gO)=true:=eK (fun _=>rfl) _;rw [hse X] at hsec;unfold Oe;rw [hlx];unfold bk bM di at*
 generalize au c.aa=L1 at*
 generalize c.av.map cM=L2 at*
 generalize c.an.map _=L3 at*
 generalize au order=OA at*
 generalize s.facts.map er=FA at*
 generalize X.nodes.map gO=XN at*
 generalize l.map cN=LA at*
 simp (maxSteps:=9^9) (disch:=omega) [-List.map_replicate,-List.map_set,-List.getD_eq_getElem?_getD,-getElem?_pos,-getElem?_neg,om,Ql,hsec,af,hJm,hll,hxp]
theorem zB (l:List ae) (s:ae):(ak l s).length≤l.length+1:=by
 unfold ak;split
 ·simp only [List.length_cons,List.length_append,List.length_take,List.length_drop];omega
 ·simp
theorem wC {α β:Type} (g:α→β): ∀(l:List α) (a:List β),l.foldl (fun a x=>a++ [g x]) a=a++l.map g
 | [],a=>by simp
 | x::r,a=>by rw [List.foldl_cons,wC g r];simp
def E1 (root:Int) (lang:ae) (l:List tf):AV:= .agg [.int .i64 root,.str lang,.ah none 3 (l.map cN)]
def Ja:AV:= .agg [.int .i64 0,.str [],.ah (some true) 0 []]
theorem gh (c:Ct) (hc:c.ok) (root:Int) (lang:ae):
  ar cfg 18 [bM c,.int .i64 root,.str lang] []=some (.aO [if cZ c root lang=0 then E1 root lang (dP Lib.itoa c root lang) else Ja,.int .i64 (cZ c root lang)], []):=by
 refine ad Ta Qm ?_;have h1:=tQ c hc;have h2:=nj c.ln c.lz c.aa hc.lz hc.ll lang;have h3:=tw c.sn c.sz c.an hc.sz hc.sl root;by_cases hE:cZ c root lang=0
 ·obtain ⟨hk0,hlang,i,hi⟩:=zC hE;have hk:=cE hk0;have h4:=qQ c hc lang hlang;have hol:(ak c.aa lang).length<1000000:=by have:=zB c.aa lang;have:=hk.l2;omega
  have h5:=sa (Oe c root lang (ak c.aa lang)) (fun l x=>l++ [dB Lib.itoa (ak c.aa lang) c x]) (fun i l=>l.length≤i) 6 (fun l=>rfl) (fun l=>by simp [Oe,shut,aw,AV.under,cC,di]) 61 ⟨rfl,rfl,rfl,rfl⟩ [.ptr 3 0,.ptr 0 0,.ptr 4 0] c hc (Nat.le_trans hk.EZ (by omega)) (fun n hn=>by simp [aw,AV.under];omega) (fun B=>rfl) rfl
   (fun i l s n J hil hI hs hn hJ=>⟨I9 c hc hk root lang _ hol l (by have:=hk.EZ;omega) s hs n hn J hJ,by simpa using hI⟩) (fun i l h=>by omega) root [] (by simp)
  rw [wC,List.nil_append] at h5;have h6:(bt Lib.itoa root ⟨[], []⟩ c.an).map (dB Lib.itoa (ak c.aa lang) c)=dP Lib.itoa c root lang:=rfl;rw [h6] at h5;rw [if_pos hE,hE];rw [hlang] at h2;rw [hi] at h3;rw [hk0] at h1;unfold E1;have hpl:ai ((dP Lib.itoa c root lang).map cN)=true:=eK (fun x=>by simp [cN,AV.plain,ai]) _;have hll:((dP Lib.itoa c root lang).map cN).length=(dP Lib.itoa c root lang).length:=by simp
  generalize hAP:dP Lib.itoa c root lang=AP at*
  unfold Oe bM di at*
  simp only [List.map_nil,List.length_nil] at h5;have hoz:(au (ak c.aa lang)).length=(ak c.aa lang).length:=ki _;generalize au (ak c.aa lang)=OA at*
  generalize au c.aa=L1 at*
  generalize c.av.map cM=L2 at*
  generalize c.an.map bk=L3 at*
  generalize AP.map cN=AL at*
  simp (maxSteps:=9^9) (disch:=omega) [-List.map_replicate,-List.map_set,-List.getD_eq_getElem?_getD,-getElem?_pos,-getElem?_neg,om,GQ,h1,h2,h3,h4,h5,af,cH,hll,hpl]
 ·rw [if_neg hE];unfold cZ at*
  unfold Ja bM di at*
  generalize au c.aa=L1 at*
  generalize c.av.map cM=L2 at*
  generalize c.an.map bk=L3 at*
  by_cases e1:fX c=0
  ·rw [if_neg (by simp [e1])] at hE⊢;rw [e1] at h1;cases e2:fW c.aa lang with
   | false=>rw [e2] at h2;simp (maxSteps:=9^9) (disch:=omega) [-List.map_replicate,-List.map_set,-List.getD_eq_getElem?_getD,-getElem?_pos,-getElem?_neg,om,GQ,h1,h2,af]
   | true=>
    rw [e2] at h2 hE;cases e3:aP c.an root with
    | none=>rw [e3] at h3;simp (maxSteps:=9^9) (disch:=omega) [-List.map_replicate,-List.map_set,-List.getD_eq_getElem?_getD,-getElem?_pos,-getElem?_neg,om,GQ,h1,h2,h3,af,cH]
    | some i=>rw [e3] at hE;simp at hE
  ·rw [if_pos e1] at hE⊢;simp (maxSteps:=9^9) (disch:=omega) [-List.map_replicate,-List.map_set,-List.getD_eq_getElem?_getD,-getElem?_pos,-getElem?_neg,om,GQ,h1,e1,af]
end Go.Proofs.YtfnkchadeaedlaaGreatDoor
namespace Go.Proofs.YtfnkchadeaedlaaGreatDoor
open Go.Am
set_option maxRecDepth 10000
set_option maxHeartbeats 4000000
theorem wD (c:Ct) (hc:c.ok) (s:ae):ar cfg 78 [bM c,.str s] []=some (.bool (aU c s), []):=by
 refine ad Tb Qn ?_;have h1:=tQ c hc;have h2:=nj c.ln c.lz c.aa hc.lz hc.ll s;unfold aU;unfold bM di at*
 generalize au c.aa=L1 at*
 generalize c.av.map cM=L2 at*
 generalize c.an.map bk=L3 at*
 by_cases h:fX c=0
 ·rw [h] at h1;simp (maxSteps:=9^9) (disch:=omega) [-List.map_replicate,-List.map_set,-List.getD_eq_getElem?_getD,-getElem?_pos,-getElem?_neg,om,Mf,h1,h2,h]
 ·have hb:(fX c==0)=false:=by simp [h]
  simp (maxSteps:=9^9) (disch:=omega) [-List.map_replicate,-List.map_set,-List.getD_eq_getElem?_getD,-getElem?_pos,-getElem?_neg,om,Mf,h1,h,hb]
theorem zD (c:Ct) (hc:c.ok) (s:ae):ar cfg 50 [bM c,.str s] []=some (.bool (aU c s), []):=by
 refine ad Tc Qo ?_;have h1:=tQ c hc;have h2:=nj c.ln c.lz c.aa hc.lz hc.ll s;unfold aU;unfold bM di at*
 generalize au c.aa=L1 at*
 generalize c.av.map cM=L2 at*
 generalize c.an.map bk=L3 at*
 by_cases h:fX c=0
 ·rw [h] at h1;simp (maxSteps:=9^9) (disch:=omega) [-List.map_replicate,-List.map_set,-List.getD_eq_getElem?_getD,-getElem?_pos,-getElem?_neg,om,Mg,h1,h2,h]
 ·have hb:(fX c==0)=false:=by simp [h]
  simp (maxSteps:=9^9) (disch:=omega) [-List.map_replicate,-List.map_set,-List.getD_eq_getElem?_getD,-getElem?_pos,-getElem?_neg,om,Mg,h1,h,hb]
theorem GR (c:Ct) (hc:c.ok) (u:Int):ar cfg 84 [bM c,.int .i64 u] []=some (.str (if fX c=0 then et c.an u else []), []):=by
 refine ad Td Qp ?_;have h1:=tQ c hc;by_cases h:fX c=0
 ·have hk:=cE h;have h2:=zs c hc u (fun s hs=>by have:=(hk.an s hs).mark;have:=(hk.an s hs).zA;omega);rw [if_pos h];rw [h] at h1;unfold bM di at*
  generalize au c.aa=L1 at*
  generalize c.av.map cM=L2 at*
  generalize c.an.map bk=L3 at*
  simp (maxSteps:=9^9) (disch:=omega) [-List.map_replicate,-List.map_set,-List.getD_eq_getElem?_getD,-getElem?_pos,-getElem?_neg,om,Mh,h1,h2]
 ·rw [if_neg h];unfold bM di at*
  generalize au c.aa=L1 at*
  generalize c.av.map cM=L2 at*
  generalize c.an.map bk=L3 at*
  simp (maxSteps:=9^9) (disch:=omega) [-List.map_replicate,-List.map_set,-List.getD_eq_getElem?_getD,-getElem?_pos,-getElem?_neg,om,Mh,h1,h]
theorem tX {c:Ct} {s:ae} (h:aU c s=true):fW c.aa s=true:=by unfold aU at h;simp at h;exact h.2
theorem qU {c:Ct} (hc:c.ok) (s:ae):(ak c.aa s).length<1000000∨(ak c.aa s).length≤c.aa.length+1:=by
 right;unfold ak;split
 ·simp only [List.length_cons,List.length_append,List.length_take,List.length_drop];omega
 ·simp
theorem GS (c:Ct) (hc:c.ok) (el:Int) (s:ae):ar cfg 83 [bM c,.int .i64 el,.str s] []=some (.str (if el<1∨64<el∨aU c s=false then [] else fI (ak c.aa s) c.av el (fp Lib.itoa el)), []):=by
 refine ad Te Qq ?_;have h1:=wD c hc s;by_cases h:el<1∨64<el
 ·rw [if_pos (by omega)];unfold bM di at*
  generalize au c.aa=L1 at*
  generalize c.av.map cM=L2 at*
  generalize c.an.map bk=L3 at*
  rcases h with h | h
  ·simp (maxSteps:=9^9) (disch:=omega) [-List.map_replicate,-List.map_set,-List.getD_eq_getElem?_getD,-getElem?_pos,-getElem?_neg,om,GU,h]
  ·simp (maxSteps:=9^9) (disch:=omega) [-List.map_replicate,-List.map_set,-List.getD_eq_getElem?_getD,-getElem?_pos,-getElem?_neg,om,GU,h]
 ·cases hr:aU c s with
  | false=>
   rw [if_pos (.inr (.inr rfl))];rw [hr] at h1;unfold bM di at*
   generalize au c.aa=L1 at*
   generalize c.av.map cM=L2 at*
   generalize c.an.map bk=L3 at*
   simp (maxSteps:=9^9) (disch:=omega) [-List.map_replicate,-List.map_set,-List.getD_eq_getElem?_getD,-getElem?_pos,-getElem?_neg,om,GU,h1,h]
  | true=>
   rw [if_neg (by simp;omega)];rw [hr] at h1;have h2:=qQ c hc s (tX hr);have hk:fX c=0:=by unfold aU at hr;simp at hr;exact hr.1
   have hl:=(qU hc s).resolve_left;have h3:=zq c hc el (by omega) (by omega) none (ak c.aa s) (by have:=(cE hk).l2;rcases qU hc s with h | h <;> omega);unfold bM di at*
   generalize au c.aa=L1 at*
   generalize c.av.map cM=L2 at*
   generalize c.an.map bk=L3 at*
   generalize au (ak c.aa s)=OA at*
   simp (maxSteps:=9^9) (disch:=omega) [-List.map_replicate,-List.map_set,-List.getD_eq_getElem?_getD,-getElem?_pos,-getElem?_neg,om,GU,h1,h2,h3,h]
theorem wE (c:Ct) (hc:c.ok) (u:Int) (s:ae): ∃nl z,ar cfg 39 [bM c,.int .i64 u,.str s] []=some (.ah nl z ((aX c u s).map er), [])∧(aX c u s≠ []→z=3):=by
 have h1:=wD c hc s;have h2:=tw c.sn c.sz c.an hc.sz hc.sl u;unfold aX gQ;cases hx:aP c.an u with
 | none=>
  rw [hx] at h2;have hsU:cI c u=none:=by unfold cI;rw [hx]
  rw [hsU];have he:(if aU c s=true then aq (ak c.aa s) [] else [])= []:=by split <;> rfl
  simp only [he];refine ⟨some true,0,?_,fun h=>absurd rfl h⟩;refine ad Mi GV ?_;unfold bM di at*
  generalize au c.aa=L1 at*
  generalize c.av.map cM=L2 at*
  generalize c.an.map bk=L3 at*
  simp (maxSteps:=9^9) (disch:=omega) [-List.map_replicate,-List.map_set,-List.getD_eq_getElem?_getD,-getElem?_pos,-getElem?_neg,om,Jb,h2,cH]
 | some i=>
  rw [hx] at h2;have hi:=ef hx;have hgo:c.an[i]?=some c.an[i]:=List.getElem?_eq_getElem hi;have hsU:cI c u=some c.an[i]:=by unfold cI;rw [hx];exact hgo
  rw [hsU];have hsz:=hc.sz (ne_of_lt hi);have hg:(c.an.map bk)[i]?=some (.agg [.int .i64 c.an[i].unit,.int .i64 c.an[i].par,.int .i64 c.an[i].level,.str c.an[i].mark,.str c.an[i].title,.ah c.an[i].fn c.an[i].fz (c.an[i].facts.map er)]):=get_map _ _ hi;have hso:=hc.sh _ (List.getElem_mem hi);have hEl:(c.an.map bk).length=c.an.length:=by simp
  have hil:i<1000000:=by have:=hc.sl;omega
  cases hr:aU c s with
  | false=>
   rw [hr] at h1;refine ⟨some true,0,?_,by simp⟩;refine ad Mi GV ?_;unfold bM di at*
   generalize au c.aa=L1 at*
   generalize c.av.map cM=L2 at*
   generalize c.an.map bk=L3 at*
   simp (maxSteps:=9^9) (disch:=omega) [-List.map_replicate,-List.map_set,-List.getD_eq_getElem?_getD,-getElem?_pos,-getElem?_neg,om,Jb,h1,h2,cH]
  | true=>
   rw [hr] at h1;have h3:=qQ c hc s (tX hr);have hk:fX c=0:=by unfold aU at hr;simp at hr;exact hr.1
   have h4:=tS c.an[i].fn c.an[i].fz c.an[i].facts hso.fz hso.fl none (ak c.aa s) (by have:=(cE hk).l2;rcases qU hc s with h | h <;> omega);refine ⟨none,3,?_,fun _=>rfl⟩;refine ad Mi GV ?_;unfold bM di at*
   simp only [if_true];generalize c.an[i]=x at*
   generalize au c.aa=L1 at*
   generalize c.av.map cM=L2 at*
   generalize c.an.map bk=L3 at*
   generalize au (ak c.aa s)=OA at*
   generalize (aq (ak c.aa s) x.facts).map er=CA at*
   rw [hsz] at*
   simp (maxSteps:=9^9) (disch:=omega) [-List.map_replicate,-List.map_set,-List.getD_eq_getElem?_getD,-getElem?_pos,-getElem?_neg,om,Jb,h1,h2,h3,h4,cH,hg,hEl,hi]
end Go.Proofs.YtfnkchadeaedlaaGreatDoor
