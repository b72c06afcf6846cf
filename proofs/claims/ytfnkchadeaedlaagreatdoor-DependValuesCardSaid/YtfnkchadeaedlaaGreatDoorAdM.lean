/-
 Catalogs as the machine's values. Places in slices of strings and numbers; comparisons. Check of package aid, part by part: languages, labels, facts. Labels of a catalog. Facts of a sheet. The sheet of a unit. The sheets of a catalog; Check. Chosen facts, labels, citations, by a preference. Preferences, chosen facts, labels, citations. strings.Builder, whatever boxes lie about it: its variable is box k, its bytes are box j. Catalogs that come in. strconv.ParseUint at base 10 with few bits; strings.IndexByte. Pieces: aid.unit, depend.cited. aid.expand: a text with its pieces written out. aid.section: the section of a sheet. Maps with numbers as keys. aid.numbered: the sheets below a root with their numbers. aid.Number: the number of a unit below a root. aid.Compile: the whole finding aid. aid.speaks, Choose, Name, Cite.
-/
import Derived.Test.YtfnkchadeaedlaaGreatDoorIrs
import Derived.Test.YtfnkchadeaedlaaGreatDoorStrM
import Derived.Test.YtfnkchadeaedlaaGreatDoorCatM
import Derived.Lib.ItoaLen
import Derived.Test.YtfnkchadeaedlaaGreatDoorAmFrame
set_option linter.all false
namespace Go.Proofs.YtfnkchadeaedlaaGreatDoor
open Go.Am
set_option maxRecDepth 10000
set_option maxHeartbeats 4000000
def ao (l:List af):List AV:=l.map .str
def bF (l:Lb):AV:= .agg [.int .i64 l.el,.str l.lang,.str l.text,.int .i64 l.ix]
def cU (f:Fc):AV:= .agg [.int .i64 f.el,.str f.lang,.str f.text]
def aI (s:Sh):AV:= .agg [.int .i64 s.unit,.int .i64 s.par,.int .i64 s.level,.str s.mark,.str s.title,.ah s.fn s.fz (s.facts.map cU)]
def bU (c:Ct):List AV:= [.ah c.ln c.lz (ao c.aa),.ah c.bn c.bz (c.aq.map bF),.ah c.sn c.sz (c.ag.map aI)]
def aO (c:Ct):AV:= .agg (bU c)
structure Sh.ok (s:Sh):Prop where
 fz:s.facts≠ []→s.fz=3
 fl:s.facts.length<1000000
structure Ct.ok (c:Ct):Prop where
 lz:c.aa≠ []→c.lz=1
 bz:c.aq≠ []→c.bz=4
 sz:c.ag≠ []→c.sz=6
 ll:c.aa.length<1000000
 bl:c.aq.length<1000000
 sl:c.ag.length<1000000
 sh: ∀s∈c.ag,s.ok
@[simp] theorem ui: ∀(l:List af),al (ao l)=true
 | []=>rfl
 | x::r=>by simp [ao,al,AV.plain];exact ui r
@[simp] theorem ku: ∀(l:List Lb),al (l.map bF)=true
 | []=>rfl
 | x::r=>by simp [al,bF,AV.plain,ku r]
@[simp] theorem gn: ∀(l:List Fc),al (l.map cU)=true
 | []=>rfl
 | x::r=>by simp [al,cU,AV.plain,gn r]
@[simp] theorem cy: ∀(l:List Sh),al (l.map aI)=true
 | []=>rfl
 | x::r=>by simp [al,aI,AV.plain,cy r]
theorem kv (L:List af) {i:Nat} (h:i<L.length):(ao L)[i]?=some (.str (L.getD i [])):=by simp [ao,h,List.getD_eq_getElem?_getD]
@[simp] theorem iT (L:List af):(ao L).length=L.length:=by simp [ao]
theorem He (a b:List af):ao (a++b)=ao a++ao b:=by simp [ao]
theorem get_map {α:Type} (f:α→AV) (l:List α) {i:Nat} (h:i<l.length):(l.map f)[i]?=some (f l[i]):=by simp [h]
theorem ne_of_lt {α:Type} {l:List α} {i:Nat} (h:i<l.length):l≠ []:=fun h0=>by rw [h0] at h;simp at h
end Go.Proofs.YtfnkchadeaedlaaGreatDoor
namespace Go.Proofs.YtfnkchadeaedlaaGreatDoor
open Go.Am
set_option maxRecDepth 10000
set_option maxHeartbeats 4000000
theorem zU (L:List af) {i:Nat} (h:i<L.length):L.drop i=L.getD i []::L.drop (i+1):=by rw [List.drop_eq_getElem_cons h];simp [List.getD_eq_getElem?_getD,h]
def oM (w:af):List af→Nat→Int
 | [],_=> -1
 | x::r,i=>if w==x then (i:Int) else oM w r (i+1)
theorem kx (nl:Option Bool) (z:Nat) (L:List af) (hz:L≠ []→z=1) (hL:L.length<1000000) (w:af):ar cfg 107 [.ah nl z (ao L),.str w] []=some (.int .i64 (oM w L 0), []):=by
 refine ab Q6 MX ?_;simp (maxSteps:=9^9) (disch:=omega) [-List.map_replicate,-List.map_set,-List.getD_eq_getElem?_getD,-getElem?_pos,-getElem?_neg,om,LO,iT];refine Wp.aA (fun (i:Nat)=>L.length-i) (fun i=> [some (.ah nl z (ao L)),some (.str w),none,none,some (.int .i64 L.length),some (.int .i64 i),none,none]) (fun _=> []) (fun i=>oM w L 0=oM w (L.drop i) i∧i≤L.length) ?_ 0 ⟨by simp,by omega⟩ (by simp) rfl;rintro i ⟨hi,hl⟩;rw [hi];by_cases h1:i<L.length
 ·have hg:=kv L h1;obtain rfl:=hz (ne_of_lt h1);rw [zU L h1] at hi⊢;simp only [oM] at hi⊢;generalize L.getD i []=x at*
  cases he:w==x with
  | true=>simp (maxSteps:=9^9) (disch:=omega) [-List.map_replicate,-List.map_set,-List.getD_eq_getElem?_getD,-getElem?_pos,-getElem?_neg,om,h1,hg,he]
  | false=>rw [he] at hi;simp (maxSteps:=9^9) (disch:=omega) [-List.map_replicate,-List.map_set,-List.getD_eq_getElem?_getD,-getElem?_pos,-getElem?_neg,om,h1,hg,he];exact ⟨i+1,⟨by simp,by omega⟩,by omega,by simp⟩
 ·rw [List.drop_eq_nil_of_le (by omega)];simp (maxSteps:=9^9) (disch:=omega) [-List.map_replicate,-List.map_set,-List.getD_eq_getElem?_getD,-getElem?_pos,-getElem?_neg,om,h1,oM]
theorem zV (w:af): ∀(L:List af) (i:Nat),decide (0≤oM w L i)=bX L w
 | [],i=>rfl
 | x::r,i=>by
  simp only [oM,bX,List.any_cons];have ih:=zV w r (i+1);by_cases he:(w==x)=true
  ·simp only [he,if_true,Bool.true_or];simp
  ·rw [Bool.not_eq_true] at he;simp only [he,Bool.false_or,Bool.false_eq_true,if_false];exact ih
theorem nv (nl:Option Bool) (z:Nat) (L:List af) (hz:L≠ []→z=1) (hL:L.length<1000000) (w:af):ar cfg 57 [.ah nl z (ao L),.str w] []=some (.bool (bX L w), []):=by
 refine ab Vl Q7 ?_;have h1:=kx nl z L hz hL w;rw [←zV w L 0];by_cases h4:0≤oM w L 0
 ·simp (maxSteps:=9^9) (disch:=omega) [-List.map_replicate,-List.map_set,-List.getD_eq_getElem?_getD,-getElem?_pos,-getElem?_neg,om,MY,h1,h4]
 ·simp (maxSteps:=9^9) (disch:=omega) [-List.map_replicate,-List.map_set,-List.getD_eq_getElem?_getD,-getElem?_pos,-getElem?_neg,om,MY,h1,h4]
theorem CK (w:af): ∀(L:List af) (i:Nat),oM w L i=match fO L w with | some k=>((i+k:Nat):Int) | none=> -1
 | [],i=>rfl
 | x::r,i=>by
  unfold oM fO;by_cases h:x=w
  ·subst h;rw [if_pos rfl];simp
  ·have hb:(w==x)=false:=by simpa using fun h'=>h h'.symm
   rw [if_neg h,hb];simp only [Bool.false_eq_true,if_false];rw [CK w r (i+1)];cases fO r w with
   | none=>rfl
   | some k=>simp only [Option.map_some];congr 1;omega
theorem Er (w:af) (L:List af):oM w L 0=rk L w:=by
 rw [CK];unfold rk;cases fO L w with
 | none=>rfl
 | some k=>simp
def cJ (l:List Int):List AV:=l.map (AV.int .i64)
@[simp] theorem wV (l:List Int):(cJ l).length=l.length:=by simp [cJ]
def zW (w:Int):List Int→Nat→Int
 | [],_=> -1
 | x::r,i=>if w=x then (i:Int) else zW w r (i+1)
theorem FB (nl:Option Bool) (z:Nat) (L:List Int) (hz:L≠ []→z=1) (hL:L.length<1000000) (w:Int):ar cfg 156 [.ah nl z (cJ L),.int .i64 w] []=some (.int .i64 (zW w L 0), []):=by
 refine ab Q8 MZ ?_;simp (maxSteps:=9^9) (disch:=omega) [-List.map_replicate,-List.map_set,-List.getD_eq_getElem?_getD,-getElem?_pos,-getElem?_neg,om,LP];refine Wp.aA (fun (i:Nat)=>L.length-i) (fun i=> [some (.ah nl z (cJ L)),some (.int .i64 w),none,none,some (.int .i64 L.length),some (.int .i64 i),none,none]) (fun _=> []) (fun i=>zW w L 0=zW w (L.drop i) i∧i≤L.length) ?_ 0 ⟨by simp,by omega⟩ (by simp) rfl;rintro i ⟨hi,hl⟩;rw [hi];by_cases h1:i<L.length
 ·have hg:(cJ L)[i]?=some (.int .i64 L[i]):=by simp [cJ,h1]
  obtain rfl:=hz (ne_of_lt h1);rw [List.drop_eq_getElem_cons h1] at hi⊢;simp only [zW] at hi⊢;generalize L[i]=x at*
  by_cases he:w=x
  ·simp (maxSteps:=9^9) (disch:=omega) [-List.map_replicate,-List.map_set,-List.getD_eq_getElem?_getD,-getElem?_pos,-getElem?_neg,om,h1,hg,he]
  ·rw [if_neg he] at hi;simp (maxSteps:=9^9) (disch:=omega) [-List.map_replicate,-List.map_set,-List.getD_eq_getElem?_getD,-getElem?_pos,-getElem?_neg,om,h1,hg,he];exact ⟨i+1,⟨by simp,by omega⟩,by omega,by simp⟩
 ·rw [List.drop_eq_nil_of_le (by omega)];simp (maxSteps:=9^9) (disch:=omega) [-List.map_replicate,-List.map_set,-List.getD_eq_getElem?_getD,-getElem?_pos,-getElem?_neg,om,h1,zW]
theorem Hf (w:Int): ∀(L:List Int) (i:Nat),zW w L i=match oN L w with | some k=>((i+k:Nat):Int) | none=> -1
 | [],i=>rfl
 | x::r,i=>by
  unfold zW oN;by_cases h:x=w
  ·subst h;rw [if_pos rfl,if_pos rfl];simp
  ·rw [if_neg h,if_neg (fun h'=>h h'.symm)];rw [Hf w r (i+1)];cases oN r w with
   | none=>rfl
   | some k=>simp only [Option.map_some];congr 1;omega
def iU (a b:Int):Int:=if a<b then -1 else if a=b then 0 else 1
theorem Es (a:Int):ar cfg 146 [.int .i64 a] []=some (.bool false, []):=by refine ab Q9 M4 ?_;simp (maxSteps:=9^9) (disch:=omega) [-List.map_replicate,-List.map_set,-List.getD_eq_getElem?_getD,-getElem?_pos,-getElem?_neg,om,LQ]
theorem tP (a b:Int):ar cfg 88 [.int .i64 a,.int .i64 b] []=some (.int .i64 (iU a b), []):=by
 refine ab Vm Ra ?_;have h1:=Es a;have h2:=Es b;unfold iU;by_cases h3:a<b
 ·simp (maxSteps:=9^9) (disch:=omega) [-List.map_replicate,-List.map_set,-List.getD_eq_getElem?_getD,-getElem?_pos,-getElem?_neg,om,JW,h1,h2,h3]
 ·by_cases h4:a=b
  ·subst h4;simp (maxSteps:=9^9) (disch:=omega) [-List.map_replicate,-List.map_set,-List.getD_eq_getElem?_getD,-getElem?_pos,-getElem?_neg,om,JW,h1]
  ·have h5:b<a:=by omega
   simp (maxSteps:=9^9) (disch:=omega) [-List.map_replicate,-List.map_set,-List.getD_eq_getElem?_getD,-getElem?_pos,-getElem?_neg,om,JW,h1,h2,h3,h4,h5]
theorem Et (a:af):ar cfg 184 [.str a] []=some (.bool false, []):=by refine ab Rb M5 ?_;simp (maxSteps:=9^9) (disch:=omega) [-List.map_replicate,-List.map_set,-List.getD_eq_getElem?_getD,-getElem?_pos,-getElem?_neg,om,LR]
theorem Eu (a b:af):ar cfg 155 [.str a,.str b] []=some (.int .i64 (Lib.compareBytes a b), []):=by
 refine ab Rc M6 ?_;have h1:=Et a;have h2:=Et b;obtain ⟨k1,k2,k3⟩:=ky a b;obtain ⟨l1,l2,l3⟩:=ky b a;have sw:=Ev a b;have k4:=Re a b;rw [sw] at l1;generalize Lib.compareBytes a b=c at*
 rcases k3 with rfl | rfl | rfl
 ·simp (maxSteps:=9^9) (disch:=omega) [-List.map_replicate,-List.map_set,-List.getD_eq_getElem?_getD,-getElem?_pos,-getElem?_neg,om,Ew,h1,h2,k1]
 ·simp (maxSteps:=9^9) (disch:=omega) [-List.map_replicate,-List.map_set,-List.getD_eq_getElem?_getD,-getElem?_pos,-getElem?_neg,om,Ew,h1,h2,k1,l1,k4]
 ·simp (maxSteps:=9^9) (disch:=omega) [-List.map_replicate,-List.map_set,-List.getD_eq_getElem?_getD,-getElem?_pos,-getElem?_neg,om,Ew,h1,h2,k1,l1,k4]
def JM:List Int→Int
 | []=>0
 | a::r=>if a=0 then JM r else a
theorem Rf (nl:Option Bool) (L:List Int) (hL:L.length<1000000):ar cfg 87 [.ah nl 1 (cJ L)] []=some (.int .i64 (JM L), []):=by
 refine ab Vn Rg ?_;simp (maxSteps:=9^9) (disch:=omega) [-List.map_replicate,-List.map_set,-List.getD_eq_getElem?_getD,-getElem?_pos,-getElem?_neg,om,Rh];refine Wp.aA (fun (i:Nat)=>L.length-i) (fun i=> [none,none,some (.int .i64 0),none,some (.ah nl 1 (cJ L)),some (.int .i64 L.length),some (.int .i64 i),none,none]) (fun _=> []) (fun i=>JM L=JM (L.drop i)∧i≤L.length) ?_ 0 ⟨by simp,by omega⟩ (by simp) rfl;rintro i ⟨hi,hl⟩;rw [hi];by_cases h1:i<L.length
 ·have hg:(cJ L)[i]?=some (.int .i64 L[i]):=by simp [cJ,h1]
  rw [List.drop_eq_getElem_cons h1] at hi⊢;simp only [JM] at hi⊢;generalize L[i]=x at*
  by_cases he:x=0
  ·rw [if_pos he] at hi;simp (maxSteps:=9^9) (disch:=omega) [-List.map_replicate,-List.map_set,-List.getD_eq_getElem?_getD,-getElem?_pos,-getElem?_neg,om,h1,hg,he];exact ⟨i+1,⟨by simp,by omega⟩,by omega,by simp⟩
  ·simp (maxSteps:=9^9) (disch:=omega) [-List.map_replicate,-List.map_set,-List.getD_eq_getElem?_getD,-getElem?_pos,-getElem?_neg,om,h1,hg,he]
 ·rw [List.drop_eq_nil_of_le (by omega)];simp (maxSteps:=9^9) (disch:=omega) [-List.map_replicate,-List.map_set,-List.getD_eq_getElem?_getD,-getElem?_pos,-getElem?_neg,om,h1,JM]
theorem CL (nl:Option Bool) (a b:Int):ar cfg 87 [.ah nl 1 [.int .i64 a,.int .i64 b]] []=some (.int .i64 (if a=0 then b else a), []):=by
 have h:=Rf nl [a,b] (by simp)
 have e:JM [a,b]=if a=0 then b else a:=by
  unfold JM JM JM;split
  ·split
   ·rename_i h;rw [h]
   ·rfl
  ·rfl
 rw [e] at h;exact h
theorem wW (a b:Int) (s t:af):(0≤(if iU a b=0 then Lib.compareBytes s t else iU a b))↔kz a s b t=false:=by
 unfold kz iU;rw [decide_eq_false_iff_not];by_cases h1:a<b
 ·simp [h1]
 ·rw [if_neg h1];by_cases h2:a=b
  ·rw [if_pos h2];simp [h1,h2]
  ·simp [h1,h2]
end Go.Proofs.YtfnkchadeaedlaaGreatDoor
namespace Go.Proofs.YtfnkchadeaedlaaGreatDoor
open Go.Am
set_option maxRecDepth 10000
set_option maxHeartbeats 4000000
theorem M7 (s:af):ar cfg 154 [.str s] []=some (.bool (yz s), []):=by
 refine ab Ri M8 ?_;unfold yz;by_cases h:s.length=2
 ·match s,h with
  | [a,b],_=>
   simp only [List.getD_cons_zero,List.getD_cons_succ]
   by_cases h1:97≤a.toNat <;> by_cases h2:a.toNat≤122 <;> by_cases h3:97≤b.toNat <;> by_cases h4:b.toNat≤122 <;>
    first
    | omega
    | simp (maxSteps:=9^9) (disch:=omega) [-List.map_replicate,-List.map_set,-List.getD_eq_getElem?_getD,-getElem?_pos,-getElem?_neg,om,Hg,h1,h2,h3,h4]
 ·have h2:((s.length:Int)==2)=false:=by simp;omega
  simp (maxSteps:=9^9) (disch:=omega) [-List.map_replicate,-List.map_set,-List.getD_eq_getElem?_getD,-getElem?_pos,-getElem?_neg,om,Hg,h,h2]
theorem kA {α:Type} (L:List α) {i:Nat} (h:i<L.length):L.take (i+1)=L.take i++ [L[i]]:=by rw [List.take_succ_eq_append_getElem h]
theorem Hh (c:Ct) (hc:c.ok):ar cfg 104 [aO c] []=some (.int .i64 (j4 c.aa), []):=by
 refine ab Rj M9 ?_;have hl:=hc.ll;have hz:=hc.lz;unfold j4 aO bU;generalize c.aq.map bF=A2 at*
 generalize c.ag.map aI=A3 at*
 generalize c.aa=L at*
 generalize c.lz=z at*
 by_cases h0:L.length<1
 ·simp (maxSteps:=9^9) (disch:=omega) [-List.map_replicate,-List.map_set,-List.getD_eq_getElem?_getD,-getElem?_pos,-getElem?_neg,om,Ey,h0]
 by_cases h8:8<L.length
 ·simp (maxSteps:=9^9) (disch:=omega) [-List.map_replicate,-List.map_set,-List.getD_eq_getElem?_getD,-getElem?_pos,-getElem?_neg,om,Ey,h0,h8]
 obtain rfl:z=1:=hz (by intro h;rw [h] at h0;simp at h0);have hif:(if L.length<1∨8<L.length then 2 else dG [] L)=dG [] L:=if_neg (by omega);rw [hif];simp (maxSteps:=9^9) (disch:=omega) [-List.map_replicate,-List.map_set,-List.getD_eq_getElem?_getD,-getElem?_pos,-getElem?_neg,om,Ey,h0,h8];refine Wp.aA (fun (i:Nat)=>L.length-i) (fun i=> [none,some (.ptr 0 0),none,none,none,none,some (.ah c.ln 1 (ao L)),some (.int .i64 L.length),some (.int .i64 i),none,none,none,none,none]) (fun _=> [.var 26 [.ah c.ln 1 (ao L),.ah c.bn c.bz A2,.ah c.sn c.sz A3]]) (fun i=>dG [] L=dG (L.take i) (L.drop i)∧i≤L.length) ?_ 0 ⟨by simp,by omega⟩ (by simp) rfl;rintro i ⟨hi,hil⟩;rw [hi];by_cases h1:i<L.length
 ·have hg:(ao L)[i]?=some (.str L[i]):=by simp [ao,h1]
  have htk:(ao L).take i=ao (L.take i):=by simp [ao]
  have ht:=M7 L[i];have hh:=nv c.ln 1 (L.take i) (fun _=>rfl) (by simp;omega) L[i];rw [List.drop_eq_getElem_cons h1] at hi⊢;simp only [dG] at hi⊢;rw [←kA L h1] at hi⊢;generalize L[i]=x at*
  cases he:yz x with
  | false=>rw [he] at ht;simp (maxSteps:=9^9) (disch:=omega) [-List.map_replicate,-List.map_set,-List.getD_eq_getElem?_getD,-getElem?_pos,-getElem?_neg,om,h1,hg,ht]
  | true=>
   rw [he] at hi ht;cases hb:bX (L.take i) x with
   | true=>rw [hb] at hh;simp (maxSteps:=9^9) (disch:=omega) [-List.map_replicate,-List.map_set,-List.getD_eq_getElem?_getD,-getElem?_pos,-getElem?_neg,om,h1,hg,ht,htk,hh]
   | false=>rw [hb] at hi hh;simp (maxSteps:=9^9) (disch:=omega) [-List.map_replicate,-List.map_set,-List.getD_eq_getElem?_getD,-getElem?_pos,-getElem?_neg,om,h1,hg,ht,htk,hh];exact ⟨i+1,⟨by simpa using hi,by omega⟩,by omega,by simp⟩
 ·rw [List.drop_eq_nil_of_le (by omega)];simp (maxSteps:=9^9) (disch:=omega) [-List.map_replicate,-List.map_set,-List.getD_eq_getElem?_getD,-getElem?_pos,-getElem?_neg,om,h1,dG]
end Go.Proofs.YtfnkchadeaedlaaGreatDoor
namespace Go.Proofs.YtfnkchadeaedlaaGreatDoor
open Go.Am
set_option maxRecDepth 10000
set_option maxHeartbeats 4000000
theorem JX (c:Ct) (hc:c.ok):ar cfg 105 [aO c] []=some (.int .i64 (oo c.aa c.aq), []):=by
 refine ab Rk Na ?_;have hl:=hc.ll;have hz:=hc.lz;have hbl:=hc.bl;have hbz:=hc.bz;unfold oo aO bU;generalize c.ag.map aI=A3 at*
 generalize c.aa=L at*
 generalize c.lz=z at*
 generalize c.aq=B at*
 generalize c.bz=bz at*
 have hBl:(B.map bF).length=B.length:=by simp
 have hE: ∀k (h:k<B.length),(B.map bF)[k]?=some (.agg [.int .i64 B[k].el,.str B[k].lang,.str B[k].text,.int .i64 B[k].ix]):=fun k h=>get_map _ _ h;have hpl:al (B.map bF)=true:=ku B;generalize B.map bF=E at*
 by_cases h0:256<B.length
 ·simp (maxSteps:=9^9) (disch:=omega) [-List.map_replicate,-List.map_set,-List.getD_eq_getElem?_getD,-getElem?_pos,-getElem?_neg,om,Hi,h0,hBl]
 rw [if_neg h0];simp (maxSteps:=9^9) (disch:=omega) [-List.map_replicate,-List.map_set,-List.getD_eq_getElem?_getD,-getElem?_pos,-getElem?_neg,om,Hi,h0,hBl];refine Wp.aA (fun (i:Nat)=>B.length-i) (fun i=> [none,some (.ptr 0 0),none,none,none,none,none,some (.ah c.bn bz E),some (.int .i64 B.length),some (.int .i64 i),none,none,none,none,none,none,none,none,none,none,none,none,none,none]) (fun _=> [.var 26 [.ah c.ln z (ao L),.ah c.bn bz E,.ah c.sn c.sz A3]]) (fun i=>ey L none B=ey L (if i=0 then none else B[i-1]?) (B.drop i)∧i≤B.length) ?_ 0 ⟨by simp,by omega⟩ (by simp) rfl;rintro i ⟨hi,hil⟩;rw [hi];clear hi;by_cases h1:i<B.length
 ·have hg:=hE i h1;obtain rfl:bz=4:=hbz (ne_of_lt h1);have hh:=nv c.ln z L hz hl B[i].lang;rw [List.drop_eq_getElem_cons h1];simp only [ey];have fin: ∃a,(ey L (some B[i]) (B.drop (i+1))=ey L (if a=0 then none else B[a-1]?) (B.drop a)∧a≤B.length)∧B.length-a<B.length-i∧(i:Int)+1=(a:Int):=⟨i+1,⟨by simp [h1],by omega⟩,by omega,by simp⟩
  -- the one before
  have hp:i≠0→ ∃p,B[i-1]?=some p∧E[i-1]?=some (.agg [.int .i64 p.el,.str p.lang,.str p.text,.int .i64 p.ix]):=fun h=>⟨B[i-1],List.getElem?_eq_getElem (by omega),hE _ (by omega)⟩;clear hE hz hbz;generalize ey L (some B[i]) (B.drop (i+1))=R at*
  generalize B[i]=x at*
  have lab: ∀o,q9 L o x=if x.el<1∨64<x.el∨x.ix<0∨3<x.ix then 2 else if bX L x.lang=false then 7 else if x.text.length<1∨64<x.text.length then 4 else
   match o with
   | none=>0
   | some p=>if kz p.el p.lang x.el x.lang=false then 5 else if p.el=x.el∧p.ix≠x.ix then 10 else 0:=fun o=>rfl
  by_cases hi0:i=0
  ·subst hi0;rw [if_pos rfl];clear hp lab;generalize hlv:q9 L none x=lv at*
   simp (maxSteps:=9^9) (disch:=omega) [-List.map_replicate,-List.map_set,-List.getD_eq_getElem?_getD,-getElem?_pos,-getElem?_neg,om,h1,hg,ae,hh];unfold q9 at hlv;by_cases e1:((x.el<1∨64<x.el)∨x.ix<0)∨3<x.ix
   ·rw [if_pos e1];rw [if_pos (by omega)] at hlv;subst hlv;rfl
   rw [if_neg e1];rw [if_neg (by omega)] at hlv;cases e2:bX L x.lang with
   | false=>rw [if_neg (by simp)];rw [if_pos e2] at hlv;subst hlv;rfl
   | true=>
    rw [if_pos rfl];rw [if_neg (by simp [e2])] at hlv;by_cases e3:(x.text.length:Int)<1∨64<(x.text.length:Int)
    ·rw [if_pos e3];rw [if_pos (by omega)] at hlv;subst hlv;rfl
    rw [if_neg e3];rw [if_neg (by omega)] at hlv;subst hlv;rw [if_pos rfl];exact fin
  ·obtain ⟨p,q1,q2⟩:=hp hi0;rw [if_neg hi0,q1];have c1:=tP p.el x.el;have c2:=Eu p.lang x.lang;have c3:=CL none (iU p.el x.el) (Lib.compareBytes p.lang x.lang);have c4:=wW p.el x.el p.lang x.lang;generalize (if iU p.el x.el=0 then Lib.compareBytes p.lang x.lang else iU p.el x.el)=rr at*
   generalize iU p.el x.el=r1 at*
   generalize Lib.compareBytes p.lang x.lang=r2 at*
   have hi1:(i:Int)≠0:=by omega
   have hi2:((i:Int)-1).toNat=i-1:=by omega
   clear hp lab;generalize hlv:q9 L (some p) x=lv at*
   simp (maxSteps:=9^9) (disch:=omega) [-List.map_replicate,-List.map_set,-List.getD_eq_getElem?_getD,-getElem?_pos,-getElem?_neg,om,h1,hg,ae,hh,hi0,hi1,hi2,q2,c1,c2,c3];unfold q9 at hlv;by_cases e1:((x.el<1∨64<x.el)∨x.ix<0)∨3<x.ix
   ·rw [if_pos e1];rw [if_pos (by omega)] at hlv;subst hlv;rfl
   rw [if_neg e1];rw [if_neg (by omega)] at hlv;cases e2:bX L x.lang with
   | false=>rw [if_neg (by simp)];rw [if_pos e2] at hlv;subst hlv;rfl
   | true=>
    rw [if_pos rfl];rw [if_neg (by simp [e2])] at hlv;by_cases e3:(x.text.length:Int)<1∨64<(x.text.length:Int)
    ·rw [if_pos e3];rw [if_pos (by omega)] at hlv;subst hlv;rfl
    rw [if_neg e3];rw [if_neg (by omega)] at hlv;simp only at hlv;by_cases e4:0≤rr
    ·rw [if_pos e4];rw [if_pos (c4.1 e4)] at hlv;subst hlv;rfl
    rw [if_neg e4];rw [if_neg (fun h=>e4 (c4.2 h))] at hlv;by_cases e5:p.el=x.el∧ ¬ p.ix=x.ix
    ·rw [if_pos e5];rw [if_pos e5] at hlv;subst hlv;rfl
    rw [if_neg e5];rw [if_neg e5] at hlv;subst hlv;rw [if_pos rfl];exact fin
 ·rw [List.drop_eq_nil_of_le (by omega)];simp (maxSteps:=9^9) (disch:=omega) [-List.map_replicate,-List.map_set,-List.getD_eq_getElem?_getD,-getElem?_pos,-getElem?_neg,om,h1,ey]
end Go.Proofs.YtfnkchadeaedlaaGreatDoor
namespace Go.Proofs.YtfnkchadeaedlaaGreatDoor
open Go.Am
set_option maxRecDepth 10000
set_option maxHeartbeats 4000000
theorem JY (c:Ct) (hc:c.ok) (nl:Option Bool) (bz:Nat) (B:List Fc) (hbz:B≠ []→bz=3) (hbl:B.length<1000000):ar cfg 157 [aO c,.ah nl bz (B.map cU)] []=some (.int .i64 (jA c.aa B), []):=by
 refine ab Rm Nb ?_;have hl:=hc.ll;have hz:=hc.lz;unfold jA aO bU;generalize c.ag.map aI=A3 at*
 generalize c.aq.map bF=A2 at*
 generalize c.aa=L at*
 generalize c.lz=z at*
 have hBl:(B.map cU).length=B.length:=by simp
 have hE: ∀k (h:k<B.length),(B.map cU)[k]?=some (.agg [.int .i64 B[k].el,.str B[k].lang,.str B[k].text]):=fun k h=>get_map _ _ h;have hpl:al (B.map cU)=true:=gn B;generalize B.map cU=E at*
 by_cases h0:32<B.length
 ·simp (maxSteps:=9^9) (disch:=omega) [-List.map_replicate,-List.map_set,-List.getD_eq_getElem?_getD,-getElem?_pos,-getElem?_neg,om,Hj,h0,hBl]
 rw [if_neg h0];simp (maxSteps:=9^9) (disch:=omega) [-List.map_replicate,-List.map_set,-List.getD_eq_getElem?_getD,-getElem?_pos,-getElem?_neg,om,Hj,h0,hBl];refine Wp.aA (fun (a:Nat×Option AV×Option AV×Option AV×Option AV)=>B.length-a.1) (fun a=> [none,some (.ah nl bz E),some (.ptr 0 0),none,none,none,none,some (.ah nl bz E),some (.int .i64 B.length),some (.int .i64 a.1),none,none,none,none,none,none,a.2.1,a.2.2.1,a.2.2.2.1,a.2.2.2.2,none]) (fun _=> [.var 26 [.ah c.ln z (ao L),.ah c.bn c.bz A2,.ah c.sn c.sz A3]]) (fun a=>ez L none B=ez L (if a.1=0 then none else B[a.1-1]?) (B.drop a.1)∧a.1≤B.length) ?_ (0,none,none,none,none) ⟨by simp,by simp⟩ (by simp) rfl;rintro ⟨i,o1,o2,o3,o4⟩ ⟨hi,hil⟩;simp only at hi hil⊢;rw [hi];clear hi;by_cases h1:i<B.length
 ·have hg:=hE i h1;obtain rfl:bz=3:=hbz (ne_of_lt h1);have hh:=nv c.ln z L hz hl B[i].lang;rw [List.drop_eq_getElem_cons h1];simp only [ez];have fin: ∃a,(ez L (some B[i]) (B.drop (i+1))=ez L (if a=0 then none else B[a-1]?) (B.drop a)∧a≤B.length)∧B.length-a<B.length-i∧(i:Int)+1=(a:Int):=⟨i+1,⟨by simp [h1],by omega⟩,by omega,by simp⟩;have hp:i≠0→ ∃p,B[i-1]?=some p∧E[i-1]?=some (.agg [.int .i64 p.el,.str p.lang,.str p.text]):=fun h=>⟨B[i-1],List.getElem?_eq_getElem (by omega),hE _ (by omega)⟩;clear hE hz hbz;generalize ez L (some B[i]) (B.drop (i+1))=R at*
  generalize B[i]=x at*
  by_cases hi0:i=0
  ·subst hi0;rw [if_pos rfl];clear hp;generalize hlv:tF L none x=lv at*
   simp (maxSteps:=9^9) (disch:=omega) [-List.map_replicate,-List.map_set,-List.getD_eq_getElem?_getD,-getElem?_pos,-getElem?_neg,om,h1,hg,ae,hh];unfold tF at hlv;by_cases e1:x.el<1∨64<x.el
   ·rw [if_pos e1];rw [if_pos e1] at hlv;subst hlv;rfl
   rw [if_neg e1];rw [if_neg e1] at hlv;cases e2:bX L x.lang with
   | false=>rw [if_neg (by simp)];rw [if_pos e2] at hlv;subst hlv;rfl
   | true=>
    rw [if_pos rfl];rw [if_neg (by simp [e2])] at hlv;by_cases e3:(x.text.length:Int)<1∨4096<(x.text.length:Int)
    ·rw [if_pos e3];rw [if_pos (by omega)] at hlv;subst hlv;rfl
    rw [if_neg e3];rw [if_neg (by omega)] at hlv;subst hlv;rw [if_pos rfl];exact fin
  ·obtain ⟨p,q1,q2⟩:=hp hi0;rw [if_neg hi0,q1];have c1:=tP p.el x.el;have c2:=Eu p.lang x.lang;have c3:=CL none (iU p.el x.el) (Lib.compareBytes p.lang x.lang);have c4:=wW p.el x.el p.lang x.lang;generalize (if iU p.el x.el=0 then Lib.compareBytes p.lang x.lang else iU p.el x.el)=rr at*
   generalize iU p.el x.el=r1 at*
   generalize Lib.compareBytes p.lang x.lang=r2 at*
   have hi1:(0:Int)<(i:Int):=by omega
   have hi2:((i:Int)-1).toNat=i-1:=by omega
   clear hp;generalize hlv:tF L (some p) x=lv at*
   simp (maxSteps:=9^9) (disch:=omega) [-List.map_replicate,-List.map_set,-List.getD_eq_getElem?_getD,-getElem?_pos,-getElem?_neg,om,h1,hg,ae,hh,hi0,hi1,hi2,q2,c1,c2,c3];unfold tF at hlv;by_cases e1:x.el<1∨64<x.el
   ·rw [if_pos e1];rw [if_pos e1] at hlv;subst hlv;rfl
   rw [if_neg e1];rw [if_neg e1] at hlv;cases e2:bX L x.lang with
   | false=>rw [if_neg (by simp)];rw [if_pos e2] at hlv;subst hlv;rfl
   | true=>
    rw [if_pos rfl];rw [if_neg (by simp [e2])] at hlv;by_cases e3:(x.text.length:Int)<1∨4096<(x.text.length:Int)
    ·rw [if_pos e3];rw [if_pos (by omega)] at hlv;subst hlv;rfl
    rw [if_neg e3];rw [if_neg (by omega)] at hlv;simp only at hlv;by_cases e4:0≤rr
    ·rw [if_pos e4];rw [if_pos (c4.1 e4)] at hlv;subst hlv;rfl
    rw [if_neg e4];rw [if_neg (fun h=>e4 (c4.2 h))] at hlv;subst hlv;rw [if_pos rfl];exact fin
 ·rw [List.drop_eq_nil_of_le (by omega)];simp (maxSteps:=9^9) (disch:=omega) [-List.map_replicate,-List.map_set,-List.getD_eq_getElem?_getD,-getElem?_pos,-getElem?_neg,om,h1,ez]
end Go.Proofs.YtfnkchadeaedlaaGreatDoor
namespace Go.Proofs.YtfnkchadeaedlaaGreatDoor
open Go.Am
set_option maxRecDepth 10000
set_option maxHeartbeats 4000000
theorem fP (l:List Sh) {i:Nat} (h:i<l.length):(l.map aI)[i]?=some (.agg [.int .i64 l[i].unit,.int .i64 l[i].par,.int .i64 l[i].level,.str l[i].mark,.str l[i].title,.ah l[i].fn l[i].fz (l[i].facts.map cU)]):=get_map _ _ h
def tG (u:Int):List Sh→Nat→Int
 | [],_=> -1
 | s::r,i=>if s.unit=u then (i:Int) else tG u r (i+1)
theorem Hk (u:Int): ∀(l:List Sh) (i:Nat),tG u l i=match aG l u with | some k=>((i+k:Nat):Int) | none=> -1
 | [],i=>rfl
 | x::r,i=>by
  unfold tG aG;by_cases h:x.unit=u
  ·rw [if_pos h,if_pos h];simp
  ·rw [if_neg h,if_neg h];rw [Hk u r (i+1)];cases aG r u with
   | none=>rfl
   | some k=>simp only [Option.map_some];congr 1;omega
theorem zX (u:Int) (l:List Sh):tG u l 0=az (aG l u):=by
 rw [Hk];cases aG l u with
 | none=>rfl
 | some k=>simp [az]
structure wX (f:FuncId):Prop where
 ex:exts f=none
 ob:re f=none
 ov:FC f=none
 mu:iV f=false
theorem zY (nl:Option Bool) (z:Nat) (l:List Sh) (hz:l≠ []→z=6) (hl:l.length<1000000) (f:FuncId) (hns:wX f) (j:Nat) (bs:List ad) (u:Int)
  (hf: ∀s:Sh,ar cfg f [aI s,.ptr j 0] bs=some (.bool (s.unit==u),bs)) (hj:j<bs.length) (hsh:shut bs.length bs=true):
  ar cfg 108 [.ah nl z (l.map aI),.fn f [] [.ptr j 0]] bs=some (.int .i64 (az (aG l u)),bs):=by
 refine ab Rn Nc ?_;have hLl:(l.map aI).length=l.length:=by simp
 have hE: ∀i (h:i<l.length),(l.map aI)[i]?=some (aI l[i]):=fun i h=>get_map _ _ h;generalize l.map aI=E at*
 obtain ⟨n1,n2,n3,n4⟩:=hns;simp only [exts,re,FC,iV] at n1 n2 n3 n4;have hm:=shut_map (Nat.le_refl _) hsh;simp (maxSteps:=9^9) (disch:=omega) [-List.map_replicate,-List.map_set,-List.getD_eq_getElem?_getD,-getElem?_pos,-getElem?_neg,om,LS,hLl];rw [←zX];refine Wp.aA (fun (i:Nat)=>l.length-i) (fun i=> [some (.ah nl z E),some (.fn f [] [.ptr j 0]),none,none,some (.int .i64 l.length),some (.int .i64 i),none,none]) (fun _=>bs) (fun i=>tG u l 0=tG u (l.drop i) i∧i≤l.length) ?_ 0 ⟨by simp,by omega⟩ (by simp) rfl;rintro i ⟨hi,hil⟩;rw [hi];clear hi;by_cases h1:i<l.length
 ·have hg:=hE i h1;have hs:=hf l[i];obtain rfl:=hz (ne_of_lt h1);rw [List.drop_eq_getElem_cons h1];simp only [tG];generalize l[i]=x at*
  unfold aI at hg hs;simp (maxSteps:=9^9) (disch:=omega) [-List.map_replicate,-List.map_set,-List.getD_eq_getElem?_getD,-getElem?_pos,-getElem?_neg,om,h1,hg,hs,n1,n2,n3,n4];exact fun _=>⟨i+1,⟨rfl,by omega⟩,by omega,by simp⟩
 ·rw [List.drop_eq_nil_of_le (by omega)];simp (maxSteps:=9^9) (disch:=omega) [-List.map_replicate,-List.map_set,-List.getD_eq_getElem?_getD,-getElem?_pos,-getElem?_neg,om,h1,tG]
theorem Hl (s:Sh) (u:Int):ar cfg 109 [aI s,.ptr 0 0] [.var 3 [.int .i64 u]]=some (.bool (s.unit==u), [.var 3 [.int .i64 u]]):=by refine ab Ro Nf ?_;unfold aI;simp (maxSteps:=9^9) (disch:=omega) [-List.map_replicate,-List.map_set,-List.getD_eq_getElem?_getD,-getElem?_pos,-getElem?_neg,om,LU]
theorem tQ (nl:Option Bool) (z:Nat) (l:List Sh) (hz:l≠ []→z=6) (hl:l.length<1000000) (u:Int):ar cfg 58 [.ah nl z (l.map aI),.int .i64 u] []=some (.int .i64 (az (aG l u)), []):=by
 refine ab Vo Rp ?_;have h:=zY nl z l hz hl 109 ⟨rfl,rfl,rfl,rfl⟩ 0 [.var 3 [.int .i64 u]] u (fun s=>Hl s u) (by simp) rfl;have hpl:=cy l;generalize l.map aI=E at*
 simp (maxSteps:=9^9) (disch:=omega) [-List.map_replicate,-List.map_set,-List.getD_eq_getElem?_getD,-getElem?_pos,-getElem?_neg,om,Rq,h,hpl]
end Go.Proofs.YtfnkchadeaedlaaGreatDoor
namespace Go.Proofs.YtfnkchadeaedlaaGreatDoor
open Go.Am
set_option maxRecDepth 10000
set_option maxHeartbeats 4000000
theorem CM (P:List Int) (k:Nat):(cJ P).take k=cJ (P.take k):=by simp [cJ]
theorem rf (P Q:List Int):cJ P++cJ Q=cJ (P++Q):=by simp [cJ]
theorem Ez: ∀{l:List Int} {u:Int} {k:Nat},oN l u=some k→k<l.length
 | x::r,u,k,h=>by
  unfold oN at h;split at h
  ·cases h;simp
  ·cases hr:oN r u with
   | none=>rw [hr] at h;cases h
   | some j=>rw [hr] at h;simp only [Option.map_some,Option.some.injEq] at h;have:=Ez hr;simp only [List.length_cons];omega
theorem wY (o:Option Nat):(0≤az o)↔o.isSome=true:=by
 cases o with
 | none=>simp [az]
 | some n=>simp [az]
theorem iW (pre:List Sh) (x:Sh):((((x.unit<1∨1073741824<x.unit)∨x.level<1)∨4<x.level)→jv pre x=2)∧
  (¬ (((x.unit<1∨1073741824<x.unit)∨x.level<1)∨4<x.level)→((64<(x.mark.length:Int)∨(x.title.length:Int)<1)∨64<(x.title.length:Int))→jv pre x=4)∧
  (¬ (((x.unit<1∨1073741824<x.unit)∨x.level<1)∨4<x.level)→ ¬ ((64<(x.mark.length:Int)∨(x.title.length:Int)<1)∨64<(x.title.length:Int))→0≤az (aG pre x.unit)→jv pre x=6)∧
  (¬ (((x.unit<1∨1073741824<x.unit)∨x.level<1)∨4<x.level)→ ¬ ((64<(x.mark.length:Int)∨(x.title.length:Int)<1)∨64<(x.title.length:Int))→ ¬ 0≤az (aG pre x.unit)→jv pre x=0):=by
 unfold jv;refine ⟨fun h=> ?_,fun h1 h2=> ?_,fun h1 h2 h3=> ?_,fun h1 h2 h3=> ?_⟩
 ·rw [if_pos (by omega)]
 ·rw [if_neg (by omega),if_pos (by omega)]
 ·rw [if_neg (by omega),if_neg (by omega),if_pos ((wY _).1 h3)]
 ·rw [if_neg (by omega),if_neg (by omega),if_neg (fun h=>h3 ((wY _).2 h))]
theorem Ng (c:Ct) (hc:c.ok):ar cfg 106 [aO c] []=some (.int .i64 (uj c.aa c.ag), []):=by
 refine ab Rr Nh ?_;have hF:=fun (B:List Fc) nl z=>JY c hc nl z B;have hz:=hc.sz;have hl:=hc.sl;have hsh:=hc.sh;unfold uj;unfold aO bU at*
 generalize ao c.aa=A1 at*
 generalize c.aq.map bF=A2 at*
 have hBl:(c.ag.map aI).length=c.ag.length:=by simp
 have hE: ∀k (h:k<c.ag.length),(c.ag.map aI)[k]?=some (.agg [.int .i64 c.ag[k].unit,.int .i64 c.ag[k].par,.int .i64 c.ag[k].level,.str c.ag[k].mark,.str c.ag[k].title,.ah c.ag[k].fn c.ag[k].fz (c.ag[k].facts.map cU)]):=fun k h=>fP _ h
 have hfd: ∀k (h:k<c.ag.length),ar cfg 58 [.ah c.sn 6 ((c.ag.map aI).take k),.int .i64 c.ag[k].unit] []=some (.int .i64 (az (aG (c.ag.take k) c.ag[k].unit)), []):=fun k h=>by
  have:=tQ c.sn 6 (c.ag.take k) (fun _=>rfl) (by simp;omega) c.ag[k].unit
  rwa [List.map_take] at this
 have hpl:al (c.ag.map aI)=true:=cy _;generalize c.ag.map aI=E at*
 generalize c.ag=L at*
 by_cases h0:256<L.length
 ·simp (maxSteps:=9^9) (disch:=omega) [-List.map_replicate,-List.map_set,-List.getD_eq_getElem?_getD,-getElem?_pos,-getElem?_neg,om,Hm,h0,hBl]
 rw [if_neg h0];simp (maxSteps:=9^9) (disch:=omega) [-List.map_replicate,-List.map_set,-List.getD_eq_getElem?_getD,-getElem?_pos,-getElem?_neg,om,Hm,h0,hBl];refine Wp.aA (fun (a:Nat×Nat×List Int×List ad)=>L.length-a.1) (fun a=> [none,some (.ptr 0 0),none,some (.ay (1+a.2.1) a.2.2.1.length),none,none,none,none,none,some (.ah c.sn c.sz E),some (.int .i64 L.length),some (.int .i64 a.1),none,none,none,none,none,none,none,none,none,none,none,none,none,none,none,none]) (fun a=> .var 26 [.ah c.ln c.lz A1,.ah c.bn c.bz A2,.ah c.sn c.sz E]::a.2.2.2) (fun a=>me c.aa [] [] L=me c.aa (L.take a.1) a.2.2.1 (L.drop a.1)∧a.1≤L.length∧a.2.1<a.2.2.2.length∧ad.at a.2.2.2 a.2.1= .sl ⟨false,some 3,none⟩ 1 (cJ a.2.2.1)∧a.2.2.1.length≤a.1∧ ∀n,shut n a.2.2.2=true) ?_ (0,0, [], [.sl ⟨false,some 3,none⟩ 1 []]) ⟨by simp,by simp,by simp,rfl,by simp,fun _=>rfl⟩ (by simp) rfl;rintro ⟨i,j,P,J⟩ ⟨hi,hil,hj,hjb,hPl,hJ⟩;simp only at hi hil hj hjb hPl hJ⊢;rw [hi];clear hi;by_cases h1:i<L.length
 ·have hg:=hE i h1;obtain hz6:c.sz=6:=hz (ne_of_lt h1);rw [hz6] at hF⊢;have hh:=hfd i h1;have hso:=hsh L[i] (List.getElem_mem h1);have hFF:=hF L[i].facts L[i].fn L[i].fz hso.fz hso.fl;rw [List.drop_eq_getElem_cons h1];simp only [me];have htk:L.take (i+1)=L.take i++ [L[i]]:=kA L h1;clear hE hfd hF hz hsh hso;generalize L[i]=x at*
  generalize x.facts.map cU=FA at*
  generalize jA c.aa x.facts=fe at*
  have hix:=FB none 1 P (fun _=>rfl) (by omega) x.par;rw [Hf] at hix;obtain ⟨ct,hctd⟩: ∃ct,ct=ad.var 26 [.ah c.ln c.lz A1,.ah c.bn c.bz A2,.ah c.sn 6 E]:=⟨_,rfl⟩;obtain ⟨bs,hbs⟩: ∃bs,bs=ct::J:=⟨_,rfl⟩;rw [←hctd,←hbs];have hbl:bs.length=J.length+1:=by rw [hbs];rfl
  have hcu: ∀n,shut n [ct]=true:=fun n=>by rw [hctd];rfl
  have e0: ∀l,ad.at (bs++l) 0= .var 26 [.ah c.ln c.lz A1,.ah c.bn c.bz A2,.ah c.sn 6 E]:=fun l=>by rw [hbs,hctd];rfl
  have e0':=e0 [];rw [List.append_nil] at e0'
  have e1: ∀l,ad.at (bs++l) (1+j)= .sl ⟨false,some 3,none⟩ 1 (cJ P):=fun l=>by
   rw [hbs,Nat.add_comm];show ad.at (J++l) j=_;rw [ff _ _ hj,hjb]
  have e1':=e1 [];rw [List.append_nil] at e1'
  have mk: ∀Y:ad,(∀n,shut n [Y]=true)→ ∃C,C=ct::J.set j Y∧(∀l,(bs++l).set (1+j) Y=C++l)∧C.length=bs.length∧(∀l,ad.at (C++l) 0= .var 26 [.ah c.ln c.lz A1,.ah c.bn c.bz A2,.ah c.sn 6 E])∧(∀l m,(C++l)[bs.length+m]?=l[m]?)∧(∀l m X,(C++l).set (bs.length+m) X=C++l.set m X)∧C.map (bG bs.length)=C∧(∀l,(C++l).take bs.length=C)∧(∀l m,ad.at (C++l) (bs.length+m)=ad.at l m):=fun Y hY=>by
   have hCl:(ct::J.set j Y).length=bs.length:=by rw [hbl];simp
   refine ⟨ct::J.set j Y,rfl,fun l=> ?_,hCl,fun l=>by rw [hctd];rfl,fun l m=>by rw [←hCl];exact dH _ _ _,fun l m X=>by rw [←hCl];exact cK _ _ _ _,?_,fun l=>List.take_left' hCl,fun l m=>by rw [←hCl,ej]⟩
   ·rw [hbs,Nat.add_comm];show ct::((J++l).set j Y)=_;rw [List.set_append_left _ _ hj];rfl
   ·refine shut_map (Nat.le_refl _) ?_;have h2:=hcu bs.length;have h3:shut bs.length (J.set j Y)=true:=(show oe (J.set j Y) from oe.set (fun n=>hJ n) j (fun n=>hY n)) _;show shut bs.length ([ct]++J.set j Y)=true;rw [eo,h2,h3];rfl
  have a1:bs.length+1-bs.length=1:=by omega
  have a2:bs.length+1+1-bs.length=2:=by omega
  have a3:bs.length+1+1+1-bs.length=3:=by omega
  have hil2:(cJ P).length=P.length:=wV P;have hitk: ∀k,(cJ P).take k=cJ (P.take k):=CM P;generalize hV:(if jv (L.take i) x=0 then _ else jv (L.take i) x)=V;have b0: ∀l:List ad,(bs++l)[bs.length]?=l[0]?:=fun l=>by have:=dH bs l 0;simpa using this
  have b1: ∀l:List ad,(bs++l)[bs.length+1]?=l[1]?:=fun l=>dH bs l 1;have b2: ∀l:List ad,(bs++l)[bs.length+1+1]?=l[2]?:=fun l=>dH bs l 2;by_cases hpar:x.par=0
  ·have hpl0:fQ P x=some 0:=by unfold fQ;rw [if_pos hpar]
   rw [hpl0] at hV;by_cases hP0:P= []
   ·subst hP0;obtain ⟨C,hC,s1,s2,s3,s4,s5,s6,s7,s8⟩:=mk (.sl ⟨false,some 3,none⟩ 1 (cJ []++ [.int .i64 x.unit])) (fun n=>rfl);have s80: ∀l,ad.at (C++l) bs.length=ad.at l 0:=fun l=>by simpa using s8 l 0
    have s40: ∀l,(C++l)[bs.length]?=l[0]?:=fun l=>by simpa using s4 l 0
    have s50: ∀l X,(C++l).set bs.length X=C++l.set 0 X:=fun l X=>by simpa using s5 l 0 X
    clear hbs hctd mk hcu;simp (maxSteps:=9^9) (disch:=omega) [-List.map_replicate,-List.map_set,-List.getD_eq_getElem?_getD,-getElem?_pos,-getElem?_neg,om,h1,hg,ae,hh,hFF,hpar,hix,  e0,e0',e1,e1',s1,s2,s3,s4,s5,s6,s7,s8,s80,s40,s50,b2,b1,b0,a1,a2,a3,hil2,hitk];simp only at hV;obtain ⟨k1,k2,k3,k4⟩:=iW (L.take i) x;by_cases f1:((x.unit<1∨1073741824<x.unit)∨x.level<1)∨4<x.level
    ·rw [if_pos f1];rw [k1 f1,if_neg (by decide)] at hV;exact hV
    rw [if_neg f1];by_cases f2:(64<(x.mark.length:Int)∨(x.title.length:Int)<1)∨64<(x.title.length:Int)
    ·rw [if_pos f2];rw [k2 f1 f2,if_neg (by decide)] at hV;exact hV
    rw [if_neg f2];by_cases f3:0≤az (aG (L.take i) x.unit)
    ·rw [if_pos f3];rw [k3 f1 f2 f3,if_neg (by decide)] at hV;exact hV
    rw [if_neg f3];rw [k4 f1 f2 f3,if_pos rfl] at hV;rw [if_neg (by decide)] at hV;by_cases f5:fe=0
    ·rw [if_pos f5];rw [if_pos f5] at hV;exact ⟨i+1,j, [x.unit],J.set j (.sl ⟨false,some 3,none⟩ 1 [.int .i64 x.unit]),⟨by rw [htk];exact hV.symm,by omega,by simpa using hj,by rw [bq _ _ _ hj,if_pos rfl];rfl,by simp,fun n=>oe.set (fun n=>hJ n) j (fun n=>rfl) n⟩,by omega,⟨⟨rfl,rfl⟩,by simp⟩,hC⟩
    ·rw [if_neg f5];rw [if_neg f5] at hV;exact hV
   ·have hPl0: ¬ P.length=0:=fun h=>hP0 (List.length_eq_zero_iff.1 h);have hPl1: ¬ 0=P.length:=fun h=>hPl0 h.symm;obtain ⟨C,hC,s1,s2,s3,s4,s5,s6,s7,s8⟩:=mk (.gone) (fun n=>rfl);have s80: ∀l,ad.at (C++l) bs.length=ad.at l 0:=fun l=>by simpa using s8 l 0
    have s40: ∀l,(C++l)[bs.length]?=l[0]?:=fun l=>by simpa using s4 l 0
    have s50: ∀l X,(C++l).set bs.length X=C++l.set 0 X:=fun l X=>by simpa using s5 l 0 X
    clear hbs hctd mk hcu;simp (maxSteps:=9^9) (disch:=omega) [-List.map_replicate,-List.map_set,-List.getD_eq_getElem?_getD,-getElem?_pos,-getElem?_neg,om,h1,hg,ae,hh,hFF,hpar,hix,hPl0,hPl1,e0,e0',e1,e1',s1,s2,s3,s4,s5,s6,s7,s8,s80,s40,s50,b2,b1,b0,a1,a2,a3,hil2,hitk];simp only at hV;obtain ⟨k1,k2,k3,k4⟩:=iW (L.take i) x;by_cases f1:((x.unit<1∨1073741824<x.unit)∨x.level<1)∨4<x.level
    ·rw [if_pos f1];rw [k1 f1,if_neg (by decide)] at hV;exact hV
    rw [if_neg f1];by_cases f2:(64<(x.mark.length:Int)∨(x.title.length:Int)<1)∨64<(x.title.length:Int)
    ·rw [if_pos f2];rw [k2 f1 f2,if_neg (by decide)] at hV;exact hV
    rw [if_neg f2];by_cases f3:0≤az (aG (L.take i) x.unit)
    ·rw [if_pos f3];rw [k3 f1 f2 f3,if_neg (by decide)] at hV;exact hV
    rw [if_neg f3];rw [k4 f1 f2 f3,if_pos rfl] at hV;rw [if_neg (by decide)] at hV;by_cases f5:fe=0
    ·rw [if_pos f5];rw [if_pos f5] at hV;have hb: ∀l,C++l=ct::(J.set j .gone++l):=fun l=>by rw [hC];rfl
     refine ⟨i+1,J.length+2, []++ [x.unit],_,⟨by rw [htk];exact hV.symm,by omega,?_,?_,?_,?_⟩,by omega,⟨⟨by omega,by simp⟩,by simp⟩,hb _⟩
     ·simp
     ·rw [show J.length+2=(J.set j ad.gone).length+2 by simp,ej];rw [←rf];rfl
     ·simp
     ·exact fun n=>oe.app (oe.set (fun n=>hJ n) j (fun n=>rfl)) (fun n=>rfl) n
    ·rw [if_neg f5];rw [if_neg f5] at hV;exact hV
  ·cases hI:oN P x.par with
   | none=>
    have hpl0:fQ P x=none:=by unfold fQ;rw [if_neg hpar,hI];rfl
    rw [hpl0] at hV;rw [hI] at hix;simp only at hix;clear mk;simp (maxSteps:=9^9) (disch:=omega) [-List.map_replicate,-List.map_set,-List.getD_eq_getElem?_getD,-getElem?_pos,-getElem?_neg,om,h1,hg,ae,hh,hFF,hpar,hix,e0,e0',e1,e1',b2,b1,b0,a1,a2,a3,hil2,hitk];simp only at hV;obtain ⟨k1,k2,k3,k4⟩:=iW (L.take i) x;by_cases f1:((x.unit<1∨1073741824<x.unit)∨x.level<1)∨4<x.level
    ·rw [if_pos f1];rw [k1 f1,if_neg (by decide)] at hV;exact hV
    rw [if_neg f1];by_cases f2:(64<(x.mark.length:Int)∨(x.title.length:Int)<1)∨64<(x.title.length:Int)
    ·rw [if_pos f2];rw [k2 f1 f2,if_neg (by decide)] at hV;exact hV
    rw [if_neg f2];by_cases f3:0≤az (aG (L.take i) x.unit)
    ·rw [if_pos f3];rw [k3 f1 f2 f3,if_neg (by decide)] at hV;exact hV
    rw [if_neg f3];rw [k4 f1 f2 f3,if_pos rfl] at hV;exact hV
   | some k=>
    have hpl0:fQ P x=some (k+1):=by unfold fQ;rw [if_neg hpar,hI];rfl
    rw [hpl0] at hV;rw [hI] at hix;simp only [Nat.zero_add] at hix;have hkl:=Ez hI;have hk1:((k:Int)+1).toNat=k+1:=by omega
    have hk2: ¬ ((k:Int)+1=0):=by omega
    have hk3:((k:Int)+1)≤(P.length:Int):=by omega
    by_cases hkP:k+1=P.length
    ·have htkP:P.take (k+1)=P:=List.take_of_length_le (by omega);have hkP2:(k:Int)+1=(P.length:Int):=by omega
     obtain ⟨C,hC,s1,s2,s3,s4,s5,s6,s7,s8⟩:=mk (.sl ⟨false,some 3,none⟩ 1 (cJ P++ [.int .i64 x.unit])) (fun n=>rfl);have s80: ∀l,ad.at (C++l) bs.length=ad.at l 0:=fun l=>by simpa using s8 l 0
     have s40: ∀l,(C++l)[bs.length]?=l[0]?:=fun l=>by simpa using s4 l 0
     have s50: ∀l X,(C++l).set bs.length X=C++l.set 0 X:=fun l X=>by simpa using s5 l 0 X
     clear hbs hctd mk hcu;simp (maxSteps:=9^9) (disch:=omega) [-List.map_replicate,-List.map_set,-List.getD_eq_getElem?_getD,-getElem?_pos,-getElem?_neg,om,h1,hg,ae,hh,hFF,hpar,hix,hk1,hk2,hk3,hkP,e0,e0',e1,e1',s1,s2,s3,s4,s5,s6,s7,s8,s80,s40,s50,b2,b1,b0,a1,a2,a3,hil2,hitk];simp only at hV;obtain ⟨k1,k2,k3,k4⟩:=iW (L.take i) x;by_cases f1:((x.unit<1∨1073741824<x.unit)∨x.level<1)∨4<x.level
     ·rw [if_pos f1];rw [k1 f1,if_neg (by decide)] at hV;exact hV
     rw [if_neg f1];by_cases f2:(64<(x.mark.length:Int)∨(x.title.length:Int)<1)∨64<(x.title.length:Int)
     ·rw [if_pos f2];rw [k2 f1 f2,if_neg (by decide)] at hV;exact hV
     rw [if_neg f2];by_cases f3:0≤az (aG (L.take i) x.unit)
     ·rw [if_pos f3];rw [k3 f1 f2 f3,if_neg (by decide)] at hV;exact hV
     rw [if_neg f3];rw [k4 f1 f2 f3,if_pos rfl] at hV;by_cases f4:12≤(k:Int)+1
     ·rw [if_pos f4];rw [if_pos (by omega)] at hV;exact hV
     rw [if_neg f4];rw [if_neg (by omega)] at hV;by_cases f5:fe=0
     ·rw [if_pos f5];rw [if_pos f5] at hV;rw [htkP] at hV;exact ⟨i+1,j,P++ [x.unit],J.set j (.sl ⟨false,some 3,none⟩ 1 (cJ P++ [.int .i64 x.unit])),⟨by rw [htk];exact hV.symm,by omega,by simpa using hj,by rw [bq _ _ _ hj,if_pos rfl,←rf];rfl,by simp;omega,fun n=>oe.set (fun n=>hJ n) j (fun n=>rfl) n⟩,by omega,⟨⟨rfl,by simp⟩,by simp⟩,hC⟩
     ·rw [if_neg f5];rw [if_neg f5] at hV;exact hV
    ·have hkP2: ¬ (k+1=P.length):=hkP;obtain ⟨C,hC,s1,s2,s3,s4,s5,s6,s7,s8⟩:=mk (.gone) (fun n=>rfl);have s80: ∀l,ad.at (C++l) bs.length=ad.at l 0:=fun l=>by simpa using s8 l 0
     have s40: ∀l,(C++l)[bs.length]?=l[0]?:=fun l=>by simpa using s4 l 0
     have s50: ∀l X,(C++l).set bs.length X=C++l.set 0 X:=fun l X=>by simpa using s5 l 0 X
     clear hbs hctd mk hcu;simp (maxSteps:=9^9) (disch:=omega) [-List.map_replicate,-List.map_set,-List.getD_eq_getElem?_getD,-getElem?_pos,-getElem?_neg,om,h1,hg,ae,hh,hFF,hpar,hix,hk1,hk2,hk3,hkP,e0,e0',e1,e1',s1,s2,s3,s4,s5,s6,s7,s8,s80,s40,s50,b2,b1,b0,a1,a2,a3,hil2,hitk];simp only at hV;obtain ⟨k1,k2,k3,k4⟩:=iW (L.take i) x;by_cases f1:((x.unit<1∨1073741824<x.unit)∨x.level<1)∨4<x.level
     ·rw [if_pos f1];rw [k1 f1,if_neg (by decide)] at hV;exact hV
     rw [if_neg f1];by_cases f2:(64<(x.mark.length:Int)∨(x.title.length:Int)<1)∨64<(x.title.length:Int)
     ·rw [if_pos f2];rw [k2 f1 f2,if_neg (by decide)] at hV;exact hV
     rw [if_neg f2];by_cases f3:0≤az (aG (L.take i) x.unit)
     ·rw [if_pos f3];rw [k3 f1 f2 f3,if_neg (by decide)] at hV;exact hV
     rw [if_neg f3];rw [k4 f1 f2 f3,if_pos rfl] at hV;by_cases f4:12≤(k:Int)+1
     ·rw [if_pos f4];rw [if_pos (by omega)] at hV;exact hV
     rw [if_neg f4];rw [if_neg (by omega)] at hV;by_cases f5:fe=0
     ·rw [if_pos f5];rw [if_pos f5] at hV;have hb: ∀l,C++l=ct::(J.set j .gone++l):=fun l=>by rw [hC];rfl
      refine ⟨i+1,J.length+2,P.take (k+1)++ [x.unit],_,⟨by rw [htk];exact hV.symm,by omega,?_,?_,?_,?_⟩,by omega,⟨⟨by omega,by simp;omega⟩,by simp⟩,hb _⟩
      ·simp
      ·rw [show J.length+2=(J.set j ad.gone).length+2 by simp,ej];rw [←rf];rfl
      ·simp;omega
      ·exact fun n=>oe.app (oe.set (fun n=>hJ n) j (fun n=>rfl)) (fun n=>rfl) n
     ·rw [if_neg f5];rw [if_neg f5] at hV;exact hV
 ·rw [List.drop_eq_nil_of_le (by omega)];simp (maxSteps:=9^9) (disch:=omega) [-List.map_replicate,-List.map_set,-List.getD_eq_getElem?_getD,-getElem?_pos,-getElem?_neg,om,h1,me]
theorem uk (c:Ct) (hc:c.ok):ar cfg 56 [aO c] []=some (.int .i64 (dh c), []):=by
 refine ab Vp Rs ?_;have h1:=Hh c hc;have h2:=JX c hc;have h3:=Ng c hc;unfold dh;unfold aO bU at*
 generalize j4 c.aa=e1 at*
 generalize oo c.aa c.aq=e2 at*
 generalize uj c.aa c.ag=e3 at*
 by_cases k1:e1=0
 ·by_cases k2:e2=0
  ·simp (maxSteps:=9^9) (disch:=omega) [-List.map_replicate,-List.map_set,-List.getD_eq_getElem?_getD,-getElem?_pos,-getElem?_neg,om,JZ,h1,h2,h3,k1,k2]
  ·simp (maxSteps:=9^9) (disch:=omega) [-List.map_replicate,-List.map_set,-List.getD_eq_getElem?_getD,-getElem?_pos,-getElem?_neg,om,JZ,h1,h2,k1,k2]
 ·simp (maxSteps:=9^9) (disch:=omega) [-List.map_replicate,-List.map_set,-List.getD_eq_getElem?_getD,-getElem?_pos,-getElem?_neg,om,JZ,h1,k1]
end Go.Proofs.YtfnkchadeaedlaaGreatDoor
namespace Go.Proofs.YtfnkchadeaedlaaGreatDoor
open Go.Am
set_option maxRecDepth 10000
set_option maxHeartbeats 4000000
theorem um (order:List af) (cur f:Fc) (r:List Fc):fB order cur (f::r)=if cur.el≠f.el then cur::fB order f r else if rk order f.lang<rk order cur.lang then fB order f r else fB order cur r:=by rw [fB]
theorem uo (nl:Option Bool) (z:Nat) (l:List Fc) (hz:l≠ []→z=3) (hl:l.length<1000000) (on:Option Bool) (order:List af) (ho:order.length<1000000):
  ar cfg 79 [.ah nl z (l.map cU),.ah on 1 (ao order)] []=some (.ah none 3 ((aC order l).map cU), []):=by
 refine ab Vq Rt ?_;have hLl:(l.map cU).length=l.length:=by simp
 have hE: ∀k (h:k<l.length),(l.map cU)[k]?=some (.agg [.int .i64 l[k].el,.str l[k].lang,.str l[k].text]):=fun k h=>get_map _ _ h;have hI:=fun w=>kx on 1 order (fun _=>rfl) ho w;simp only [Er] at hI;generalize l.map cU=E at*
 simp (maxSteps:=9^9) (disch:=omega) [-List.map_replicate,-List.map_set,-List.getD_eq_getElem?_getD,-getElem?_pos,-getElem?_neg,om,Ru,hLl];refine Wp.aA (fun (a:Nat×List Fc)=>l.length-a.1) (fun a=> [none,some (.ah on 1 (ao order)),none,some (.ay 0 a.2.length),none,none,some (.ah nl z E),some (.int .i64 l.length),some (.int .i64 a.1),none,none,none,none,none,none,none,none]) (fun a=> [.sl ⟨false,some 79,none⟩ 3 (a.2.map cU)]) (fun a=>a.1≤l.length∧a.2.length≤a.1∧((a.1=0∧a.2= [])∨ ∃done cur,a.2=done++ [cur]∧aC order l=done++fB order cur (l.drop a.1))) ?_ (0, []) ⟨by simp,by simp,.inl ⟨rfl,rfl⟩⟩ (by simp) rfl;rintro ⟨i,out⟩ ⟨hil,hol,hx⟩;simp only at hil hol hx⊢;by_cases h1:i<l.length
 ·have hg:=hE i h1;obtain rfl:=hz (ne_of_lt h1);have hd:=List.drop_eq_getElem_cons h1;rcases hx with ⟨rfl,rfl⟩ | ⟨done,cur,rfl,hx⟩
  ·have h0:aC order l= []++fB order l[0] (l.drop 1):=by
    cases l with
    | nil=>simp at h1
    | cons f r=>rfl
   clear hE hz;generalize l[0]=x at*
   simp (maxSteps:=9^9) (disch:=omega) [-List.map_replicate,-List.map_set,-List.getD_eq_getElem?_getD,-getElem?_pos,-getElem?_neg,om,h1,hg,ae];exact ⟨1, [x],⟨by omega,by simp,.inr ⟨[],x,rfl,h0⟩⟩,by omega,⟨rfl,rfl⟩,rfl⟩
  ·rw [hd] at hx;rw [um] at hx;have hi1:=hI l[i].lang;have hi2:=hI cur.lang;have hpos:0<i:=by have:(done++ [cur]).length≤i:=hol;simp at this;omega
   clear hE hz hI;generalize l[i]=x at*
   have hlast:((done++ [cur]).map cU)[done.length]?=some (.agg [.int .i64 cur.el,.str cur.lang,.str cur.text]):=by simp [cU]
   have hlen:(done++ [cur]).length=done.length+1:=by simp
   have hlen2:((done++ [cur]).map cU).length=done.length+1:=by simp
   have hset:((done++ [cur]).map cU).set done.length (.agg [.int .i64 x.el,.str x.lang,.str x.text])=(done++ [x]).map cU:=by simp [cU,List.set_append]
   have hn1:((done.length:Int)+1-1).toNat=done.length:=by omega
   have happ:(done++ [cur]).map cU++ [.agg [.int .i64 x.el,.str x.lang,.str x.text]]=(done++ [cur]++ [x]).map cU:=by simp [cU]
   have hn0: ¬ ((done.length:Int)+1=0):=by omega
   rw [hlen];generalize hOA:(done++ [cur]).map cU=OA at*
   simp (maxSteps:=9^9) (disch:=omega) [-List.map_replicate,-List.map_set,-List.getD_eq_getElem?_getD,-getElem?_pos,-getElem?_neg,om,h1,hg,ae,hi1,hi2,hlast,hlen2,hset,hn1,happ,hn0];by_cases e1:cur.el=x.el
   ·rw [if_pos e1];rw [if_neg (fun h=>h e1)] at hx;by_cases e2:rk order x.lang<rk order cur.lang
    ·rw [if_pos e2];rw [if_pos e2] at hx;exact ⟨i+1,done++ [x],⟨by omega,by simp at hol⊢;omega,.inr ⟨done,x,rfl,hx⟩⟩,by omega,⟨by simp,by simp⟩,by simp⟩
    ·rw [if_neg e2];rw [if_neg e2] at hx;exact ⟨i+1,done++ [cur],⟨by omega,by simp at hol⊢;omega,.inr ⟨done,cur,rfl,hx⟩⟩,by omega,⟨by simp,by simp⟩,hOA.symm⟩
   ·rw [if_neg e1];rw [if_pos e1] at hx;exact ⟨i+1,done++ [cur]++ [x],⟨by omega,by simp at hol⊢;omega,.inr ⟨done++ [cur],x,rfl,by rw [hx];simp⟩⟩,by omega,⟨by simp,by simp⟩,by simp⟩
 ·have hi2:i=l.length:=by omega
  subst hi2
  have hfin:aC order l=out:=by
   rcases hx with ⟨h0,rfl⟩ | ⟨done,cur,rfl,hx⟩
   ·rw [List.length_eq_zero_iff.1 h0];rfl
   ·rw [hx,List.drop_length];rfl
  rw [hfin];simp (maxSteps:=9^9) (disch:=omega) [-List.map_replicate,-List.map_set,-List.getD_eq_getElem?_getD,-getElem?_pos,-getElem?_neg,om,h1]
theorem zZ (order:List af) (el:Int) (t:af) (b:Int) (l:Lb) (r:List Lb):fv order el t b (l::r)=if l.el=el∧rk order l.lang<b then fv order el l.text (rk order l.lang) r else fv order el t b r:=by rw [fv]
theorem Aa (c:Ct) (hc:c.ok) (el:Int) (h0: -9223372036854775808≤el) (h9:el≤9223372036854775807) (on:Option Bool) (order:List af) (ho:order.length<1000000):
  ar cfg 113 [aO c,.int .i64 el,.ah on 1 (ao order)] []=some (.str (gF order c.aq el (cV Lib.itoa el)), []):=by
 refine ab Rv Ni ?_;have hbl:=hc.bl;have hbz:=hc.bz;have hil:=Lib.itoa_length_le el h0 h9;have hI:=fun w=>kx on 1 order (fun _=>rfl) ho w;simp only [Er] at hI;unfold gF cV aO bU;obtain ⟨d,hd⟩: ∃d,d= [101,108,101,109,101,110,116,32]++Lib.itoa el:=⟨_,rfl⟩;have hd2:101::108::101::109::101::110::116::32::Lib.itoa el=d:=by rw [hd];rfl
 rw [←hd];generalize c.ag.map aI=A3 at*
 generalize ao c.aa=A1 at*
 generalize c.aq=B at*
 generalize c.bz=bz at*
 have hBl:(B.map bF).length=B.length:=by simp
 have hE: ∀k (h:k<B.length),(B.map bF)[k]?=some (.agg [.int .i64 B[k].el,.str B[k].lang,.str B[k].text,.int .i64 B[k].ix]):=fun k h=>get_map _ _ h;generalize B.map bF=E at*
 have hol:(ao order).length=order.length:=iT order;simp (maxSteps:=9^9) (disch:=omega) [-List.map_replicate,-List.map_set,-List.getD_eq_getElem?_getD,-getElem?_pos,-getElem?_neg,om,LV,sB,h0,h9,hBl,hol,hd2];refine Wp.aA (fun (a:Nat×af×Int)=>B.length-a.1) (fun a=> [none,some (.int .i64 el),some (.ah on 1 (ao order)),none,none,some (.str a.2.1),some (.int .i64 a.2.2),none,none,none,some (.ah c.bn bz E),some (.int .i64 B.length),some (.int .i64 a.1),none,none,none,none]) (fun _=> [.var 26 [.ah c.ln c.lz A1,.ah c.bn bz E,.ah c.sn c.sz A3]]) (fun a=>a.1≤B.length∧fv order el d order.length B=fv order el a.2.1 a.2.2 (B.drop a.1)) ?_ (0,d,order.length) ⟨by simp,by simp⟩ (by simp) rfl;rintro ⟨i,t,b⟩ ⟨hil,hx⟩;simp only at hil hx⊢;rw [hx];clear hx;by_cases h1:i<B.length
 ·have hg:=hE i h1;obtain rfl:bz=4:=hbz (ne_of_lt h1);have hi1:=hI B[i].lang;rw [List.drop_eq_getElem_cons h1,zZ];clear hE hbz hI;generalize B[i]=x at*
  simp (maxSteps:=9^9) (disch:=omega) [-List.map_replicate,-List.map_set,-List.getD_eq_getElem?_getD,-getElem?_pos,-getElem?_neg,om,h1,hg,ae,hi1];by_cases e1:x.el=el∧rk order x.lang<b
  ·rw [if_pos e1];exact ⟨i+1,_,_,⟨by omega,rfl⟩,by omega,rfl,rfl,by simp⟩
  ·rw [if_neg e1];exact ⟨i+1,t,b,⟨by omega,by rw [if_neg e1]⟩,by omega,rfl,rfl,by simp⟩
 ·rw [List.drop_eq_nil_of_le (by omega)];simp (maxSteps:=9^9) (disch:=omega) [-List.map_replicate,-List.map_set,-List.getD_eq_getElem?_getD,-getElem?_pos,-getElem?_neg,om,h1,fv]
theorem Ab (c:Ct) (hc:c.ok) (u:Int) (hb: ∀s∈c.ag,s.mark.length<1000000∧s.title.length<1000000):ar cfg 112 [aO c,.int .i64 u] []=some (.str (cL c.ag u), []):=by
 refine ab Rw Nj ?_;have hf:=tQ c.sn c.sz c.ag hc.sz hc.sl u;have hz:=hc.sz;unfold cL aO bU;cases hi:aG c.ag u with
 | none=>
  rw [hi] at hf;simp only [az] at hf;have hpl:=cy c.ag;generalize c.ag.map aI=E at*
  simp (maxSteps:=9^9) (disch:=omega) [-List.map_replicate,-List.map_set,-List.getD_eq_getElem?_getD,-getElem?_pos,-getElem?_neg,om,EA,hf,hpl]
 | some i=>
  rw [hi] at hf;simp only [az] at hf;have hil:=cB hi;have hx:c.ag[i]?=some c.ag[i]:=List.getElem?_eq_getElem hil;have hg:=fP c.ag hil;obtain ⟨hb1,hb2⟩:=hb _ (List.getElem_mem hil);have hz6:=hz (ne_of_lt hil);have hpl:=cy c.ag;have hBl:(c.ag.map aI).length=c.ag.length:=by simp
  rw [hz6] at hf⊢;simp only [hx];generalize c.ag.map aI=E at*
  generalize c.ag[i]=x at*
  have hil2:(i:Int)<(c.ag.length:Int):=by omega
  by_cases hm:x.mark= []
  ·rw [if_pos hm];simp (maxSteps:=9^9) (disch:=omega) [-List.map_replicate,-List.map_set,-List.getD_eq_getElem?_getD,-getElem?_pos,-getElem?_neg,om,EA,hf,hpl,hg,hBl,hil2,ae,hm]
  ·rw [if_neg hm];have hm2:(x.mark== [])=false:=by simpa using hm
   simp (maxSteps:=9^9) (disch:=omega) [-List.map_replicate,-List.map_set,-List.getD_eq_getElem?_getD,-getElem?_pos,-getElem?_neg,om,EA,hf,hpl,hg,hBl,hil2,ae,hm,hm2]
end Go.Proofs.YtfnkchadeaedlaaGreatDoor
namespace Go.Proofs.YtfnkchadeaedlaaGreatDoor
open Go.Am
set_option maxRecDepth 10000
set_option maxHeartbeats 4000000
theorem CN (a b:List af) (k:Nat):ae (ao a) k (ao b)=ao (a.take k++b++a.drop (k+b.length)):=by simp [ae,ao]
theorem rh (c:Ct) (hc:c.ok) (s:af) (hs:bX c.aa s=true):ar cfg 59 [aO c,.str s] []=some (.ah none 1 (ao (av c.aa s)), []):=by
 refine ab Vr Rx ?_;have hl:=hc.ll;obtain ⟨i,hi⟩:=mf hs;have hil:=EB hi;have hix:=kx none 1 c.aa (fun _=>rfl) hl s;rw [CK,hi] at hix;obtain hz:c.lz=1:=hc.lz (ne_of_lt hil);unfold av aO bU;rw [hi,hz];simp only [Nat.zero_add] at hix⊢;clear hi hs;generalize c.aa=L at*
 generalize c.ag.map aI=A3 at*
 generalize c.aq.map bF=A2 at*
 have hLl:(ao L).length=L.length:=iT L;have htk: ∀k,(ao L).take k=ao (L.take k):=fun k=>by simp [ao]
 have hts:L.take L.length=L:=List.take_length
 have hsp:ae (List.replicate L.length (AV.str [])) 0 (ao L)=ao L:=by simp [ae]
 have hpos:0<L.length:=by omega
 by_cases h1:L.length=1
 ·obtain rfl:i=0:=by omega
  obtain ⟨x,rfl⟩:=List.length_eq_one_iff.1 h1;simp only [ao,List.map_cons,List.map_nil] at hix;simp (maxSteps:=9^9) (disch:=omega) [-List.map_replicate,-List.map_set,-List.getD_eq_getElem?_getD,-getElem?_pos,-getElem?_neg,om,Nk,hix,ae,ao]
 ·have h2:(L.take i).length=i:=by simp;omega
  have h3:(ao (L.take i)).take (L.length-1)=ao (L.take i):=List.take_of_length_le (by rw [iT];omega);have h4:=CN L (L.take i) 1;rw [h2,List.append_assoc] at h4
  have h5:(ao (L.take 1++(L.take i++L.drop (1+i)))).set 0 (.str s)=ao (s::(L.take i++L.drop (i+1))):=by
   match L,hpos with
   | x::r,_=>simp [ao,Nat.add_comm]
  have h6: ¬ (1:Nat)=L.length:=fun h=>h1 h.symm;have h7:(L.take 1++(L.take i++L.drop (1+i))).length=L.length:=by simp;omega
  have h8:(ao (L.take 1++(L.take i++L.drop (1+i))))[0]?=some (.str ((L.take 1++(L.take i++L.drop (1+i))).getD 0 [])):=kv _ (by rw [h7];exact hpos);simp (maxSteps:=9^9) (disch:=omega) [-List.map_replicate,-List.map_set,-List.getD_eq_getElem?_getD,-getElem?_pos,-getElem?_neg,om,Nk,hix,hLl,htk,hts,hsp,h1,h3,h4,h5,h6,h7,h8,hil]
  try rfl
end Go.Proofs.YtfnkchadeaedlaaGreatDoor
namespace Go.Proofs.YtfnkchadeaedlaaGreatDoor
open Go.Am
set_option maxRecDepth 10000
set_option maxHeartbeats 4000000
abbrev CO:=List UInt8
structure Nl (bs:List ad) (k j:Nat) (a:AV) (s:CO):Prop where
 hk:ad.at bs k= .var 159 [a,.ay j s.length]
 hj:ad.at bs j= .sl ⟨false,some 5,none⟩ 1 (s.map aj)
 ne:j≠k
 ha:a= .bS∨a= .ptr k 0
 kl:k<bs.length
 jl:j<bs.length
 sh:shut bs.length bs=true
theorem eE {n:Nat}: ∀{bs:List ad} (k:Nat) {x:ad},shut n bs=true→shut n [x]=true→shut n (bs.set k x)=true
 | [],_,_,_,_=>rfl
 | b::r,0,x,h,hx=>by
  cases x <;> cases b <;> simp_all [shut]
 | b::r,k+1,x,h,hx=>by
  have:=fun (h:shut n r=true)=>eE (bs:=r) k h hx;cases b <;> simp_all [shut]
def gW (bs:List ad) (k j:Nat) (s:CO):List ad:=(bs.set k (.var 159 [.ptr k 0,.ay j s.length])).set j (.sl ⟨false,some 5,none⟩ 1 (s.map aj))
theorem pJ {bs:List ad} {k j:Nat} {a:AV} {s:CO} (h:Nl bs k j a s):ar cfg 167 [.ptr k 0] bs=some (.aT [],bs.set k (.var 159 [.ptr k 0,.ay j s.length])):=by
 obtain ⟨hk,hj,ne,ha,kl,jl,sh⟩:=h;refine ab Ry Nn ?_;have a1: ∀l,ad.at (bs++l) k= .var 159 [a,.ay j s.length]:=fun l=>by rw [ff _ _ kl,hk]
 have s1: ∀l b,(bs++l).set k b=bs.set k b++l:=fun l b=>List.set_append_left _ _ kl;have m1:=shut_map (Nat.le_refl bs.length) (eE k sh (x:= .var 159 [.ptr k 0,.ay j s.length]) (by simp [shut,aw,AV.under,kl,jl]));rcases ha with rfl | rfl
 ·simp (maxSteps:=9^9) (disch:=omega) [-List.map_replicate,-List.map_set,-List.getD_eq_getElem?_getD,-getElem?_pos,-getElem?_neg,om,Hn,Ho,ae,ax.descOf,hk,a1,s1,m1];exact List.take_left' (by simp)
 ·have e:bs.set k (.var 159 [.ptr k 0,.ay j s.length])=bs:=by
   rw [←hk];apply List.ext_getElem?;intro i;by_cases hi:i=k
   ·subst hi;simp [ad.at,kl,List.getD_eq_getElem?_getD]
   ·rw [List.getElem?_set_ne (Ne.symm hi)]
  simp (maxSteps:=9^9) (disch:=omega) [-List.map_replicate,-List.map_set,-List.getD_eq_getElem?_getD,-getElem?_pos,-getElem?_neg,om,Hn,ax.descOf,hk,e]
theorem gG {bs:List ad} {k j:Nat} {a:AV} {s:CO} (h:Nl bs k j a s) (x:CO) (hl:s.length<100000000) (hx:x.length<1000000):
  ar cfg 126 [.ptr k 0,.str x] bs=some (.aT [.int .i64 x.length,.gj false],gW bs k j (s++x)):=by
 have hc:=pJ h;obtain ⟨hk,hj,ne,ha,kl,jl,sh⟩:=h;refine ab Rz No ?_;have e1:ad.at (bs.set k (.var 159 [.ptr k 0,.ay j s.length])) k= .var 159 [.ptr k 0,.ay j s.length]:=by rw [Go.Am.bq _ _ _ kl,if_pos rfl]
 have e2:ad.at (bs.set k (.var 159 [.ptr k 0,.ay j s.length])) j= .sl ⟨false,some 5,none⟩ 1 (s.map aj):=by rw [Go.Am.bq _ _ _ kl,if_neg (Ne.symm ne),hj]
 have shc:=eE k sh (x:= .var 159 [.ptr k 0,.ay j s.length]) (by simp [shut,aw,AV.under,kl,jl]);have m2:=shut_map (Nat.le_refl bs.length) (eE j shc (x:= .sl ⟨false,some 5,none⟩ 1 ((s++x).map aj)) rfl);have hCl:(bs.set k (.var 159 [.ptr k 0,.ay j s.length])).length=bs.length:=by simp
 have hfin:gW bs k j (s++x)=((bs.set k (.var 159 [.ptr k 0,.ay j s.length])).set j (.sl ⟨false,some 5,none⟩ 1 ((s++x).map aj))).set k (.var 159 [.ptr k 0,.ay j (s++x).length]):=by unfold gW;rw [List.set_comm _ _ ne,List.set_set]
 rw [hfin];generalize bs.set k (.var 159 [.ptr k 0,.ay j s.length])=C at*
 have a1: ∀l,ad.at (C++l) k= .var 159 [.ptr k 0,.ay j s.length]:=fun l=>by rw [ff _ _ (by omega),e1]
 have a2: ∀l,ad.at (C++l) j= .sl ⟨false,some 5,none⟩ 1 (s.map aj):=fun l=>by rw [ff _ _ (by omega),e2]
 have s2: ∀l b,(C++l).set j b=C.set j b++l:=fun l b=>List.set_append_left _ _ (by omega);have e3:ad.at (C.set j (.sl ⟨false,some 5,none⟩ 1 (s.map aj++x.map aj))) k= .var 159 [.ptr k 0,.ay j s.length]:=by rw [Go.Am.bq _ _ _ (by omega),if_neg ne,e1]
 have m3:=shut_map (Nat.le_refl bs.length) (eE k (eE j shc (x:= .sl ⟨false,some 5,none⟩ 1 (s.map aj++x.map aj)) rfl) (x:= .var 159 [.ptr k 0,.ay j (s.length+x.length)]) (by simp [shut,aw,AV.under,kl,jl]));have hDl:(C.set j (.sl ⟨false,some 5,none⟩ 1 (s.map aj++x.map aj))).length=bs.length:=by simp [hCl]
 generalize hD:C.set j (.sl ⟨false,some 5,none⟩ 1 (s.map aj++x.map aj))=D at*
 have b1: ∀l,ad.at (D++l) k= .var 159 [.ptr k 0,.ay j s.length]:=fun l=>by rw [ff _ _ (by omega),e3]
 have t2: ∀l b,(D++l).set k b=D.set k b++l:=fun l b=>List.set_append_left _ _ (by omega);simp (maxSteps:=9^9) (disch:=omega) [-List.map_replicate,-List.map_set,-List.getD_eq_getElem?_getD,-getElem?_pos,-getElem?_neg,om,LW,hc,ae,a1,a2,s2,hCl,hD,b1,t2,m3,hDl]
 try exact List.take_left' (by simp [hDl])
theorem Xf {C bs:List ad} (h:C.length=bs.length):(∀l,(C++l)[bs.length]?=l[0]?)∧(∀l m,(C++l)[bs.length+m]?=l[m]?)∧(∀l X,(C++l).set bs.length X=C++l.set 0 X)∧(∀l m X,(C++l).set (bs.length+m) X=C++l.set m X)∧(∀l,ad.at (C++l) bs.length=ad.at l 0)∧(∀l m,ad.at (C++l) (bs.length+m)=ad.at l m)∧(∀l,(C++l).take bs.length=C):=by rw [←h];exact ⟨fun l=>by simpa using dH C l 0,fun l m=>dH C l m,fun l X=>by simpa using cK C l 0 X,fun l m X=>cK C l m X,fun l=>by simpa using ej C l 0,fun l m=>ej C l m,fun l=>List.take_left' rfl⟩
theorem pK {bs:List ad} {k j:Nat} {a:AV} {s:CO} (h:Nl bs k j a s) (x:UInt8) (hl:s.length<100000000):
  ar cfg 127 [.ptr k 0,.int .u8 (x.toNat:Int)] bs=some (.gj false,gW bs k j (s++ [x])):=by
 have hc:=pJ h;obtain ⟨hk,hj,ne,ha,kl,jl,sh⟩:=h;refine ab RB Np ?_;have e1:ad.at (bs.set k (.var 159 [.ptr k 0,.ay j s.length])) k= .var 159 [.ptr k 0,.ay j s.length]:=by rw [Go.Am.bq _ _ _ kl,if_pos rfl]
 have e2:ad.at (bs.set k (.var 159 [.ptr k 0,.ay j s.length])) j= .sl ⟨false,some 5,none⟩ 1 (s.map aj):=by rw [Go.Am.bq _ _ _ kl,if_neg (Ne.symm ne),hj]
 have shc:=eE k sh (x:= .var 159 [.ptr k 0,.ay j s.length]) (by simp [shut,aw,AV.under,kl,jl]);have hCl:(bs.set k (.var 159 [.ptr k 0,.ay j s.length])).length=bs.length:=by simp
 have hfin:gW bs k j (s++ [x])=((bs.set k (.var 159 [.ptr k 0,.ay j s.length])).set j (.sl ⟨false,some 5,none⟩ 1 (s.map aj++ [aj x]))).set k (.var 159 [.ptr k 0,.ay j (s.length+1)]):=by unfold gW;rw [List.set_comm _ _ ne,List.set_set];simp
 rw [hfin];generalize bs.set k (.var 159 [.ptr k 0,.ay j s.length])=C at*
 have a1: ∀l,ad.at (C++l) k= .var 159 [.ptr k 0,.ay j s.length]:=fun l=>by rw [ff _ _ (by omega),e1]
 have a2: ∀l,ad.at (C++l) j= .sl ⟨false,some 5,none⟩ 1 (s.map aj):=fun l=>by rw [ff _ _ (by omega),e2]
 have s2: ∀l b,(C++l).set j b=C.set j b++l:=fun l b=>List.set_append_left _ _ (by omega);have e3:ad.at (C.set j (.sl ⟨false,some 5,none⟩ 1 (s.map aj++ [aj x]))) k= .var 159 [.ptr k 0,.ay j s.length]:=by rw [Go.Am.bq _ _ _ (by omega),if_neg ne,e1]
 have m3:=shut_map (Nat.le_refl bs.length) (eE k (eE j shc (x:= .sl ⟨false,some 5,none⟩ 1 (s.map aj++ [aj x])) rfl) (x:= .var 159 [.ptr k 0,.ay j (s.length+1)]) (by simp [shut,aw,AV.under,kl,jl]));have hDl:(C.set j (.sl ⟨false,some 5,none⟩ 1 (s.map aj++ [aj x]))).length=bs.length:=by simp [hCl]
 generalize hD:C.set j (.sl ⟨false,some 5,none⟩ 1 (s.map aj++ [aj x]))=D at*
 have b1: ∀l,ad.at (D++l) k= .var 159 [.ptr k 0,.ay j s.length]:=fun l=>by rw [ff _ _ (by omega),e3]
 have t2: ∀l b,(D++l).set k b=D.set k b++l:=fun l b=>List.set_append_left _ _ (by omega);have of1:AV.int .u8 (x.toNat:Int)=aj x:=rfl;obtain ⟨p1,p2,p3,p4,p5,p6,p7⟩:=Xf hCl;obtain ⟨q1,q2,q3,q4,q5,q6,q7⟩:=Xf hDl;have z1:bs.length+1-bs.length=1:=by omega
 simp (maxSteps:=9^9) (disch:=omega) [-List.map_replicate,-List.map_set,-List.getD_eq_getElem?_getD,-getElem?_pos,-getElem?_neg,om,LY,hc,ae,a1,a2,s2,hCl,hD,b1,t2,m3,hDl,of1,p1,p2,p3,p4,p5,p6,p7,q1,q2,q3,q4,q5,q6,q7,z1]
 try exact List.take_left' (by simp [hDl])
theorem oO {bs:List ad} {k j:Nat} {a:AV} {s:CO} (h:Nl bs k j a s) (hl:s.length<100000000) (h0:s≠ []):
  ar cfg 128 [.ptr k 0] bs=some (.str s,bs.set j (.sl ⟨false,none,none⟩ 1 (s.map aj))):=by
 obtain ⟨hk,hj,ne,ha,kl,jl,sh⟩:=h;refine ab LZ Hp ?_;have hb:=oq s;have e1:ad.at (bs.set j (.sl ⟨false,none,none⟩ 1 (s.map aj))) k= .var 159 [a,.ay j s.length]:=by rw [Go.Am.bq _ _ _ jl,if_neg ne,hk]
 have e2:ad.at (bs.set j (.sl ⟨false,none,none⟩ 1 (s.map aj))) j= .sl ⟨false,none,none⟩ 1 (s.map aj):=by rw [Go.Am.bq _ _ _ jl,if_pos rfl]
 cases s with
 | nil=>exact absurd rfl h0
 | cons c s=>
  simp only [List.length_cons,List.map_cons] at*
  simp (maxSteps:=9^9) (disch:=omega) [-List.map_replicate,-List.map_set,-List.getD_eq_getElem?_getD,-getElem?_pos,-getElem?_neg,om,Hq,hk,hj,e1,e2,hb,ax.descOf]
theorem sC {bs:List ad} {k j:Nat} {a:AV} (h:Nl bs k j a []):
  ar cfg 128 [.ptr k 0] bs=some (.str [],bs.set j (.sl ⟨false,none,none⟩ 1 [])):=by
 obtain ⟨hk,hj,ne,ha,kl,jl,sh⟩:=h;refine ab LZ Hp ?_;have e1:ad.at (bs.set j (.sl ⟨false,none,none⟩ 1 [])) k= .var 159 [a,.ay j 0]:=by rw [Go.Am.bq _ _ _ jl,if_neg ne,hk];rfl
 have e2:ad.at (bs.set j (.sl ⟨false,none,none⟩ 1 [])) j= .sl ⟨false,none,none⟩ 1 []:=by rw [Go.Am.bq _ _ _ jl,if_pos rfl]
 simp only [List.length_nil,List.map_nil] at hk hj;simp (maxSteps:=9^9) (disch:=omega) [-List.map_replicate,-List.map_set,-List.getD_eq_getElem?_getD,-getElem?_pos,-getElem?_neg,om,Hq,hk,hj,e1,e2,ax.descOf]
end Go.Proofs.YtfnkchadeaedlaaGreatDoor
namespace Go.Proofs.YtfnkchadeaedlaaGreatDoor
open Go.Am Go.ChangeShapes Go.WideShapes Go.RowKit
set_option maxRecDepth 10000
set_option maxHeartbeats 4000000
structure Sh.CG (s:Sh):Prop where
 fz:s.facts≠ []→s.fz=3
 fl:s.facts.length≤maxLen
structure Ct.CG (c:Ct):Prop where
 lz:c.aa≠ []→c.lz=1
 bz:c.aq≠ []→c.bz=4
 sz:c.ag≠ []→c.sz=6
 ll:c.aa.length≤maxLen
 bl:c.aq.length≤maxLen
 sl:c.ag.length≤maxLen
 sh: ∀s∈c.ag,s.CG
theorem CP {m:Nat} {cs:List AV} (h:mg Tryz.prog m 9 cs): ∃s:af,True∧aU (j5 (Tryz.prog.underlying 9)) cs=AV.str s:=by obtain ⟨s,rfl,_⟩:=h.str (by kernel_rfl);exact ⟨s,trivial,by rw [show Tryz.prog.underlying 9=some .string by kernel_rfl];rfl⟩
theorem FD {m:Nat} {cs:List AV} (h:mg Tryz.prog m 77 cs): ∃n:Lb,True∧aU (j5 (Tryz.prog.underlying 77)) cs=bF n:=by
 have hfs:Tryz.prog.underlying 77=some (.struct (bN Tryz.prog 77)):=by kernel_rfl
 have hft:(bN Tryz.prog 77).toList.map (·.type)= [3,9,9,3]:=by kernel_rfl
 obtain ⟨m,hs⟩:=h.struct hfs;rw [hft] at hs;obtain ⟨a,r,rfl,ha,b,r2,rfl,hb,c,r3,rfl,hc,d,r4,rfl,hd,rfl⟩:=hs;obtain ⟨x,rfl,_⟩:=ha.int (k:= .i64) (by kernel_rfl);obtain ⟨s,rfl,_⟩:=hb.str (by kernel_rfl);obtain ⟨t,rfl,_⟩:=hc.str (by kernel_rfl);obtain ⟨y,rfl,_⟩:=hd.int (k:= .i64) (by kernel_rfl);exact ⟨⟨x,s,t,y⟩,trivial,by rw [hfs];rfl⟩
theorem Hr {m:Nat} {cs:List AV} (h:mg Tryz.prog m 79 cs): ∃n:Fc,True∧aU (j5 (Tryz.prog.underlying 79)) cs=cU n:=by
 have hfs:Tryz.prog.underlying 79=some (.struct (bN Tryz.prog 79)):=by kernel_rfl
 have hft:(bN Tryz.prog 79).toList.map (·.type)= [3,9,9]:=by kernel_rfl
 obtain ⟨m,hs⟩:=h.struct hfs;rw [hft] at hs;obtain ⟨a,r,rfl,ha,b,r2,rfl,hb,c,r3,rfl,hc,rfl⟩:=hs;obtain ⟨x,rfl,_⟩:=ha.int (k:= .i64) (by kernel_rfl);obtain ⟨s,rfl,_⟩:=hb.str (by kernel_rfl);obtain ⟨t,rfl,_⟩:=hc.str (by kernel_rfl);exact ⟨⟨x,s,t⟩,trivial,by rw [hfs];rfl⟩
theorem FE {m:Nat} {cs:List AV} (h:mg Tryz.prog m 73 cs): ∃n:Sh,n.CG∧aU (j5 (Tryz.prog.underlying 73)) cs=aI n:=by
 have hfs:Tryz.prog.underlying 73=some (.struct (bN Tryz.prog 73)):=by kernel_rfl
 have hft:(bN Tryz.prog 73).toList.map (·.type)= [3,3,3,9,9,71]:=by kernel_rfl
 obtain ⟨m,hs⟩:=h.struct hfs;rw [hft] at hs;obtain ⟨a,r,rfl,ha,b,r2,rfl,hb,c,r3,rfl,hc,d,r4,rfl,hd,e,r5,rfl,he,f,r6,rfl,hf,rfl⟩:=hs;obtain ⟨x,rfl,_⟩:=ha.int (k:= .i64) (by kernel_rfl);obtain ⟨y,rfl,_⟩:=hb.int (k:= .i64) (by kernel_rfl);obtain ⟨z,rfl,_⟩:=hc.int (k:= .i64) (by kernel_rfl);obtain ⟨s,rfl,_⟩:=hd.str (by kernel_rfl);obtain ⟨t,rfl,_⟩:=he.str (by kernel_rfl);obtain ⟨n1,z1,l1,rfl,p1,q1,s1,_⟩:=hf.pL (e:=79) cU (fun _=>True) (by kernel_rfl) 3 (by kernel_rfl) (by decide) (fun m cs h=>Hr h);exact ⟨⟨x,y,z,s,t,l1,some n1,z1⟩,⟨fun hl=>p1 0 (List.length_pos_iff.2 hl),s1⟩,by rw [hfs];rfl⟩
theorem im {ts:List TypeId} {xs:List AV} (h:dx Tryz.prog (26::ts) xs): ∃(c:Ct) (r:List AV),xs=aO c::r∧c.CG∧dx Tryz.prog ts r:=by
 obtain ⟨n,cs,r,rfl,h1,h2⟩:=h;have hfs:Tryz.prog.underlying 26=some (.struct (bN Tryz.prog 26)):=by kernel_rfl
 have hft:(bN Tryz.prog 26).toList.map (·.type)= [22,23,24]:=by kernel_rfl
 obtain ⟨m,hs⟩:=h1.struct hfs;rw [hft] at hs;obtain ⟨a,r1,rfl,ha,b,r2,rfl,hb,c,r3,rfl,hc,rfl⟩:=hs;obtain ⟨n1,z1,l1,rfl,p1,q1,s1,_⟩:=ha.pL (e:=9) AV.str (fun _=>True) (by kernel_rfl) 1 (by kernel_rfl) (by decide) (fun m cs h=>CP h);obtain ⟨n2,z2,l2,rfl,p2,q2,s2,_⟩:=hb.pL (e:=77) bF (fun _=>True) (by kernel_rfl) 4 (by kernel_rfl) (by decide) (fun m cs h=>FD h);obtain ⟨n3,z3,l3,rfl,p3,q3,s3,t3⟩:=hc.pL (e:=73) aI Sh.CG (by kernel_rfl) 6 (by kernel_rfl) (by decide) (fun m cs h=>FE h);exact ⟨⟨l1,l2,l3,some n1,z1,some n2,z2,some n3,z3⟩,r,by rw [hfs];rfl,⟨fun hl=>p1 0 (List.length_pos_iff.2 hl),fun hl=>p2 0 (List.length_pos_iff.2 hl),fun hl=>p3 0 (List.length_pos_iff.2 hl),s1,s2,s3,t3⟩,h2⟩
theorem eF {ts:List TypeId} {xs:List AV} (h:dx Tryz.prog (3::ts) xs): ∃(i:Int) (r:List AV),xs= .int .i64 i::r∧ -9223372036854775808≤i∧i≤9223372036854775807∧dx Tryz.prog ts r:=by obtain ⟨n,cs,r,rfl,h1,h2⟩:=h;obtain ⟨x,rfl,hx⟩:=h1.int (k:= .i64) (by kernel_rfl);simp [Lit.wf,IntKind.min,IntKind.max,IntKind.signed,IntKind.bits] at hx;exact ⟨x,r,by rw [show Tryz.prog.underlying 3=some (.int .i64) by kernel_rfl];rfl,by omega,by omega,h2⟩
theorem iJ {ts:List TypeId} {xs:List AV} (h:dx Tryz.prog (9::ts) xs): ∃(s:af) (r:List AV),xs= .str s::r∧s.length≤maxLen∧dx Tryz.prog ts r:=by obtain ⟨n,cs,r,rfl,h1,h2⟩:=h;obtain ⟨s,rfl,hs⟩:=h1.str (by kernel_rfl);exact ⟨s,r,by rw [show Tryz.prog.underlying 9=some .string by kernel_rfl];rfl,hs,h2⟩
end Go.Proofs.YtfnkchadeaedlaaGreatDoor
namespace Go.Proofs.YtfnkchadeaedlaaGreatDoor
open Go.Am
set_option maxRecDepth 10000
set_option maxHeartbeats 4000000
def j6 (m acc:Nat):af→Nat×Nat
 | []=>(acc,0)
 | c::r=>if 48≤c.toNat∧c.toNat≤57 then (if m<acc*10+(c.toNat-48) then (m,1) else j6 m (acc*10+(c.toNat-48)) r) else (0,2)
def J0 (n:Nat):AV:=if n=0 then .gj false else .lh 193 .i64 n
theorem kB (m acc:Nat) (c:UInt8) (r:af):j6 m acc (c::r)=if 48≤c.toNat∧c.toNat≤57 then (if m<acc*10+(c.toNat-48) then (m,1) else j6 m (acc*10+(c.toNat-48)) r) else (0,2):=rfl
theorem wZ (m:Nat): ∀(s:af) (acc:Nat),(j6 m acc s).2=0∨(j6 m acc s).2=1∨(j6 m acc s).2=2
 | [],_=> .inl rfl
 | c::r,acc=>by
  rw [kB];split
  ·split
   ·exact .inr (.inl rfl)
   ·exact wZ m r _
  ·exact .inr (.inr rfl)
theorem yA (m:Nat): ∀(s:af) (acc:Nat),acc≤m→(j6 m acc s).1≤m
 | [],_,h=>h
 | c::r,acc,h=>by
  rw [kB];split
  ·split
   ·exact Nat.le_refl _
   ·exact yA m r _ (by omega)
  ·exact Nat.zero_le _
theorem Ac (s:af) {i:Nat} (h:i<s.length):s.drop i=s.getD i 0::s.drop (i+1):=by rw [List.drop_eq_getElem_cons h];simp [List.getD_eq_getElem?_getD,h]
theorem FG (s:af) (c:UInt8):yB [.str s,aj c]=some (.int .i64 (Lib.indexByte s c)):=by simp [yB,aj]
theorem pM (s:af) (c:UInt8):ar cfg 80 [.str s,aj c] []=some (.int .i64 (Lib.indexByte s c), []):=by
 have h1:ar cfg 131 [.str s,aj c] []=some (.int .i64 (Lib.indexByte s c), []):=by refine ab RC Nq ?_;simp (maxSteps:=9^9) (disch:=omega) [-List.map_replicate,-List.map_set,-List.getD_eq_getElem?_getD,-getElem?_pos,-getElem?_neg,om,L0,FG]
 refine ab Vs RE ?_;simp (maxSteps:=9^9) (disch:=omega) [-List.map_replicate,-List.map_set,-List.getD_eq_getElem?_getD,-getElem?_pos,-getElem?_neg,om,RF,h1]
theorem Hs (c:UInt8): ∃z:Int,ar cfg 170 [aj c] []=some (.int .u8 z, []):=by apply Exists.intro;refine ab RG Nr ?_;simp (maxSteps:=9^9) (disch:=omega) [-List.map_replicate,-List.map_set,-List.getD_eq_getElem?_getD,-getElem?_pos,-getElem?_neg,om,L5,aj];exact rfl
theorem CQ (m:Nat) (bits:Int) (hm:m=1099511627775∧bits=40∨m=65535∧bits=16) (c0:UInt8) (s0:af) (hl:s0.length<1000000):
  ar cfg 132 [.str (c0::s0),.int .i64 10,.int .i64 bits] []=some (.aT [.int .u64 (j6 m 0 (c0::s0)).1,J0 (j6 m 0 (c0::s0)).2], []):=by
 refine ab L6 Ht ?_;have hb:0<bits∧bits<64:=by omega
 have hsl:(c0::s0).length<1000001:=by simp;omega
 have hne:c0::s0≠ []:=by simp
 generalize c0::s0=s at*
 have hml:(s.map aj).length=s.length:=by simp
 obtain ⟨⟨v,k⟩,hvk⟩: ∃vk:Nat×Nat,vk=j6 m 0 s:=⟨_,rfl⟩;rw [←hvk]
 have hz:(IntKind.u64.wrap (2^min (IntKind.u64.wrap bits).toNat IntKind.u64.bits)-1)=m∧ ¬ IntKind.u64.wrap bits<0∧m<1099511627776:=by rcases hm with ⟨rfl,rfl⟩ | ⟨rfl,rfl⟩ <;> decide
 obtain ⟨z1,z2,z3⟩:=hz;clear hm
 have hw:IntKind.u64.wrap (m:Int)=m:=by show (m:Int)%18446744073709551616=_;omega
 simp (maxSteps:=9^9) (disch:=omega) [-List.map_replicate,-List.map_set,-List.getD_eq_getElem?_getD,-getElem?_pos,-getElem?_neg,om,Hu,hne,hb.1,hb.2,z1,z2,ax.descOf,hw]
 have hgg: ∀{i:Nat},i<s.length→(s.map aj)[i]?=some (.int .u8 ((s.getD i 0).toNat:Int)):=fun {i} h=>by
  rw [List.getElem?_map,List.getElem?_eq_getElem h];simp [List.getD_eq_getElem?_getD,h,aj]
 refine Wp.aA (fun (a:Nat×Nat)=>s.length-a.1) (fun a=> [none,some (.int .i64 10),none,none,none,some (.bool false),some (.str s),some (.int .u64 1844674407370955162),some (.int .u64 m),some (.bool false),some (.int .u64 a.2),none,none,none,none,none,none,none,none,none,none,none,none,none,none,none,none,none,none,none,none,none,some (.ay 1 s.length),some (.int .i64 s.length),some (.int .i64 a.1),none,none,none,none,none,none,none,none,none,none,none,none,none,none,none,none,none]) (fun _=> [.dead,.sl ⟨false,some 5,none⟩ 1 (s.map aj)]) (fun a=>(v,k)=j6 m a.2 (s.drop a.1)∧a.1≤s.length∧a.2≤m) ?_ (0,0) ⟨hvk,by simp,by simp⟩ (by simp) rfl;rintro ⟨i,acc⟩ ⟨hi,hil,hac⟩;simp only at hi hil hac⊢;by_cases h1:i<s.length
 ·have hg:=hgg h1;rw [Ac s h1,kB] at hi;generalize s.getD i 0=c at*
  clear hgg;obtain ⟨z,hz⟩:=Hs c;simp only [aj] at hz;have w8:IntKind.u8.wrap 10=10:=rfl;have zS:IntKind.u64.wrap 10=10:=rfl;by_cases f1:48≤c.toNat∧c.toNat≤57
  ·rw [if_pos f1] at hi
   have d1:IntKind.u8.wrap ((c.toNat:Int)-48)=((c.toNat-48:Nat):Int):=by show ((c.toNat:Int)-48)%256=_;omega
   have d2: ∀n:Nat,n<18446744073709551616→IntKind.u64.wrap (n:Int)=n:=fun n hn=>by
    show (n:Int)%18446744073709551616=_;omega
   have d3:(acc:Int)*10=((acc*10:Nat):Int):=by omega
   have d4:IntKind.u64.wrap ((acc:Int)*10)=((acc*10:Nat):Int):=by rw [d3,d2 _ (by omega)]
   have d5:IntKind.u64.wrap ((c.toNat-48:Nat):Int)=((c.toNat-48:Nat):Int):=d2 _ (by omega);have d6:IntKind.u64.wrap (((acc*10:Nat):Int)+((c.toNat-48:Nat):Int))=((acc*10+(c.toNat-48):Nat):Int):=by rw [←Int.natCast_add,d2 _ (by omega)]
   clear d2;generalize hn1:acc*10=n1 at*
   generalize hn2:c.toNat-48=n2 at*
   obtain ⟨f1a,f1b⟩:=f1;by_cases f2:m<n1+n2
   ·rw [if_pos f2] at hi;obtain ⟨rfl,rfl⟩:=Prod.mk.inj hi;simp (maxSteps:=9^9) (disch:=omega) [-List.map_replicate,-List.map_set,-List.getD_eq_getElem?_getD,-getElem?_pos,-getElem?_neg,om,h1,hg,ae,f1a,f1b,w8,zS,d1,d4,d5,d6,J0]
   ·rw [if_neg f2] at hi;simp (maxSteps:=9^9) (disch:=omega) [-List.map_replicate,-List.map_set,-List.getD_eq_getElem?_getD,-getElem?_pos,-getElem?_neg,om,h1,hg,ae,f1a,f1b,w8,zS,d1,d4,d5,d6];refine ⟨i+1,n1+n2,⟨hi,by omega,by omega⟩,by omega,?_⟩;exact ⟨by omega,by omega⟩
  ·rw [if_neg f1] at hi;obtain ⟨rfl,rfl⟩:=Prod.mk.inj hi;by_cases f3:97≤z
   ·by_cases f4:z≤122
    ·have d7:IntKind.u8.wrap (IntKind.u8.wrap (z-97)+10)=z-87:=by show ((z-97)%256+10)%256=_;omega
     simp (maxSteps:=9^9) (disch:=omega) [-List.map_replicate,-List.map_set,-List.getD_eq_getElem?_getD,-getElem?_pos,-getElem?_neg,om,h1,hg,ae,hz,w8,zS,f1,f3,f4,d7,J0];intro;omega
    ·simp (maxSteps:=9^9) (disch:=omega) [-List.map_replicate,-List.map_set,-List.getD_eq_getElem?_getD,-getElem?_pos,-getElem?_neg,om,h1,hg,ae,hz,w8,zS,f1,f3,f4,J0];intro;omega
   ·simp (maxSteps:=9^9) (disch:=omega) [-List.map_replicate,-List.map_set,-List.getD_eq_getElem?_getD,-getElem?_pos,-getElem?_neg,om,h1,hg,ae,hz,w8,zS,f1,f3,J0];intro;omega
 ·rw [List.drop_eq_nil_of_le (by omega)] at hi;obtain ⟨rfl,rfl⟩:=Prod.mk.inj hi;simp (maxSteps:=9^9) (disch:=omega) [-List.map_replicate,-List.map_set,-List.getD_eq_getElem?_getD,-getElem?_pos,-getElem?_neg,om,h1,J0]
def RH (m:Nat) (s:af):AV:=if s= [] then .aT [.int .u64 0,.gj true] else .aT [.int .u64 (j6 m 0 s).1,.gj (decide ((j6 m 0 s).2≠0))]
theorem Ad (m:Nat) (bits:Int) (hm:m=1099511627775∧bits=40∨m=65535∧bits=16) (s:af) (hl:s.length<1000000):
  ar cfg 81 [.str s,.int .i64 10,.int .i64 bits] []=some (RH m s, []):=by
 refine ab Vt RI ?_;cases s with
 | nil=>
  have h0:ar cfg 132 [.str [],.int .i64 10,.int .i64 bits] []=some (.aT [.int .u64 0,.lh 193 .i64 2], []):=by refine ab L6 Ht ?_;simp (maxSteps:=9^9) (disch:=omega) [-List.map_replicate,-List.map_set,-List.getD_eq_getElem?_getD,-getElem?_pos,-getElem?_neg,om,Hu]
  simp (maxSteps:=9^9) (disch:=omega) [-List.map_replicate,-List.map_set,-List.getD_eq_getElem?_getD,-getElem?_pos,-getElem?_neg,om,Hv,h0,mh,RH]
 | cons c0 s0=>
  have hin:=CQ m bits hm c0 s0 (by simp at hl;omega);have hne:c0::s0≠ []:=by simp
  have hcd:=wZ m (c0::s0) 0;generalize c0::s0=s at*
  clear hm;unfold RH;rw [if_neg hne];generalize (j6 m 0 s).1=v at*
  generalize (j6 m 0 s).2=k at*
  rcases hcd with rfl | rfl | rfl
  ·simp (maxSteps:=9^9) (disch:=omega) [-List.map_replicate,-List.map_set,-List.getD_eq_getElem?_getD,-getElem?_pos,-getElem?_neg,om,Hv,hin,J0]
  ·simp (maxSteps:=9^9) (disch:=omega) [-List.map_replicate,-List.map_set,-List.getD_eq_getElem?_getD,-getElem?_pos,-getElem?_neg,om,Hv,hin,J0,mh]
  ·simp (maxSteps:=9^9) (disch:=omega) [-List.map_replicate,-List.map_set,-List.getD_eq_getElem?_getD,-getElem?_pos,-getElem?_neg,om,Hv,hin,J0,mh]
theorem xa: ∀(s:af) (acc:Nat),pN acc s=if (j6 1099511627775 acc s).2=0 then some (j6 1099511627775 acc s).1 else none
 | [],acc=>rfl
 | c::r,acc=>by
  rw [kB];unfold pN;by_cases h1:48≤c.toNat∧c.toNat≤57
  ·rw [if_pos h1,if_pos h1];by_cases h2:1099511627775<acc*10+(c.toNat-48)
   ·rw [if_pos h2,if_pos h2];rfl
   ·rw [if_neg h2,if_neg h2,xa r]
  ·rw [if_neg h1,if_neg h1];rfl
theorem xb: ∀(s:af) (acc:Nat),tH acc s=if (j6 65535 acc s).2=0 then some (j6 65535 acc s).1 else none
 | [],acc=>rfl
 | c::r,acc=>by
  rw [kB];unfold tH;by_cases h1:48≤c.toNat∧c.toNat≤57
  ·rw [if_pos h1,if_pos h1];by_cases h2:65535<acc*10+(c.toNat-48)
   ·rw [if_pos h2,if_pos h2];rfl
   ·rw [if_neg h2,if_neg h2,xb r]
  ·rw [if_neg h1,if_neg h1];rfl
theorem uq (s:af) (hl:s.length<1000000): ∃(v:Nat) (b:Bool),ar cfg 81 [.str s,.int .i64 10,.int .i64 40] []=some (.aT [.int .u64 v,.gj b], [])∧tR s=(if b then none else some v)∧v≤1099511627775:=by
 have h:=Ad 1099511627775 40 (.inl ⟨rfl,rfl⟩) s hl;unfold RH at h;unfold tR;by_cases h0:s= []
 ·rw [if_pos h0] at h⊢;exact ⟨0,true,h,rfl,by omega⟩
 ·rw [if_neg h0] at h⊢;refine ⟨_,_,h,?_,yA 1099511627775 s 0 (by omega)⟩;rw [xa];by_cases hk:(j6 1099511627775 0 s).2=0
  ·simp [hk]
  ·simp [hk]
theorem ur (s:af) (hl:s.length<1000000): ∃(v:Nat) (b:Bool),ar cfg 81 [.str s,.int .i64 10,.int .i64 16] []=some (.aT [.int .u64 v,.gj b], [])∧nw s=(if b then none else some v)∧v≤65535:=by
 have h:=Ad 65535 16 (.inr ⟨rfl,rfl⟩) s hl;unfold RH at h;unfold nw;by_cases h0:s= []
 ·rw [if_pos h0] at h⊢;exact ⟨0,true,h,rfl,by omega⟩
 ·rw [if_neg h0] at h⊢;refine ⟨_,_,h,?_,yA 65535 s 0 (by omega)⟩;rw [xb];by_cases hk:(j6 65535 0 s).2=0
  ·simp [hk]
  ·simp [hk]
end Go.Proofs.YtfnkchadeaedlaaGreatDoor
namespace Go.Proofs.YtfnkchadeaedlaaGreatDoor
open Go.Am
set_option maxRecDepth 10000
set_option maxHeartbeats 4000000
def ot (p:Int×Int):AV:= .aT [.int .i64 p.1,.int .i64 p.2]
theorem lj: ∀(s:af) (c:UInt8),-1≤Lib.indexByte s c∧(Lib.indexByte s c<s.length)
 | [],c=>by simp [Lib.indexByte]
 | b::l,c=>by
  have ih:=lj l c;rw [Lib.indexByte];split
  ·simp only [List.length_cons];omega
  ·split
   ·simp only [List.length_cons];omega
   ·simp only [List.length_cons];omega
theorem EC (s:af):ar cfg 158 [.str s] []=some (ot (oP s), []):=by
 refine ab RJ Ns ?_;have hi:ar cfg 80 [.str s,.int .u8 93] []=some (.int .i64 (Lib.indexByte s 93), []):=pM s 93;have hb:=lj s 93;have hsd: ∀{j:Nat},j<s.length→s[j]?=some (s.getD j 0):=fun {j} h=>by simp [List.getD_eq_getElem?_getD,h]
 unfold oP;generalize Lib.indexByte s 93=n at*
 by_cases h1:n<2∨11<n
 ·have e:(n<2∨11<n∨s.getD 1 0=48):=by omega
  rw [if_pos e];rcases h1 with h1 | h1
  ·simp (maxSteps:=9^9) (disch:=omega) [-List.map_replicate,-List.map_set,-List.getD_eq_getElem?_getD,-getElem?_pos,-getElem?_neg,om,uu,hi,h1,ot]
  ·simp (maxSteps:=9^9) (disch:=omega) [-List.map_replicate,-List.map_set,-List.getD_eq_getElem?_getD,-getElem?_pos,-getElem?_neg,om,uu,hi,h1,ot]
 ·obtain ⟨n,rfl⟩: ∃k:Nat,n=k:=⟨n.toNat,by omega⟩;have g1:=hsd (j:=1) (by omega);have hn:2≤n∧n≤11:=by omega
  have hnl:n<s.length:=by omega
  clear hsd h1 hb;rw [Int.toNat_natCast];obtain ⟨v,b,hp,hpv,hv⟩:=uq ((s.take n).drop 1) (by simp;omega);generalize s.getD 1 0=c at*
  rw [hpv];have hw:(v:Int)%18446744073709551616=v:=by omega
  rw [List.drop_one] at hp;by_cases hc:c=48
  ·subst hc;rw [if_pos (.inr (.inr rfl))];simp (maxSteps:=9^9) (disch:=omega) [-List.map_replicate,-List.map_set,-List.getD_eq_getElem?_getD,-getElem?_pos,-getElem?_neg,om,uu,hi,hn.1,hn.2,g1,aj,ot]
  ·have hc2: ¬ ((c.toNat:Int)=48):=fun h=>hc (UInt8.toNat_inj.mp (by simp;omega));rw [if_neg (fun h=>by rcases h with h | h | h;omega;omega;exact hc h)];cases b with
   | true=>simp (maxSteps:=9^9) (disch:=omega) [-List.map_replicate,-List.map_set,-List.getD_eq_getElem?_getD,-getElem?_pos,-getElem?_neg,om,uu,hi,hn.1,hn.2,g1,aj,ot,hp,hc2]
   | false=>
    simp only [Bool.false_eq_true,if_false];by_cases hv2:1073741824<v
    ·simp (maxSteps:=9^9) (disch:=omega) [-List.map_replicate,-List.map_set,-List.getD_eq_getElem?_getD,-getElem?_pos,-getElem?_neg,om,uu,hi,hn.1,hn.2,g1,aj,ot,hp,hc2,hv2]
    ·simp (maxSteps:=9^9) (disch:=omega) [-List.map_replicate,-List.map_set,-List.getD_eq_getElem?_getD,-getElem?_pos,-getElem?_neg,om,uu,hi,hn.1,hn.2,g1,aj,ot,hp,hc2,hv2]
theorem Ae (s:af) (h00:s≠ []):ar cfg 40 [.str s] []=some (ot (yC s), []):=by
 refine ab Vu RL ?_;have hi:ar cfg 80 [.str s,.int .u8 93] []=some (.int .i64 (Lib.indexByte s 93), []):=pM s 93;have hb:=lj s 93;have hsd: ∀{j:Nat},j<s.length→s[j]?=some (s.getD j 0):=fun {j} h=>by simp [List.getD_eq_getElem?_getD,h]
 have hs0:0<s.length:=List.length_pos_iff.mpr h00;have g0:=hsd (j:=0) hs0;unfold yC;generalize hc0:s.getD 0 0=c0 at*
 by_cases h91:c0=91
 case neg=>
  have hc3: ¬ ((c0.toNat:Int)=91):=fun h=>h91 (UInt8.toNat_inj.mp (by simp;omega));rw [if_pos h91];clear hsd hi;simp (maxSteps:=9^9) (disch:=omega) [-List.map_replicate,-List.map_set,-List.getD_eq_getElem?_getD,-getElem?_pos,-getElem?_neg,om,Af,g0,aj,ot,hc3]
 rw [if_neg (by simp [h91])];subst h91;unfold oP;generalize Lib.indexByte s 93=n at*
 by_cases h1:n<2∨11<n
 ·have e:(n<2∨11<n∨s.getD 1 0=48):=by omega
  rw [if_pos e];rcases h1 with h1 | h1
  ·simp (maxSteps:=9^9) (disch:=omega) [-List.map_replicate,-List.map_set,-List.getD_eq_getElem?_getD,-getElem?_pos,-getElem?_neg,om,Af,hi,h1,ot,g0,aj]
  ·simp (maxSteps:=9^9) (disch:=omega) [-List.map_replicate,-List.map_set,-List.getD_eq_getElem?_getD,-getElem?_pos,-getElem?_neg,om,Af,hi,h1,ot,g0,aj]
 ·obtain ⟨n,rfl⟩: ∃k:Nat,n=k:=⟨n.toNat,by omega⟩;have g1:=hsd (j:=1) (by omega);have hn:2≤n∧n≤11:=by omega
  have hnl:n<s.length:=by omega
  clear hsd h1 hb;rw [Int.toNat_natCast];obtain ⟨v,b,hp,hpv,hv⟩:=uq ((s.take n).drop 1) (by simp;omega);generalize s.getD 1 0=c at*
  rw [hpv];have hw:(v:Int)%18446744073709551616=v:=by omega
  rw [List.drop_one] at hp;by_cases hc:c=48
  ·subst hc;rw [if_pos (.inr (.inr rfl))];simp (maxSteps:=9^9) (disch:=omega) [-List.map_replicate,-List.map_set,-List.getD_eq_getElem?_getD,-getElem?_pos,-getElem?_neg,om,Af,hi,hn.1,hn.2,g0,g1,aj,ot]
  ·have hc2: ¬ ((c.toNat:Int)=48):=fun h=>hc (UInt8.toNat_inj.mp (by simp;omega));rw [if_neg (fun h=>by rcases h with h | h | h;omega;omega;exact hc h)];cases b with
   | true=>simp (maxSteps:=9^9) (disch:=omega) [-List.map_replicate,-List.map_set,-List.getD_eq_getElem?_getD,-getElem?_pos,-getElem?_neg,om,Af,hi,hn.1,hn.2,g0,g1,aj,ot,hp,hc2]
   | false=>
    simp only [Bool.false_eq_true,if_false];by_cases hv2:1073741824<v
    ·simp (maxSteps:=9^9) (disch:=omega) [-List.map_replicate,-List.map_set,-List.getD_eq_getElem?_getD,-getElem?_pos,-getElem?_neg,om,Af,hi,hn.1,hn.2,g0,g1,aj,ot,hp,hc2,hv2]
    ·simp (maxSteps:=9^9) (disch:=omega) [-List.map_replicate,-List.map_set,-List.getD_eq_getElem?_getD,-getElem?_pos,-getElem?_neg,om,Af,hi,hn.1,hn.2,g0,g1,aj,ot,hp,hc2,hv2]
end Go.Proofs.YtfnkchadeaedlaaGreatDoor
namespace Go.Proofs.YtfnkchadeaedlaaGreatDoor
open Go.Am
set_option maxRecDepth 10000
set_option maxHeartbeats 4000000
def bk (bs:List ad) (a:AV) (s:af):List ad:=bs++ [.var 159 [a,.ay (bs.length+1) s.length],.sl ⟨false,some 5,none⟩ 1 (s.map aj)]
theorem gp {bs:List ad} (hs:shut bs.length bs=true) {a:AV} (ha:a= .bS∨a= .ptr bs.length 0) (s:af):Nl (bk bs a s) bs.length (bs.length+1) a s:=by
 unfold bk;refine ⟨?_,?_,by omega,ha,by simp,by simp,?_⟩
 ·rw [xc];rfl
 ·rw [ej];rfl
 ·rw [eo,iq (by simp) hs];rcases ha with rfl | rfl <;> simp [shut,aw,AV.under]
theorem iK {bs:List ad} {a:AV} {s t:af}:gW (bk bs a s) bs.length (bs.length+1) t=bk bs (.ptr bs.length 0) t:=by unfold gW bk;rw [uv,cK];rfl
theorem FH (f:FuncId) (hns:wX f) (j:Nat) (bs:List ad) (hsh:shut bs.length bs=true) (hj:j<bs.length) (nm:Int→af)
  (hf: ∀u J,ar cfg f [.int .i64 u,.ptr j 0] (bs++J)=some (.str (nm u),bs++J)) (hnm: ∀u,(nm u).length≤1000) (s:af) (hs:s.length≤10000):
  ar cfg 110 [.str s,.fn f [] [.ptr j 0]] bs=some (.str (bw nm s),bs):=by
 refine ab RM Nt ?_;obtain ⟨n1,n2,n3,n4⟩:=hns;simp only [exts,re,FC,iV] at n1 n2 n3 n4;have hm:=shut_map (Nat.le_refl _) hsh;simp (maxSteps:=9^9) (disch:=omega) [-List.map_replicate,-List.map_set,-List.getD_eq_getElem?_getD,-getElem?_pos,-getElem?_neg,om,L7];refine Wp.aA (fun (a:Nat×af×AV)=>s.length-a.1) (fun a=> [some (.str s),some (.fn f [] [.ptr j 0]),none,some (.ptr bs.length 0),some (.int .i64 a.1),none,none,none,none,none,none,none,none]) (fun a=>bk bs a.2.2 a.2.1) (fun a=>bw nm s=a.2.1++bw nm (s.drop a.1)∧a.1≤s.length∧a.2.1.length≤1000*a.1∧(a.2.2= .bS∨a.2.2= .ptr bs.length 0)) ?_ (0, [],.bS) ⟨by simp,by simp,by simp,.inl rfl⟩ (by simp) rfl;rintro ⟨i,out,a⟩ ⟨hi,hil,hol,ha⟩;simp only at hi hil hol ha⊢;have hbl:=gp hsh ha out;have hBl: ∀a out,(bk bs a out).length=bs.length+2:=fun a out=>by simp [bk]
 by_cases h1:i<s.length
 ·have hg:s[i]?=some (s.getD i 0):=by simp [List.getD_eq_getElem?_getD,h1]
  have hwb:=pK hbl (s.getD i 0) (by omega);rw [iK] at hwb;have hd:=Ac s h1;by_cases hp:(ak (s.drop i)).2=0
  ·have hi':bw nm s=out++ [s.getD i 0]++bw nm (s.drop (i+1)):=by rw [hi,hd,lp nm _ _ (by rw [←hd];exact hp)];simp
   by_cases hc:s.getD i 0=91
   ·have hu:=EC (s.drop i);rw [hd,hc,oQ,←hc,←hd] at hu;unfold ot at hu;rw [hp] at hu;generalize (ak (s.drop i)).1=p1 at*
    rw [hc] at hg hwb hi';replace hwb:ar cfg 127 [.ptr bs.length 0,.int .u8 91] _=_:=hwb;have hk2:=hBl a out;have hk3:=hBl (.ptr bs.length 0) (out++ [91]);generalize bk bs a out=B at*
    clear hd hp hc hi hf hbl;simp (maxSteps:=9^9) (disch:=omega) [-List.map_replicate,-List.map_set,-List.getD_eq_getElem?_getD,-getElem?_pos,-getElem?_neg,om,h1,hg,aj,hu,hwb,hk2,hk3];refine ⟨i+1,out++ [91],.ptr bs.length 0,⟨hi',by omega,by simp;omega,.inr rfl⟩,by omega,?_⟩;simp
   ·have hc2: ¬ (((s.getD i 0).toNat:Int)=91):=fun h=>hc (UInt8.toNat_inj.mp (by show _=91;omega));generalize s.getD i 0=c at*
    have hk2:=hBl a out;have hk3:=hBl (.ptr bs.length 0) (out++ [c]);generalize bk bs a out=B at*
    clear hd hp hc hi hf hbl;simp (maxSteps:=9^9) (disch:=omega) [-List.map_replicate,-List.map_set,-List.getD_eq_getElem?_getD,-getElem?_pos,-getElem?_neg,om,h1,hg,aj,hwb,hk2,hk3,hc2];refine ⟨i+1,out++ [c],.ptr bs.length 0,⟨hi',by omega,by simp;omega,.inr rfl⟩,by omega,?_⟩;simp
  ·obtain ⟨q1,q2,q3,q4,q5⟩:=(di (s.drop i)).resolve_left (fun h=>hp (by rw [h]));have hc:s.getD i 0=91:=by rw [hd] at q5;simpa using q5
   have hu:=EC (s.drop i);rw [hd,hc,oQ,←hc,←hd] at hu;unfold ot at hu
   have hi':bw nm s=out++nm (ak (s.drop i)).1++bw nm (s.drop (i+(ak (s.drop i)).2.toNat)):=by rw [hi,j7 nm _ hp,List.drop_drop,List.append_assoc]
   have hw:ar cfg f [.int .i64 (ak (s.drop i)).1,.ptr j 0] (bk bs a out)=some (.str (nm (ak (s.drop i)).1),bk bs a out):=hf _ _;have hnx:=hnm (ak (s.drop i)).1;have hws:=gG hbl (nm (ak (s.drop i)).1) (by omega) (by omega);rw [iK] at hws;obtain ⟨n,hn⟩: ∃n:Nat,(ak (s.drop i)).2=n:=⟨(ak (s.drop i)).2.toNat,by omega⟩;rw [hn] at hu hi' q3 q4;rw [Int.toNat_natCast] at hi';have q4':i+n≤s.length:=by simp at q4;omega
   have q3':0<n:=by omega
   generalize nm (ak (s.drop i)).1=x at*
   generalize (ak (s.drop i)).1=p1 at*
   rw [hc] at hg;have hk2:=hBl a out;have hk3:=hBl (.ptr bs.length 0) (out++x);generalize bk bs a out=B at*
   clear hd hp hc hi hf hbl hwb q1 q2 q3 q4 q5 hn;simp (maxSteps:=9^9) (disch:=omega) [-List.map_replicate,-List.map_set,-List.getD_eq_getElem?_getD,-getElem?_pos,-getElem?_neg,om,h1,hg,aj,hu,hw,hws,hk2,hk3,q3',n1,n2,n3,n4];refine ⟨i+n,out++x,.ptr bs.length 0,⟨hi',by omega,by simp;omega,.inr rfl⟩,by omega,?_⟩;simp
 ·rw [List.drop_eq_nil_of_le (by omega),jB,List.append_nil] at hi;rw [hi];have hfin:(bk bs a out).take bs.length=bs:=by unfold bk;exact List.take_left' rfl
  by_cases h0:out= []
  ·subst h0;have hst:=sC hbl;have hfs:((bk bs a []).set (bs.length+1) (.sl ⟨false,none,none⟩ 1 [])).take bs.length=bs:=by unfold bk;rw [cK];exact List.take_left' rfl
   have hk2:=hBl a [];generalize bk bs a []=B at*
   simp (maxSteps:=9^9) (disch:=omega) [-List.map_replicate,-List.map_set,-List.getD_eq_getElem?_getD,-getElem?_pos,-getElem?_neg,om,h1,hst,hfs,hm,hk2]
  ·have hst:=oO hbl (by omega) h0;have hfs:((bk bs a out).set (bs.length+1) (.sl ⟨false,none,none⟩ 1 (out.map aj))).take bs.length=bs:=by unfold bk;rw [cK];exact List.take_left' rfl
   have hk2:=hBl a out;generalize bk bs a out=B at*
   simp (maxSteps:=9^9) (disch:=omega) [-List.map_replicate,-List.map_set,-List.getD_eq_getElem?_getD,-getElem?_pos,-getElem?_neg,om,h1,hst,hfs,hm,hk2]
end Go.Proofs.YtfnkchadeaedlaaGreatDoor
namespace Go.Proofs.YtfnkchadeaedlaaGreatDoor
open Go.Am
set_option maxRecDepth 10000
set_option maxHeartbeats 4000000
theorem sD (s:af) (h:s.length<1000000):ar cfg 65 [.str s,.str [46]] []=some (.int .i64 (ba s), []):=by refine ab RN L8 ?_;simp (maxSteps:=9^9) (disch:=omega) [-List.map_replicate,-List.map_set,-List.getD_eq_getElem?_getD,-getElem?_pos,-getElem?_neg,om,Nu,yD,ba,Lib.countByte]
theorem Hw (c:Ct) (hc:c.ok) (hb: ∀s∈c.ag,s.mark.length<1000000∧s.title.length<1000000) (u:Int) (j:Nat) (B:List ad) (hj:ad.at B j= .var 26 (bU c)):
  ar cfg 111 [.int .i64 u,.ptr j 0] B=some (.str (cL c.ag u),B):=by
 refine ab RO Nv ?_;have h:=Ab c hc u hb;unfold aO bU at h;simp (maxSteps:=9^9) (disch:=omega) [-List.map_replicate,-List.map_set,-List.getD_eq_getElem?_getD,-getElem?_pos,-getElem?_neg,om,L9,hj,h,bU]
def ie (n:Nd):AV:= .agg [.int .i64 n.depth,.str n.tag,.str n.text]
def cp (s:pO):AV:= .agg [.int .i64 s.unit,.str s.num,.ah none 3 (s.nodes.map ie)]
theorem ri (order:List af): ∀(r:List Fc) (cur:Fc),(fB order cur r).length≤r.length+1
 | [],cur=>by simp [fB]
 | f::r,cur=>by
  have h1:=ri order r f;have h2:=ri order r cur;rw [um];split
  ·simp only [List.length_cons];omega
  ·split <;> simp only [List.length_cons] <;> omega
theorem gH (order:List af): ∀l:List Fc,(aC order l).length≤l.length
 | []=>Nat.le_refl _
 | f::r=>ri order r f
theorem mi {nm:Int→af} (h: ∀u,(nm u).length≤1000): ∀s:af,(bw nm s).length≤1000*s.length:=by
 suffices H: ∀(n:Nat) (s:af),s.length≤n→(bw nm s).length≤1000*s.length from fun s=>H _ s (Nat.le_refl _)
 intro n
 induction n with
 | zero=>intro s hs;have:s= []:=List.length_eq_zero_iff.mp (by omega);subst this;simp [jB]
 | succ n ih=>
  intro s hs;cases s with
  | nil=>simp [jB]
  | cons c r=>
   by_cases hp:(ak (c::r)).2=0
   ·rw [lp nm _ _ hp];have:=ih r (by simp at hs;omega);simp only [List.length_cons];omega
   ·obtain ⟨q1,q2,q3,q4,q5⟩:=(di (c::r)).resolve_left (fun h=>hp (by rw [h]));rw [j7 nm _ hp];have h1:=h (ak (c::r)).1;have h2:=ih ((c::r).drop (ak (c::r)).2.toNat) (by simp at hs⊢;omega);simp only [List.length_append,List.length_drop] at h2⊢;omega
theorem CR (c:Ct) (hc:c.ok) (hb: ∀s∈c.ag,s.mark.length<1000000∧s.title.length<1000000) (hcl: ∀u,(cL c.ag u).length≤1000) (x:Sh) (num:af) (hnl:num.length<10000) (hxo:x.ok) (hxl:1≤x.level∧x.level≤4)
  (hxt:x.title.length<10000) (on:Option Bool) (order:List af) (ho:order.length<1000000) (hnb: ∀el,-9223372036854775808≤el→el≤9223372036854775807→(gF order c.aq el (cV Lib.itoa el)).length≤10000000) (hft: ∀f∈x.facts,f.text.length≤10000∧ -9223372036854775808≤f.el∧f.el≤9223372036854775807):
  ar cfg 62 [aO c,aI x,.str num,.ah on 1 (ao order)] []=some (cp (fg Lib.itoa order c (x,num)), []):=by
 refine ab Vv RP ?_;have hcnt:=sD num (by omega);have hch:=uo x.fn x.fz x.facts hxo.fz hxo.fl on order ho;have hsx:aI x= .agg [.int .i64 x.unit,.int .i64 x.par,.int .i64 x.level,.str x.mark,.str x.title,.ah x.fn x.fz (x.facts.map cU)]:=rfl
 have hlev:([.str [],.str [102,111,110,100,115],.str [115,101,114,105,101,115],.str [102,105,108,101],.str [105,116,101,109]]:List AV)[x.level.toNat]?=some (.str (dD x.level)):=by
  have:x.level=1∨x.level=2∨x.level=3∨x.level=4:=by omega
  rcases this with h | h | h | h <;> rw [h] <;> rfl
 have hxl2:x.level.toNat<5:=by omega
 rw [hsx];have hsecN:(fg Lib.itoa order c (x,num)).nodes=⟨ba num,dD x.level,num++32::x.title⟩::(mm (ba num+1) x++(aC order x.facts).map (Ag Lib.itoa order c (ba num+1))):=by simp [fg]
 have hse:cp (fg Lib.itoa order c (x,num))= .agg [.int .i64 x.unit,.str num,.ah none 3 ((fg Lib.itoa order c (x,num)).nodes.map ie)]:=rfl;rw [hse,hsecN];have hs1:=fun u B hj=>Hw c hc hb u 0 B hj;have hnm: ∀el,-9223372036854775808≤el→el≤9223372036854775807→ar cfg 113 [aO c,.int .i64 el,.ah on 1 (ao order)] []=some (.str (gF order c.aq el (cV Lib.itoa el)), []):=fun el h0 h9=>Aa c hc el h0 h9 on order ho;unfold aO bU at*
 generalize ao c.aa=L1 at*
 generalize c.aq.map bF=L2 at*
 generalize c.ag.map aI=L3 at*
 generalize ao order=OA at*
 generalize x.facts.map cU=FA at*
 generalize hCA:(aC order x.facts).map cU=CA at*
 have hCl:CA.length=(aC order x.facts).length:=by rw [←hCA];simp
 clear hsx;have hdl:ba num≤num.length:=List.count_le_length;have hw:IntKind.i64.wrap ((ba num:Int)+1)=ba num+1:=wrap_i64 (by omega) (by omega);have hCHl:(aC order x.facts).length≤1000000:=Nat.le_trans (gH order x.facts) (by have:=hxo.fl;omega)
 have hCHm: ∀i (h:i<(aC order x.facts).length),CA[i]?=some (.agg [.int .i64 (aC order x.facts)[i].el,.str (aC order x.facts)[i].lang,.str (aC order x.facts)[i].text])∧(aC order x.facts)[i].text.length≤10000∧ -9223372036854775808≤(aC order x.facts)[i].el∧(aC order x.facts)[i].el≤9223372036854775807:=fun i h=>by
  obtain ⟨h1,h2,h3⟩:=hft _ (fC (List.getElem_mem h));refine ⟨?_,h1,h2,h3⟩;rw [←hCA];exact get_map _ _ h
 have hexp: ∀(t:af) (R:List ad),t.length≤10000→shut (R.length+1) R=true→ar cfg 110 [.str t,.fn 111 [] [.ptr 0 0]] (.var 26 [.ah c.ln c.lz L1,.ah c.bn c.bz L2,.ah c.sn c.sz L3]::R)=some (.str (bw (cL c.ag) t),.var 26 [.ah c.ln c.lz L1,.ah c.bn c.bz L2,.ah c.sn c.sz L3]::R):=fun t R ht hR=>by
  refine FH 111 ⟨rfl,rfl,rfl,rfl⟩ 0 _ (by simpa [shut,aw,AV.under] using hR) (by simp) (cL c.ag) (fun u J=>hs1 u _ ?_) (fun u=>hcl u) t ht;simp [ad.at]
 generalize hCH:aC order x.facts=CH at*
 have hNFl:(ie ⟨ba num,dD x.level,num++32::x.title⟩)= .agg [.int .i64 (ba num),.str (dD x.level),.str (num++32::x.title)]:=rfl;generalize hFNd:Ag Lib.itoa order c ((ba num:Int)+1)=FN at*
 generalize hNF:(⟨ba num,dD x.level,num++32::x.title⟩::(mm (ba num+1) x++CH.map FN):List Nd)=NF at*
 by_cases hmk:x.mark= []
 ·rw [hmk];simp (maxSteps:=9^9) (disch:=omega) [-List.map_replicate,-List.map_set,-List.getD_eq_getElem?_getD,-getElem?_pos,-getElem?_neg,om,Nw,hcnt,hch,ae,hlev,hxl2,hCl]
  refine Wp.aA (fun (a:Nat×List Nd)=>CH.length-a.1) (fun a=> [none,none,none,some (.ah on 1 OA),some (.ptr 0 0),none,some (.ptr 2 0),some (.int .i64 (ba num)),none,some (.ptr 6 0),none,none,none,none,none,none,none,none,none,none,none,none,none,some (.ah none 3 CA),some (.int .i64 CH.length),some (.int .i64 a.1),none,none,none,none,none,none,none,none,none,none]) (fun a=> [.var 26 [.ah c.ln c.lz L1,.ah c.bn c.bz L2,.ah c.sn c.sz L3],.var 73 [.int .i64 x.unit,.int .i64 x.par,.int .i64 x.level,.str [],.str x.title,.ah x.fn x.fz FA],.var 46 [.int .i64 0,.str [],.ay 3 0],.sl ⟨false,some 75,none⟩ 3 [],.var 141 [.str [],.str [102,111,110,100,115],.str [115,101,114,105,101,115],.str [102,105,108,101],.str [105,116,101,109]],.sl ⟨false,some 75,none⟩ 3 (a.2.map ie),.var 46 [.int .i64 x.unit,.str num,.ay 5 a.2.length]])
   (fun a=>NF=a.2++(CH.drop a.1).map FN∧a.1≤CH.length∧a.2.length≤a.1+2) ?_ (0, [⟨ba num,dD x.level,num++32::x.title⟩]) ⟨by simp [←hNF,mm,hmk],by simp,by simp⟩ (by simp) (by simp [ie])
  rintro ⟨i,N⟩ ⟨hi,hil,hNl⟩;simp only at hi hil hNl⊢;rw [hi];by_cases h1:i<CH.length
  ·obtain ⟨hg,ht,hel1,hel2⟩:=hCHm i h1;have hn:=hnm CH[i].el hel1 hel2;have hx:=hexp CH[i].text [.var 73 [.int .i64 x.unit,.int .i64 x.par,.int .i64 x.level,.str [],.str x.title,.ah x.fn x.fz FA],.var 46 [.int .i64 0,.str [],.ay 3 0],.sl ⟨false,some 75,none⟩ 3 [],.var 141 [.str [],.str [102,111,110,100,115],.str [115,101,114,105,101,115],.str [102,105,108,101],.str [105,116,101,109]],.sl ⟨false,some 75,none⟩ 3 (N.map ie),.var 46 [.int .i64 x.unit,.str num,.ay 5 N.length],.var 79 [.int .i64 CH[i].el,.str CH[i].lang,.str CH[i].text]] ht (by simp [shut,aw,AV.under,cM]);rw [List.drop_eq_getElem_cons h1,List.map_cons] at hi⊢;have hFN:FN CH[i]=⟨(ba num:Int)+1, [112],gF order c.aq CH[i].el (cV Lib.itoa CH[i].el)++58::32::bw (cL c.ag) CH[i].text⟩:=by rw [←hFNd];simp [Ag]
   have hNd:FN CH[i]::(CH.drop (i+1)).map FN= [FN CH[i]]++(CH.drop (i+1)).map FN:=rfl;have hNm:(N.map ie).length=N.length:=by simp
   have hxtl:=mi hcl CH[i].text;have hnml:=hnb CH[i].el hel1 hel2;generalize CH[i]=f at*
   generalize gF order c.aq f.el (cV Lib.itoa f.el)=nm at*
   generalize bw (cL c.ag) f.text=xt at*
   clear hCHm hexp hnm hs1 hi hsecN hlev hb hcl hft hch hNF hnb;simp (maxSteps:=9^9) (disch:=omega) [-List.map_replicate,-List.map_set,-List.getD_eq_getElem?_getD,-getElem?_pos,-getElem?_neg,om,h1,hg,ae,hn,hx,hw,hNm];refine ⟨i+1,N++ [FN f],⟨by simp,by omega,by simp;omega⟩,by omega,?_⟩;exact ⟨by omega,by simp [ie,hFN],by simp⟩
  ·rw [List.drop_eq_nil_of_le (by omega),List.map_nil,List.append_nil] at hi⊢;simp (maxSteps:=9^9) (disch:=omega) [-List.map_replicate,-List.map_set,-List.getD_eq_getElem?_getD,-getElem?_pos,-getElem?_neg,om,h1,ae]
 ·simp (maxSteps:=9^9) (disch:=omega) [-List.map_replicate,-List.map_set,-List.getD_eq_getElem?_getD,-getElem?_pos,-getElem?_neg,om,Nw,hcnt,hch,ae,hlev,hxl2,hCl,hmk,hw]
  refine Wp.aA (fun (a:Nat×List Nd)=>CH.length-a.1) (fun a=> [none,none,none,some (.ah on 1 OA),some (.ptr 0 0),none,some (.ptr 2 0),some (.int .i64 (ba num)),none,some (.ptr 6 0),none,none,none,none,none,none,none,none,none,none,none,none,none,some (.ah none 3 CA),some (.int .i64 CH.length),some (.int .i64 a.1),none,none,none,none,none,none,none,none,none,none]) (fun a=> [.var 26 [.ah c.ln c.lz L1,.ah c.bn c.bz L2,.ah c.sn c.sz L3],.var 73 [.int .i64 x.unit,.int .i64 x.par,.int .i64 x.level,.str x.mark,.str x.title,.ah x.fn x.fz FA],.var 46 [.int .i64 0,.str [],.ay 3 0],.sl ⟨false,some 75,none⟩ 3 [],.var 141 [.str [],.str [102,111,110,100,115],.str [115,101,114,105,101,115],.str [102,105,108,101],.str [105,116,101,109]],.sl ⟨false,some 75,none⟩ 3 (a.2.map ie),.var 46 [.int .i64 x.unit,.str num,.ay 5 a.2.length],.sl ⟨false,some 75,none⟩ 3 [.agg [.int .i64 ((ba num:Int)+1),.str [109,97,114,107],.str x.mark]],.dead])
   (fun a=>NF=a.2++(CH.drop a.1).map FN∧a.1≤CH.length∧a.2.length≤a.1+2) ?_ (0, [⟨ba num,dD x.level,num++32::x.title⟩,⟨(ba num:Int)+1, [109,97,114,107],x.mark⟩]) ⟨by simp [←hNF,mm,hmk],by simp,by simp⟩ (by simp) (by simp [ie])
  rintro ⟨i,N⟩ ⟨hi,hil,hNl⟩;simp only at hi hil hNl⊢;rw [hi];by_cases h1:i<CH.length
  ·obtain ⟨hg,ht,hel1,hel2⟩:=hCHm i h1;have hn:=hnm CH[i].el hel1 hel2;have hx:=hexp CH[i].text [.var 73 [.int .i64 x.unit,.int .i64 x.par,.int .i64 x.level,.str x.mark,.str x.title,.ah x.fn x.fz FA],.var 46 [.int .i64 0,.str [],.ay 3 0],.sl ⟨false,some 75,none⟩ 3 [],.var 141 [.str [],.str [102,111,110,100,115],.str [115,101,114,105,101,115],.str [102,105,108,101],.str [105,116,101,109]],.sl ⟨false,some 75,none⟩ 3 (N.map ie),.var 46 [.int .i64 x.unit,.str num,.ay 5 N.length],.sl ⟨false,some 75,none⟩ 3 [.agg [.int .i64 ((ba num:Int)+1),.str [109,97,114,107],.str x.mark]],.dead,.var 79 [.int .i64 CH[i].el,.str CH[i].lang,.str CH[i].text]] ht (by simp [shut,aw,AV.under,cM]);rw [List.drop_eq_getElem_cons h1,List.map_cons] at hi⊢;have hFN:FN CH[i]=⟨(ba num:Int)+1, [112],gF order c.aq CH[i].el (cV Lib.itoa CH[i].el)++58::32::bw (cL c.ag) CH[i].text⟩:=by rw [←hFNd];simp [Ag]
   have hNd:FN CH[i]::(CH.drop (i+1)).map FN= [FN CH[i]]++(CH.drop (i+1)).map FN:=rfl;have hNm:(N.map ie).length=N.length:=by simp
   have hxtl:=mi hcl CH[i].text;have hnml:=hnb CH[i].el hel1 hel2;generalize CH[i]=f at*
   generalize gF order c.aq f.el (cV Lib.itoa f.el)=nm at*
   generalize bw (cL c.ag) f.text=xt at*
   clear hCHm hexp hnm hs1 hi hsecN hlev hb hcl hft hch hNF hnb;simp (maxSteps:=9^9) (disch:=omega) [-List.map_replicate,-List.map_set,-List.getD_eq_getElem?_getD,-getElem?_pos,-getElem?_neg,om,h1,hg,ae,hn,hx,hw,hNm];refine ⟨i+1,N++ [FN f],⟨by simp,by omega,by simp;omega⟩,by omega,?_⟩;exact ⟨by omega,by simp [ie,hFN],by simp⟩
  ·rw [List.drop_eq_nil_of_le (by omega),List.map_nil,List.append_nil] at hi⊢;simp (maxSteps:=9^9) (disch:=omega) [-List.map_replicate,-List.map_set,-List.getD_eq_getElem?_getD,-getElem?_pos,-getElem?_neg,om,h1,ae]
end Go.Proofs.YtfnkchadeaedlaaGreatDoor
namespace Go.Proofs.YtfnkchadeaedlaaGreatDoor
open Go.Am
set_option maxRecDepth 10000
set_option maxHeartbeats 4000000
section
variable {α:Type}
def jw (vf:α→AV) (e:Int×α×Nat):AV×AV×Nat:=(.int .i64 e.1,vf e.2.1,e.2.2)
def gk (u:Int):List (Int×α×Nat)→Nat→Option (Nat×Int×α×Nat)
 | [],_=>none
 | e::r,i=>if e.1=u then some (i,e) else gk u r (i+1)
theorem pP (vf:α→AV) (u:Int): ∀(m:List (Int×α×Nat)) (i:Nat),jC (bO cfg 20 3) (.int .i64 u) (m.map (jw vf)) i=some ((gk u m i).map fun p=>(p.1,jw vf p.2))
 | [],i=>rfl
 | e::r,i=>by
  have ih:=pP vf u r (i+1);have he:bO cfg 20 3 (.int .i64 u) (jw vf e).1=some (u==e.1):=by simp (config:={maxSteps:=1000000}) (disch:=omega) [-List.map_replicate,-List.map_set,-List.getD_eq_getElem?_getD,-getElem?_pos,-getElem?_neg,wrap_i64,ny,jD,jE,iv,jw]
  simp only [List.map_cons,jC,he,gk];by_cases hs:e.1=u
  ·simp [hs]
  ·have hs2:(u==e.1)=false:=by simpa using fun h=>hs h.symm
   simp only [hs2,if_neg hs];exact ih
def bH (m:List (Int×α×Nat)):List (Int×α):=m.map fun e=>(e.1,e.2.1)
theorem oR (u:Int): ∀(m:List (Int×α×Nat)) (i:Nat),(gk u m i).map (fun p=>p.2.2.1)=cW (bH m) u
 | [],i=>rfl
 | e::r,i=>by
  have ih:=oR u r (i+1);simp only [gk,bH,List.map_cons,cW];by_cases hs:e.1=u
  ·simp [hs]
  ·rw [if_neg hs,if_neg hs];exact ih
theorem lq (u:Int): ∀(m:List (Int×α×Nat)) (i j:Nat) (e:Int×α×Nat),gk u m i=some (j,e)→i≤j∧m[j-i]?=some e∧e.1=u
 | [],i,j,e,h=>by cases h
 | x::r,i,j,e,h=>by
  simp only [gk] at h;split at h
  ·rename_i hs;cases h;exact ⟨Nat.le_refl _,by simp,hs⟩
  ·obtain ⟨h1,h2,h3⟩:=lq u r (i+1) j e h;refine ⟨by omega,?_,h3⟩;rw [show j-i=(j-(i+1))+1 by omega];simpa using h2
def pQ (m:List (Int×α×Nat)) (clock:Nat) (u:Int) (v:α):List (Int×α×Nat):=match gk u m 0 with
 | some (j,e)=>m.set j (u,v,e.2.2)
 | none=>m++ [(u,v,clock)]
def l5 (m:List (Int×α×Nat)) (clock:Nat) (u:Int):Nat:=match gk u m 0 with
 | some _=>clock
 | none=>clock+1
theorem ED (u:Int) (v:α): ∀(m:List (Int×α×Nat)) (i j:Nat) (e:Int×α×Nat),gk u m i=some (j,e)→jx (bH m) u v=bH (m.set (j-i) (u,v,e.2.2))
 | [],i,j,e,h=>by cases h
 | x::r,i,j,e,h=>by
  simp only [gk] at h;split at h
  ·rename_i hs;cases h;simp [bH,jx,hs]
  ·rename_i hs;obtain ⟨h1,_,_⟩:=lq u r (i+1) j e h;have ih:=ED u v r (i+1) j e h;rw [show j-i=(j-(i+1))+1 by omega,List.set_cons_succ];simp only [bH,List.map_cons,jx,if_neg hs] at ih⊢;rw [ih]
theorem Ah (u:Int) (v:α) (c:Nat): ∀(m:List (Int×α×Nat)) (i:Nat),gk u m i=none→jx (bH m) u v=bH (m++ [(u,v,c)])
 | [],i,_=>rfl
 | x::r,i,h=>by
  simp only [gk] at h;split at h
  ·cases h
  ·rename_i hs;have ih:=Ah u v c r (i+1) h;simp only [bH,List.map_cons,List.cons_append,jx,if_neg hs] at ih⊢;rw [ih]
theorem fh (m:List (Int×α×Nat)) (clock:Nat) (u:Int) (v:α):bH (pQ m clock u v)=jx (bH m) u v:=by
 unfold pQ;cases h:gk u m 0 with
 | none=>exact (Ah u v clock m 0 h).symm
 | some p=>obtain ⟨j,e⟩:=p;have:=ED u v m 0 j e h;simp only [Nat.sub_zero] at this;exact this.symm
end
end Go.Proofs.YtfnkchadeaedlaaGreatDoor
namespace Go.Proofs.YtfnkchadeaedlaaGreatDoor
open Go.Am
set_option maxRecDepth 10000
set_option maxHeartbeats 4000000
theorem oS {α:Type} (u:Int) (v:α) (m:List (Int×α)):cW (jx m u v) u=some v:=by rw [gI,if_pos rfl]
def CS (m:List (Int×af)) (u:Int):AV:=match cW m u with
 | some v=> .aT [.str v,.bool true]
 | none=> .aT [.str [],.bool false]
def iA (n:Int):AV:= .int .i64 n
theorem J4 {bs:List ad} {k clock:Nat} {m:List (Int×af×Nat)} (h:ad.at bs k= .mp (m.map (jw .str)) clock) (u:Int):dW cfg (cfg.ti 139) (.cF k) (.int .i64 u) true bs=some (CS (bH m) u,.none):=by
 have hf:=pP .str u m 0;have hl:=oR u m 0;unfold CS;rw [←hl];cases hq:gk u m 0 with
 | none=>rw [hq] at hf;simp [dW,fR,rj,pR,cN,h,hf,-bO]
 | some p=>rw [hq] at hf;simp [dW,fR,rj,pR,cN,h,hf,-bO,jw]
theorem J5 {bs:List ad} {k clock:Nat} {m:List (Int×Int×Nat)} (h:ad.at bs k= .mp (m.map (jw iA)) clock) (u:Int):dW cfg (cfg.ti 140) (.cF k) (.int .i64 u) false bs=some (.int .i64 ((cW (bH m) u).getD 0),.none):=by
 have hf:=pP iA u m 0;have hl:=oR u m 0;rw [←hl];cases hq:gk u m 0 with
 | none=>rw [hq] at hf;simp [dW,fR,rj,pR,cN,h,hf,-bO]
 | some p=>rw [hq] at hf;simp [dW,fR,rj,pR,cN,h,hf,-bO,jw,iA]
theorem sE {α:Type} (vf:α→AV) (m:List (Int×α×Nat)) (j:Nat) (e:Int×α×Nat):(m.set j e).map (jw vf)=(m.map (jw vf)).set j (jw vf e):=by simp [List.map_set]
theorem Nx {bs:List ad} {k clock:Nat} {m:List (Int×af×Nat)} (h:ad.at bs k= .mp (m.map (jw .str)) clock) (u:Int) (v:af):aX cfg (cfg.ti 139) (.cF k) (.int .i64 u) (.str v) bs=some (.aT [],.ig k (.mp ((pQ m clock u v).map (jw .str)) (l5 m clock u))):=by
 have hf:=pP .str u m 0;unfold pQ l5;cases hq:gk u m 0 with
 | none=>rw [hq] at hf;simp [aX,cN,gJ,gq,ij,h,hf,-bO,jw]
 | some p=>obtain ⟨j,e⟩:=p;obtain ⟨_,_,he⟩:=lq u m 0 j e hq;rw [hq] at hf;simp [aX,cN,gJ,gq,ij,h,hf,-bO,jw,sameKey,iX,he,sE,-List.map_set]
theorem Ny {bs:List ad} {k clock:Nat} {m:List (Int×Int×Nat)} (h:ad.at bs k= .mp (m.map (jw iA)) clock) (u:Int) (v:Int):aX cfg (cfg.ti 140) (.cF k) (.int .i64 u) (.int .i64 v) bs=some (.aT [],.ig k (.mp ((pQ m clock u v).map (jw iA)) (l5 m clock u))):=by
 have hf:=pP iA u m 0;unfold pQ l5;cases hq:gk u m 0 with
 | none=>rw [hq] at hf;simp [aX,cN,gJ,gq,ij,h,hf,-bO,jw,iA]
 | some p=>obtain ⟨j,e⟩:=p;obtain ⟨_,_,he⟩:=lq u m 0 j e hq;rw [hq] at hf;simp [aX,cN,gJ,gq,ij,h,hf,-bO,jw,iA,sameKey,iX,he,sE,-List.map_set]
theorem Nz {C:List ad} {n:Nat} (h:C.length=n):(∀l,(C++l)[n]?=l[0]?)∧(∀l,(C++l)[n+1]?=l[1]?)∧(∀l,(C++l)[n+1+1]?=l[2]?)∧(∀l,(C++l)[n+1+1+1]?=l[3]?)
  ∧(∀l X,(C++l).set n X=C++l.set 0 X)∧(∀l X,(C++l).set (n+1) X=C++l.set 1 X)∧(∀l X,(C++l).set (n+1+1) X=C++l.set 2 X)∧(∀l X,(C++l).set (n+1+1+1) X=C++l.set 3 X)
  ∧(∀l,ad.at (C++l) n=ad.at l 0)∧(∀l,ad.at (C++l) (n+1)=ad.at l 1)∧(∀l,ad.at (C++l) (n+1+1)=ad.at l 2)∧(∀l,ad.at (C++l) (n+1+1+1)=ad.at l 3)∧(∀l,(C++l).take n=C):=by
 subst h
 exact ⟨fun l=>by simpa using dH C l 0,fun l=>dH C l 1,fun l=>dH C l 2,fun l=>dH C l 3,
  fun l X=>by simpa using cK C l 0 X,fun l X=>cK C l 1 X,fun l X=>cK C l 2 X,fun l X=>cK C l 3 X,
  fun l=>by simpa using ej C l 0,fun l=>ej C l 1,fun l=>ej C l 2,fun l=>ej C l 3,fun l=>List.take_left' rfl⟩
theorem EF {C:List ad} {n:Nat} (h:C.length=n) (l:List ad):(C++l).take (n+3)=C++l.take 3:=by subst h;rw [List.take_append,List.take_of_length_le (by omega)];simp
theorem yE (n:Nat):eu n∘jw AV.str=jw AV.str:=by funext e;simp [eu,jw,forget,AV.under]
theorem yF (n:Nat):eu n∘jw iA=jw iA:=by funext e;simp [eu,jw,iA,forget,AV.under]
theorem J6 (n:Nat) (m:List (Int×af×Nat)):dX n (m.map (jw .str))=true:=by
 induction m with
 | nil=>rfl
 | cons e r ih=>simp [dX,jw,AV.under] at ih⊢;try exact ih
theorem J7 (n:Nat) (m:List (Int×Int×Nat)):dX n (m.map (jw iA))=true:=by
 induction m with
 | nil=>rfl
 | cons e r ih=>simp [dX,jw,iA,AV.under] at ih⊢;try exact ih
theorem sF {σ:Type} (K:σ→List ad) (stp:σ→Sh×af→σ) (Inv:Nat→σ→Prop) (n0:Nat) (hKl: ∀st,(K st).length=n0) (hKs: ∀st,shut n0 (K st)=true)
  (f:FuncId) (hns:wX f) (caps:List AV) (c:Ct) (hc:c.ok) (hlen:c.ag.length≤400)
  (hcu: ∀n,n0≤n→aw n caps=true) (hcL: ∀B,dq B caps=some caps) (hcP:al caps=false)
  (hf: ∀i st s n J,i<c.ag.length→Inv i st→s∈c.ag→n.length<10000→shut (n0+J.length) J=true→ar cfg f (aI s:: .str n::caps) (K st++J)=some (.aT [],K (stp st (s,n))++J)∧Inv (i+1) (stp st (s,n)))
  (hInv: ∀i st,Inv i st→Inv (i+1) st) (root:Int) (st0:σ) (h0:Inv 0 st0):
  ar cfg 60 [aO c,.int .i64 root,.fn f [] caps] (K st0)=some (.aT [],K ((dj Lib.itoa root ⟨[], []⟩ c.ag).foldl stp st0)):=by
 refine ab Vw RQ ?_;obtain ⟨n1,n2,n3,n4⟩:=hns;simp only [exts,re,FC,iV] at n1 n2 n3 n4;have hE: ∀k (h:k<c.ag.length),(c.ag.map aI)[k]?=some (aI c.ag[k]):=fun k h=>get_map _ _ h;have hEl:(c.ag.map aI).length=c.ag.length:=by simp
 have hcsz:=hc.sz;unfold aO bU;generalize ao c.aa=L1 at*
 generalize c.aq.map bF=L2 at*
 generalize c.ag.map aI=L3 at*
 generalize c.sz=sz at*
 generalize c.ag=l at*
 have hk0:=hKl st0;have e1:n0+1-n0=1:=by omega
 have e2:n0+1+1-n0=2:=by omega
 have e3:n0+1+1+1-n0=3:=by omega
 obtain ⟨g0,g1,g2,g3,s0,s1,s2,s3,b0,b1,b2,b3,tk⟩:=Nz hk0;simp (maxSteps:=9^9) (disch:=omega) [-List.map_replicate,-List.map_set,-List.getD_eq_getElem?_getD,-getElem?_pos,-getElem?_neg,om,RS,ae,hEl,hk0,g0,g1,g2,g3,s0,s1,s2,s3,b0,b1,b2,b3,tk,kC,e1,e2,e3];clear g0 g1 g2 g3 s0 s1 s2 s3 b0 b1 b2 b3 tk hk0
 refine Wp.aA (fun (a:Nat×σ×(List (Int×af×Nat)×Nat)×(List (Int×Int×Nat)×Nat))=>l.length-a.1) (fun a=> [none,some (.int .i64 root),some (.fn f [] caps),none,some (.cF (n0+1)),some (.cF (n0+1+1)),none,none,none,none,none,none,none,some (.ah c.sn sz L3),some (.int .i64 l.length),some (.int .i64 a.1),none,none,none,none,none,none,none,none,none,none,none,none])
  (fun a=>K a.2.1++ [.var 26 [.ah c.ln c.lz L1,.ah c.bn c.bz L2,.ah c.sn sz L3],.mp (a.2.2.1.1.map (jw .str)) a.2.2.1.2,.mp (a.2.2.2.1.map (jw iA)) a.2.2.2.2])
  (fun a=>(dj Lib.itoa root ⟨[], []⟩ l).foldl stp st0=(dj Lib.itoa root ⟨bH a.2.2.1.1,bH a.2.2.2.1⟩ (l.drop a.1)).foldl stp a.2.1∧a.1≤l.length∧Inv a.1 a.2.1
   ∧(∀u v,cW (bH a.2.2.1.1) u=some v→v.length≤22*(a.1+1))∧(∀u,0≤(cW (bH a.2.2.2.1) u).getD 0∧(cW (bH a.2.2.2.1) u).getD 0≤a.1)) ?_ (0,st0,([],0),([],0)) ⟨rfl,by omega,h0,by simp [bH,cW],by simp [bH,cW]⟩ (by simp) (by simp)
 rintro ⟨i,st,⟨m,cm⟩,⟨q,cq⟩⟩ ⟨hi,hil,hI,hm,hq⟩;simp only at hi hil hI hm hq⊢;have hcu3:=hcu (n0+3) (by omega);have hks:=hKs st;have hkm:=shut_map (Nat.le_refl _) hks;obtain ⟨g0,g1,g2,g3,s0,s1,s2,s3,b0,b1,b2,b3,tk⟩:=Nz (hKl st);by_cases h1:i<l.length
 ·have hk1:=hKl st;have look1: ∀(m:List (Int×af×Nat)) cm b' l' u,dW cfg (cfg.ti 139) (.cF (n0+1)) (.int .i64 u) true (K st++(b':: .mp (m.map (jw .str)) cm::l'))=some (CS (bH m) u,.none):=fun m cm b' l' u=>J4 (by rw [b1];rfl) u;have look2: ∀(m:List (Int×Int×Nat)) cm b' b'' l' u,dW cfg (cfg.ti 140) (.cF (n0+1+1)) (.int .i64 u) false (K st++(b'::b'':: .mp (m.map (jw iA)) cm::l'))=some (.int .i64 ((cW (bH m) u).getD 0),.none):=fun m cm b' b'' l' u=>J5 (by rw [b2];rfl) u;have put1: ∀(m:List (Int×af×Nat)) cm b' l' u v,aX cfg (cfg.ti 139) (.cF (n0+1)) (.int .i64 u) (.str v) (K st++(b':: .mp (m.map (jw .str)) cm::l'))=some (.aT [],.ig (n0+1) (.mp ((pQ m cm u v).map (jw .str)) (l5 m cm u))):=fun m cm b' l' u v=>Nx (by rw [b1];rfl) u v;have eG: ∀(m:List (Int×Int×Nat)) cm b' b'' l' u v,aX cfg (cfg.ti 140) (.cF (n0+1+1)) (.int .i64 u) (.int .i64 v) (K st++(b'::b'':: .mp (m.map (jw iA)) cm::l'))=some (.aT [],.ig (n0+1+1) (.mp ((pQ m cm u v).map (jw iA)) (l5 m cm u))):=fun m cm b' b'' l' u v=>Ny (by rw [b2];rfl) u v;simp only [Ma,Mb] at look1 look2 put1 eG;have hg:=hE i h1;have hsm:l[i]∈l:=List.getElem_mem h1;have hcl:=fun n J hn hJ=>hf i st l[i] n J h1 hI hsm hn hJ;obtain rfl:=hcsz (ne_of_lt h1);rw [List.drop_eq_getElem_cons h1] at hi;simp only [dj] at hi;clear hE hf;generalize l[i]=s at*
  unfold aI at hg hcl;have b3': ∀l,ad.at (K st++l) (n0+3)=ad.at l 3:=b3;have g3': ∀l,(K st++l)[n0+3]?=l[3]?:=g3;have s3': ∀l X,(K st++l).set (n0+3) X=K st++l.set 3 X:=s3
  have hJ: ∀(m:List (Int×af×Nat)) (cm:Nat) (q:List (Int×Int×Nat)) (cq:Nat),shut (n0+4) [.var 26 [.ah c.ln c.lz L1,.ah c.bn c.bz L2,.ah c.sn 6 L3],.mp (m.map (jw .str)) cm,.mp (q.map (jw iA)) cq,.var 73 [.int .i64 s.unit,.int .i64 s.par,.int .i64 s.level,.str s.mark,.str s.title,.ah s.fn s.fz (s.facts.map cU)]]=true:=fun m cm q cq=>by
   simp [shut,aw,AV.under,J6,J7]
  by_cases hr:s.unit=root
  ·subst hr;have hst:dY Lib.itoa s.unit ⟨bH m,bH q⟩ s=⟨jx (bH m) s.unit [49],bH q⟩:=by unfold dY;rw [if_pos rfl]
   rw [hst] at hi;have hlk:cW (jx (bH m) s.unit [49]) s.unit=some [49]:=oS _ _ _;rw [hlk] at hi;simp only [List.foldl_cons] at hi;have hlk2:CS (jx (bH m) s.unit [49]) s.unit= .aT [.str [49],.bool true]:=by unfold CS;rw [hlk]
   obtain ⟨hc1,hc2⟩:=hcl [49] [.var 26 [.ah c.ln c.lz L1,.ah c.bn c.bz L2,.ah c.sn 6 L3],.mp ((pQ m cm s.unit [49]).map (jw .str)) (l5 m cm s.unit),.mp (q.map (jw iA)) cq,.var 73 [.int .i64 s.unit,.int .i64 s.par,.int .i64 s.level,.str s.mark,.str s.title,.ah s.fn s.fz (s.facts.map cU)]] (by simp) (hJ _ _ _ _);have hk2:=hKl (stp st (s, [49]));have tk3:=EF hk2;have hkm2:=shut_map (show n0≤n0+3 by omega) (hKs (stp st (s, [49])));simp (maxSteps:=9^9) (disch:=omega) [-List.map_replicate,-List.map_set,-List.getD_eq_getElem?_getD,-getElem?_pos,-getElem?_neg,om,h1,hg,ae,hk1,g0,g1,g2,g3,s0,s1,s2,s3,b0,b1,b2,b3,tk,e1,e2,e3,look1,look2,put1,eG,n1,n2,n3,n4,hcL,hcP,b3',g3',s3',fh,hlk2,hc1,hk2,tk3,hkm2,yE,yF,hcu3];refine ⟨i+1,stp st (s, [49]),pQ m cm s.unit [49],l5 m cm s.unit,q,⟨by rw [fh];exact hi,by omega,hc2,?_,?_⟩,by omega,by omega,cq,rfl⟩
   ·intro u v hv;rw [fh,gI] at hv;split at hv
    ·cases hv;simp;omega
    ·have:=hm u v hv;omega
   ·intro u;have:=hq u;omega
  ·cases hpar:cW (bH m) s.par with
   | none=>
    have hst:dY Lib.itoa root ⟨bH m,bH q⟩ s=⟨bH m,bH q⟩:=by unfold dY;rw [if_neg hr,hpar]
    rw [hst] at hi;have hlp:CS (bH m) s.par= .aT [.str [],.bool false]:=by unfold CS;rw [hpar]
    cases hun:cW (bH m) s.unit with
    | none=>
     rw [hun] at hi;have hlk2:CS (bH m) s.unit= .aT [.str [],.bool false]:=by unfold CS;rw [hun]
     have tk3:=EF hk1;have hkm2:=shut_map (show n0≤n0+3 by omega) hks;simp (maxSteps:=9^9) (disch:=omega) [-List.map_replicate,-List.map_set,-List.getD_eq_getElem?_getD,-getElem?_pos,-getElem?_neg,om,h1,hg,ae,hk1,g0,g1,g2,g3,s0,s1,s2,s3,b0,b1,b2,b3,tk,e1,e2,e3,look1,look2,put1,eG,n1,n2,n3,n4,hcL,hcP,b3',g3',s3',fh,yE,yF,hcu3,hr,hlk2,hlp,tk3,hkm2];refine ⟨i+1,st,m,cm,q,⟨hi,by omega,hInv _ _ hI,fun u v hv=>by have:=hm u v hv;omega,fun u=>by have:=hq u;omega⟩,by omega,by omega,cq,rfl⟩
    | some n=>
     rw [hun] at hi;simp only [List.foldl_cons] at hi;have hlk2:CS (bH m) s.unit= .aT [.str n,.bool true]:=by unfold CS;rw [hun]
     obtain ⟨hc1,hc2⟩:=hcl n [.var 26 [.ah c.ln c.lz L1,.ah c.bn c.bz L2,.ah c.sn 6 L3],.mp (m.map (jw .str)) cm,.mp (q.map (jw iA)) cq,.var 73 [.int .i64 s.unit,.int .i64 s.par,.int .i64 s.level,.str s.mark,.str s.title,.ah s.fn s.fz (s.facts.map cU)]] (by have:=hm _ _ hun;omega) (hJ _ _ _ _);have hk2:=hKl (stp st (s,n));have tk3:=EF hk2;have hkm2:=shut_map (show n0≤n0+3 by omega) (hKs (stp st (s,n)));simp (maxSteps:=9^9) (disch:=omega) [-List.map_replicate,-List.map_set,-List.getD_eq_getElem?_getD,-getElem?_pos,-getElem?_neg,om,h1,hg,ae,hk1,g0,g1,g2,g3,s0,s1,s2,s3,b0,b1,b2,b3,tk,e1,e2,e3,look1,look2,put1,eG,n1,n2,n3,n4,hcL,hcP,b3',g3',s3',fh,yE,yF,hcu3,hr,hlk2,hlp,hc1,hk2,tk3,hkm2];refine ⟨i+1,stp st (s,n),m,cm,q,⟨hi,by omega,hc2,fun u v hv=>by have:=hm u v hv;omega,fun u=>by have:=hq u;omega⟩,by omega,by omega,cq,rfl⟩
   | some above=>
    have hxq:=hq s.par;generalize hx:(cW (bH q) s.par).getD 0=x at*
    have hst:dY Lib.itoa root ⟨bH m,bH q⟩ s=⟨jx (bH m) s.unit (above++46::Lib.itoa (x+1)),jx (bH q) s.par (x+1)⟩:=by unfold dY;rw [if_neg hr,hpar];simp [hx]
    rw [hst] at hi;have hal:=hm _ _ hpar;have hit:(Lib.itoa (x+1)).length≤21:=Lib.itoa_length_le (x+1) (by omega) (by omega);have hlp:CS (bH m) s.par= .aT [.str above,.bool true]:=by unfold CS;rw [hpar]
    have hw:IntKind.i64.wrap (x+1)=x+1:=wrap_i64 (by omega) (by omega);have hk3:(cW (jx (bH q) s.par (x+1)) s.par).getD 0=x+1:=by rw [oS];rfl
    have hid1: -9223372036854775808≤x+1:=by omega
    have hid2:x+1≤9223372036854775807:=by omega
    have hlk:cW (jx (bH m) s.unit (above++46::Lib.itoa (x+1))) s.unit=some (above++46::Lib.itoa (x+1)):=oS _ _ _;rw [hlk] at hi;simp only [List.foldl_cons] at hi;have hlk2:CS (jx (bH m) s.unit (above++46::Lib.itoa (x+1))) s.unit= .aT [.str (above++46::Lib.itoa (x+1)),.bool true]:=by unfold CS;rw [hlk]
    generalize hit2:Lib.itoa (x+1)=it at*
    obtain ⟨hc1,hc2⟩:=hcl (above++46::it) [.var 26 [.ah c.ln c.lz L1,.ah c.bn c.bz L2,.ah c.sn 6 L3],.mp ((pQ m cm s.unit (above++46::it)).map (jw .str)) (l5 m cm s.unit),.mp ((pQ q cq s.par (x+1)).map (jw iA)) (l5 q cq s.par),.var 73 [.int .i64 s.unit,.int .i64 s.par,.int .i64 s.level,.str s.mark,.str s.title,.ah s.fn s.fz (s.facts.map cU)]] (by simp;omega) (hJ _ _ _ _);have hk2:=hKl (stp st (s,above++46::it));have tk3:=EF hk2;have hkm2:=shut_map (show n0≤n0+3 by omega) (hKs (stp st (s,above++46::it)));clear hlk hst;simp (maxSteps:=9^9) (disch:=omega) [-List.map_replicate,-List.map_set,-List.getD_eq_getElem?_getD,-getElem?_pos,-getElem?_neg,om,h1,hg,ae,hk1,g0,g1,g2,g3,s0,s1,s2,s3,b0,b1,b2,b3,tk,e1,e2,e3,look1,look2,put1,eG,n1,n2,n3,n4,hcL,hcP,b3',g3',s3',fh,yE,yF,hcu3,hr,hlk2,hlp,hx,hw,hk3,sB,hid1,hid2,hit2,hc1,hk2,tk3,hkm2];refine ⟨i+1,stp st (s,above++46::it),pQ m cm s.unit (above++46::it),l5 m cm s.unit,pQ q cq s.par (x+1),⟨by rw [fh,fh];exact hi,by omega,hc2,?_,?_⟩,by omega,by omega,l5 q cq s.par,rfl⟩
    ·intro u v hv;rw [fh,gI] at hv;split at hv
     ·cases hv;simp;omega
     ·have:=hm u v hv;omega
    ·intro u;rw [fh,gI];split
     ·simp;omega
     ·have:=hq u;omega
 ·rw [List.drop_eq_nil_of_le (by omega)] at hi;rw [show (dj Lib.itoa root ⟨bH m,bH q⟩ []).foldl stp st=st from rfl] at hi;rw [hi];have hk1:=hKl st;generalize K st=KS at*
  simp (maxSteps:=9^9) (disch:=omega) [-List.map_replicate,-List.map_set,-List.getD_eq_getElem?_getD,-getElem?_pos,-getElem?_neg,om,h1,tk,hkm,hk1]
end Go.Proofs.YtfnkchadeaedlaaGreatDoor
namespace Go.Proofs.YtfnkchadeaedlaaGreatDoor
open Go.Am
set_option maxRecDepth 10000
set_option maxHeartbeats 4000000
theorem sG (u:Int): ∀(l:List (Sh×af)) (st:af),l.foldl (fun st x=>if x.1.unit=u then x.2 else st) st=fb u st l
 | [],_=>rfl
 | x::r,st=>by
  rw [List.foldl_cons,sG u r,fb];split <;> rfl
def RT (c:Ct) (u:Int) (f:af):List ad:= [.var 26 (bU c),.var 3 [.int .i64 u],.var 9 [.str f]]
theorem J8 (c:Ct) (u:Int) (st:af) (s:Sh) (n:af) (J:List ad) (hJ:shut (3+J.length) J=true):
  ar cfg 77 (aI s:: .str n:: [.ptr 1 0,.ptr 2 0]) (RT c u st++J)=some (.aT [],RT c u (if s.unit=u then n else st)++J):=by
 refine ab Vx RU ?_;have hJm:=shut_map (show 3+J.length≤J.length+1+1+1 by omega) hJ;unfold aI RT bU;generalize ao c.aa=L1 at*
 generalize c.aq.map bF=L2 at*
 generalize c.ag.map aI=L3 at*
 by_cases h:s.unit=u
 ·simp (maxSteps:=9^9) (disch:=omega) [-List.map_replicate,-List.map_set,-List.getD_eq_getElem?_getD,-getElem?_pos,-getElem?_neg,om,NA,h,ae,hJm]
 ·simp (maxSteps:=9^9) (disch:=omega) [-List.map_replicate,-List.map_set,-List.getD_eq_getElem?_getD,-getElem?_pos,-getElem?_neg,om,NA,h,ae,hJm]
theorem rl (c:Ct) (hc:c.ok) (root u:Int):
  ar cfg 38 [aO c,.int .i64 root,.int .i64 u] []=some (.aT (if dh c=0 then [.str (dy Lib.itoa c root u),.bool (decide (dy Lib.itoa c root u≠ []))] else [.str [],.bool false]), []):=by
 refine ab Vy RV ?_;have h1:=uk c hc;by_cases h:dh c=0
 ·rw [if_pos h];rw [h] at h1
  have h2:=sF (RT c u) (fun st x=>if x.1.unit=u then x.2 else st) (fun _ _=>True) 3 (fun st=>rfl) (fun st=>rfl) 77 ⟨rfl,rfl,rfl,rfl⟩ [.ptr 1 0,.ptr 2 0] c hc (Nat.le_trans (b9 h).FI (by omega)) (fun n hn=>by simp [aw,AV.under];omega) (fun B=>rfl) rfl
   (fun i st s n J _ _ _ _ hJ=>⟨J8 c u st s n J hJ,trivial⟩) (fun _ _ _=>trivial) root [] trivial
  rw [sG] at h2;have h3:fb u [] (dj Lib.itoa root ⟨[], []⟩ c.ag)=dy Lib.itoa c root u:=rfl;rw [h3] at h2;generalize dy Lib.itoa c root u=N at*
  unfold RT aO bU at*
  generalize ao c.aa=L1 at*
  generalize c.aq.map bF=L2 at*
  generalize c.ag.map aI=L3 at*
  simp (maxSteps:=9^9) (disch:=omega) [-List.map_replicate,-List.map_set,-List.getD_eq_getElem?_getD,-getElem?_pos,-getElem?_neg,om,NB,h1,h2,ae];cases N <;> rfl
 ·rw [if_neg h];unfold aO bU at*
  generalize ao c.aa=L1 at*
  generalize c.aq.map bF=L2 at*
  generalize c.ag.map aI=L3 at*
  simp (maxSteps:=9^9) (disch:=omega) [-List.map_replicate,-List.map_set,-List.getD_eq_getElem?_getD,-getElem?_pos,-getElem?_neg,om,NB,h1,h,ae]
end Go.Proofs.YtfnkchadeaedlaaGreatDoor
namespace Go.Proofs.YtfnkchadeaedlaaGreatDoor
open Go.Am
set_option maxRecDepth 10000
set_option maxHeartbeats 4000000
theorem oT {N:Nat} (order:List af) (el:Int): ∀(l:List Lb) (t:af) (b:Int),t.length≤N→(∀x∈l,x.text.length≤N)→(fv order el t b l).length≤N
 | [],t,b,h,_=>h
 | x::r,t,b,h,hl=>by
  unfold fv;split
  ·exact oT order el r _ _ (hl x (by simp)) (fun y hy=>hl y (by simp [hy]))
  ·exact oT order el r _ _ h (fun y hy=>hl y (by simp [hy]))
theorem Hx {l:List Sh} (h: ∀s∈l,s.mark.length≤64∧s.title.length≤64) (u:Int):(cL l u).length≤1000:=by
 unfold cL;split
 ·simp
 ·split
  ·rename_i s hs;obtain ⟨h1,h2⟩:=h s (List.mem_of_getElem? hs);split
   ·omega
   ·simp;omega
  ·simp
theorem yG (c:Ct) (hc:c.ok) (hk:yH c) (x:Sh) (hx:x∈c.ag) (num:af) (hnl:num.length<10000) (on:Option Bool) (order:List af) (ho:order.length<1000000):
  ar cfg 62 [aO c,aI x,.str num,.ah on 1 (ao order)] []=some (cp (fg Lib.itoa order c (x,num)), []):=by
 have hs:=hk.ag x hx;refine CR c hc (fun s hs=>by have:=hk.ag s hs;exact ⟨by have:=this.mark;omega,by have:=this.wB;omega⟩) (fun u=>Hx (fun s hs=>⟨(hk.ag s hs).mark,(hk.ag s hs).wB⟩) u) x num hnl (hc.sh x hx) ⟨hs.l1,hs.l2⟩ (by have:=hs.wB;omega) on order ho (fun el h0 h9=> ?_) (fun f hf=> ?_)
 ·refine Nat.le_trans (oT (N:=64) order el c.aq _ _ ?_ (fun y hy=>(hk.aq y hy).len)) (by omega);have:=Lib.itoa_length_le el h0 h9;simp [cV];omega
 ·have:=hs.facts f hf;exact ⟨by have:=this.len;omega,by have:=this.Hy;omega,by have:=this.Hz;omega⟩
def PZ (c:Ct) (root:Int) (lang:af) (order:List af) (l:List pO):List ad:= [.var 26 (bU c),.var 41 [.int .i64 0,.str [],.ay 2 0],.sl ⟨false,some 46,none⟩ 3 [],.var 41 [.int .i64 root,.str lang,.ay 5 l.length],.var 22 [.ah none 1 (ao order)],.sl ⟨false,some 46,none⟩ 3 (l.map cp)]
theorem J9 (c:Ct) (hc:c.ok) (hk:yH c) (root:Int) (lang:af) (order:List af) (ho:order.length<1000000) (l:List pO) (hl:l.length<1000) (s:Sh) (hs:s∈c.ag) (n:af) (hn:n.length<10000) (J:List ad) (hJ:shut (6+J.length) J=true):
  ar cfg 61 (aI s:: .str n:: [.ptr 3 0,.ptr 0 0,.ptr 4 0]) (PZ c root lang order l++J)=some (.aT [],PZ c root lang order (l++ [fg Lib.itoa order c (s,n)])++J):=by
 refine ab Vz RW ?_;have hJm:=shut_map (show 6+J.length≤J.length+1+1+1+1+1+1 by omega) hJ;have hsec:=yG c hc hk s hs n hn none order ho;have hll:(l.map cp).length=l.length:=by simp
 have hse: ∀x:pO,cp x= .agg [.int .i64 x.unit,.str x.num,.ah none 3 (x.nodes.map ie)]:=fun x=>rfl;generalize fg Lib.itoa order c (s,n)=X at*
 have hlx:(l++ [X]).map cp=l.map cp++ [.agg [.int .i64 X.unit,.str X.num,.ah none 3 (X.nodes.map ie)]]:=by simp [hse]
 have hxp:al (X.nodes.map ie)=true:=eU (fun _=>rfl) _;rw [hse X] at hsec;unfold PZ;rw [hlx];unfold aI aO bU at*
 generalize ao c.aa=L1 at*
 generalize c.aq.map bF=L2 at*
 generalize c.ag.map _=L3 at*
 generalize ao order=OA at*
 generalize s.facts.map cU=FA at*
 generalize X.nodes.map ie=XN at*
 generalize l.map cp=LA at*
 simp (maxSteps:=9^9) (disch:=omega) [-List.map_replicate,-List.map_set,-List.getD_eq_getElem?_getD,-getElem?_pos,-getElem?_neg,om,RX,hsec,ae,hJm,hll,hxp]
theorem Ai (l:List af) (s:af):(av l s).length≤l.length+1:=by
 unfold av;split
 ·simp only [List.length_cons,List.length_append,List.length_take,List.length_drop];omega
 ·simp
theorem xe {α β:Type} (g:α→β): ∀(l:List α) (a:List β),l.foldl (fun a x=>a++ [g x]) a=a++l.map g
 | [],a=>by simp
 | x::r,a=>by rw [List.foldl_cons,xe g r];simp
def wC (root:Int) (lang:af) (l:List pO):AV:= .agg [.int .i64 root,.str lang,.ah none 3 (l.map cp)]
def CT:AV:= .agg [.int .i64 0,.str [],.ah (some true) 0 []]
theorem gr (c:Ct) (hc:c.ok) (root:Int) (lang:af):
  ar cfg 18 [aO c,.int .i64 root,.str lang] []=some (.aT [if cO c root lang=0 then wC root lang (fK Lib.itoa c root lang) else CT,.int .i64 (cO c root lang)], []):=by
 refine ab VA RY ?_;have h1:=uk c hc;have h2:=nv c.ln c.lz c.aa hc.lz hc.ll lang;have h3:=tQ c.sn c.sz c.ag hc.sz hc.sl root;by_cases hE:cO c root lang=0
 ·obtain ⟨hk0,hlang,i,hi⟩:=Aj hE;have hk:=b9 hk0;have h4:=rh c hc lang hlang;have hol:(av c.aa lang).length<1000000:=by have:=Ai c.aa lang;have:=hk.l2;omega
  have h5:=sF (PZ c root lang (av c.aa lang)) (fun l x=>l++ [fg Lib.itoa (av c.aa lang) c x]) (fun i l=>l.length≤i) 6 (fun l=>rfl) (fun l=>by simp [PZ,shut,aw,AV.under,cM,bU]) 61 ⟨rfl,rfl,rfl,rfl⟩ [.ptr 3 0,.ptr 0 0,.ptr 4 0] c hc (Nat.le_trans hk.FI (by omega)) (fun n hn=>by simp [aw,AV.under];omega) (fun B=>rfl) rfl
   (fun i l s n J hil hI hs hn hJ=>⟨J9 c hc hk root lang _ hol l (by have:=hk.FI;omega) s hs n hn J hJ,by simpa using hI⟩) (fun i l h=>by omega) root [] (by simp)
  rw [xe,List.nil_append] at h5;have h6:(dj Lib.itoa root ⟨[], []⟩ c.ag).map (fg Lib.itoa (av c.aa lang) c)=fK Lib.itoa c root lang:=rfl;rw [h6] at h5;rw [if_pos hE,hE];rw [hlang] at h2;rw [hi] at h3;rw [hk0] at h1;unfold wC;have hpl:al ((fK Lib.itoa c root lang).map cp)=true:=eU (fun x=>by simp [cp,AV.plain,al]) _;have hll:((fK Lib.itoa c root lang).map cp).length=(fK Lib.itoa c root lang).length:=by simp
  generalize hAP:fK Lib.itoa c root lang=AP at*
  unfold PZ aO bU at*
  simp only [List.map_nil,List.length_nil] at h5;have hoz:(ao (av c.aa lang)).length=(av c.aa lang).length:=iT _;generalize ao (av c.aa lang)=OA at*
  generalize ao c.aa=L1 at*
  generalize c.aq.map bF=L2 at*
  generalize c.ag.map aI=L3 at*
  generalize AP.map cp=AL at*
  simp (maxSteps:=9^9) (disch:=omega) [-List.map_replicate,-List.map_set,-List.getD_eq_getElem?_getD,-getElem?_pos,-getElem?_neg,om,HA,h1,h2,h3,h4,h5,ae,az,hll,hpl]
 ·rw [if_neg hE];unfold cO at*
  unfold CT aO bU at*
  generalize ao c.aa=L1 at*
  generalize c.aq.map bF=L2 at*
  generalize c.ag.map aI=L3 at*
  by_cases e1:dh c=0
  ·rw [if_neg (by simp [e1])] at hE⊢;rw [e1] at h1;cases e2:bX c.aa lang with
   | false=>rw [e2] at h2;simp (maxSteps:=9^9) (disch:=omega) [-List.map_replicate,-List.map_set,-List.getD_eq_getElem?_getD,-getElem?_pos,-getElem?_neg,om,HA,h1,h2,ae]
   | true=>
    rw [e2] at h2 hE;cases e3:aG c.ag root with
    | none=>rw [e3] at h3;simp (maxSteps:=9^9) (disch:=omega) [-List.map_replicate,-List.map_set,-List.getD_eq_getElem?_getD,-getElem?_pos,-getElem?_neg,om,HA,h1,h2,h3,ae,az]
    | some i=>rw [e3] at hE;simp at hE
  ·rw [if_pos e1] at hE⊢;simp (maxSteps:=9^9) (disch:=omega) [-List.map_replicate,-List.map_set,-List.getD_eq_getElem?_getD,-getElem?_pos,-getElem?_neg,om,HA,h1,e1,ae]
end Go.Proofs.YtfnkchadeaedlaaGreatDoor
namespace Go.Proofs.YtfnkchadeaedlaaGreatDoor
open Go.Am
set_option maxRecDepth 10000
set_option maxHeartbeats 4000000
theorem xf (c:Ct) (hc:c.ok) (s:af):ar cfg 78 [aO c,.str s] []=some (.bool (aD c s), []):=by
 refine ab VB RZ ?_;have h1:=uk c hc;have h2:=nv c.ln c.lz c.aa hc.lz hc.ll s;unfold aD;unfold aO bU at*
 generalize ao c.aa=L1 at*
 generalize c.aq.map bF=L2 at*
 generalize c.ag.map aI=L3 at*
 by_cases h:dh c=0
 ·rw [h] at h1;simp (maxSteps:=9^9) (disch:=omega) [-List.map_replicate,-List.map_set,-List.getD_eq_getElem?_getD,-getElem?_pos,-getElem?_neg,om,NC,h1,h2,h]
 ·have hb:(dh c==0)=false:=by simp [h]
  simp (maxSteps:=9^9) (disch:=omega) [-List.map_replicate,-List.map_set,-List.getD_eq_getElem?_getD,-getElem?_pos,-getElem?_neg,om,NC,h1,h,hb]
theorem Ak (c:Ct) (hc:c.ok) (s:af):ar cfg 50 [aO c,.str s] []=some (.bool (aD c s), []):=by
 refine ab VC R0 ?_;have h1:=uk c hc;have h2:=nv c.ln c.lz c.aa hc.lz hc.ll s;unfold aD;unfold aO bU at*
 generalize ao c.aa=L1 at*
 generalize c.aq.map bF=L2 at*
 generalize c.ag.map aI=L3 at*
 by_cases h:dh c=0
 ·rw [h] at h1;simp (maxSteps:=9^9) (disch:=omega) [-List.map_replicate,-List.map_set,-List.getD_eq_getElem?_getD,-getElem?_pos,-getElem?_neg,om,ND,h1,h2,h]
 ·have hb:(dh c==0)=false:=by simp [h]
  simp (maxSteps:=9^9) (disch:=omega) [-List.map_replicate,-List.map_set,-List.getD_eq_getElem?_getD,-getElem?_pos,-getElem?_neg,om,ND,h1,h,hb]
theorem HB (c:Ct) (hc:c.ok) (u:Int):ar cfg 84 [aO c,.int .i64 u] []=some (.str (if dh c=0 then cL c.ag u else []), []):=by
 refine ab VD R1 ?_;have h1:=uk c hc;by_cases h:dh c=0
 ·have hk:=b9 h;have h2:=Ab c hc u (fun s hs=>by have:=(hk.ag s hs).mark;have:=(hk.ag s hs).wB;omega);rw [if_pos h];rw [h] at h1;unfold aO bU at*
  generalize ao c.aa=L1 at*
  generalize c.aq.map bF=L2 at*
  generalize c.ag.map aI=L3 at*
  simp (maxSteps:=9^9) (disch:=omega) [-List.map_replicate,-List.map_set,-List.getD_eq_getElem?_getD,-getElem?_pos,-getElem?_neg,om,NG,h1,h2]
 ·rw [if_neg h];unfold aO bU at*
  generalize ao c.aa=L1 at*
  generalize c.aq.map bF=L2 at*
  generalize c.ag.map aI=L3 at*
  simp (maxSteps:=9^9) (disch:=omega) [-List.map_replicate,-List.map_set,-List.getD_eq_getElem?_getD,-getElem?_pos,-getElem?_neg,om,NG,h1,h]
theorem uw {c:Ct} {s:af} (h:aD c s=true):bX c.aa s=true:=by unfold aD at h;simp at h;exact h.2
theorem rm {c:Ct} (hc:c.ok) (s:af):(av c.aa s).length<1000000∨(av c.aa s).length≤c.aa.length+1:=by
 right;unfold av;split
 ·simp only [List.length_cons,List.length_append,List.length_take,List.length_drop];omega
 ·simp
theorem HC (c:Ct) (hc:c.ok) (el:Int) (s:af):ar cfg 83 [aO c,.int .i64 el,.str s] []=some (.str (if el<1∨64<el∨aD c s=false then [] else gF (av c.aa s) c.aq el (cV Lib.itoa el)), []):=by
 refine ab VE R2 ?_;have h1:=xf c hc s;by_cases h:el<1∨64<el
 ·rw [if_pos (by omega)];unfold aO bU at*
  generalize ao c.aa=L1 at*
  generalize c.aq.map bF=L2 at*
  generalize c.ag.map aI=L3 at*
  rcases h with h | h
  ·simp (maxSteps:=9^9) (disch:=omega) [-List.map_replicate,-List.map_set,-List.getD_eq_getElem?_getD,-getElem?_pos,-getElem?_neg,om,HD,h]
  ·simp (maxSteps:=9^9) (disch:=omega) [-List.map_replicate,-List.map_set,-List.getD_eq_getElem?_getD,-getElem?_pos,-getElem?_neg,om,HD,h]
 ·cases hr:aD c s with
  | false=>
   rw [if_pos (.inr (.inr rfl))];rw [hr] at h1;unfold aO bU at*
   generalize ao c.aa=L1 at*
   generalize c.aq.map bF=L2 at*
   generalize c.ag.map aI=L3 at*
   simp (maxSteps:=9^9) (disch:=omega) [-List.map_replicate,-List.map_set,-List.getD_eq_getElem?_getD,-getElem?_pos,-getElem?_neg,om,HD,h1,h]
  | true=>
   rw [if_neg (by simp;omega)];rw [hr] at h1;have h2:=rh c hc s (uw hr);have hk:dh c=0:=by unfold aD at hr;simp at hr;exact hr.1
   have hl:=(rm hc s).resolve_left;have h3:=Aa c hc el (by omega) (by omega) none (av c.aa s) (by have:=(b9 hk).l2;rcases rm hc s with h | h <;> omega);unfold aO bU at*
   generalize ao c.aa=L1 at*
   generalize c.aq.map bF=L2 at*
   generalize c.ag.map aI=L3 at*
   generalize ao (av c.aa s)=OA at*
   simp (maxSteps:=9^9) (disch:=omega) [-List.map_replicate,-List.map_set,-List.getD_eq_getElem?_getD,-getElem?_pos,-getElem?_neg,om,HD,h1,h2,h3,h]
theorem xg (c:Ct) (hc:c.ok) (u:Int) (s:af): ∃nl z,ar cfg 39 [aO c,.int .i64 u,.str s] []=some (.ah nl z ((bh c u s).map cU), [])∧(bh c u s≠ []→z=3):=by
 have h1:=xf c hc s;have h2:=tQ c.sn c.sz c.ag hc.sz hc.sl u;unfold bh dZ;cases hx:aG c.ag u with
 | none=>
  rw [hx] at h2;have hsU:bD c u=none:=by unfold bD;rw [hx]
  rw [hsU];have he:(if aD c s=true then aC (av c.aa s) [] else [])= []:=by split <;> rfl
  simp only [he];refine ⟨some true,0,?_,fun h=>absurd rfl h⟩;refine ab NH HE ?_;unfold aO bU at*
  generalize ao c.aa=L1 at*
  generalize c.aq.map bF=L2 at*
  generalize c.ag.map aI=L3 at*
  simp (maxSteps:=9^9) (disch:=omega) [-List.map_replicate,-List.map_set,-List.getD_eq_getElem?_getD,-getElem?_pos,-getElem?_neg,om,Ka,h2,az]
 | some i=>
  rw [hx] at h2;have hi:=cB hx;have hgo:c.ag[i]?=some c.ag[i]:=List.getElem?_eq_getElem hi;have hsU:bD c u=some c.ag[i]:=by unfold bD;rw [hx];exact hgo
  rw [hsU];have hsz:=hc.sz (ne_of_lt hi);have hg:(c.ag.map aI)[i]?=some (.agg [.int .i64 c.ag[i].unit,.int .i64 c.ag[i].par,.int .i64 c.ag[i].level,.str c.ag[i].mark,.str c.ag[i].title,.ah c.ag[i].fn c.ag[i].fz (c.ag[i].facts.map cU)]):=get_map _ _ hi;have hso:=hc.sh _ (List.getElem_mem hi);have hEl:(c.ag.map aI).length=c.ag.length:=by simp
  have hil:i<1000000:=by have:=hc.sl;omega
  cases hr:aD c s with
  | false=>
   rw [hr] at h1;refine ⟨some true,0,?_,by simp⟩;refine ab NH HE ?_;unfold aO bU at*
   generalize ao c.aa=L1 at*
   generalize c.aq.map bF=L2 at*
   generalize c.ag.map aI=L3 at*
   simp (maxSteps:=9^9) (disch:=omega) [-List.map_replicate,-List.map_set,-List.getD_eq_getElem?_getD,-getElem?_pos,-getElem?_neg,om,Ka,h1,h2,az]
  | true=>
   rw [hr] at h1;have h3:=rh c hc s (uw hr);have hk:dh c=0:=by unfold aD at hr;simp at hr;exact hr.1
   have h4:=uo c.ag[i].fn c.ag[i].fz c.ag[i].facts hso.fz hso.fl none (av c.aa s) (by have:=(b9 hk).l2;rcases rm hc s with h | h <;> omega);refine ⟨none,3,?_,fun _=>rfl⟩;refine ab NH HE ?_;unfold aO bU at*
   simp only [if_true];generalize c.ag[i]=x at*
   generalize ao c.aa=L1 at*
   generalize c.aq.map bF=L2 at*
   generalize c.ag.map aI=L3 at*
   generalize ao (av c.aa s)=OA at*
   generalize (aC (av c.aa s) x.facts).map cU=CA at*
   rw [hsz] at*
   simp (maxSteps:=9^9) (disch:=omega) [-List.map_replicate,-List.map_set,-List.getD_eq_getElem?_getD,-getElem?_pos,-getElem?_neg,om,Ka,h1,h2,h3,h4,az,hg,hEl,hi]
end Go.Proofs.YtfnkchadeaedlaaGreatDoor
