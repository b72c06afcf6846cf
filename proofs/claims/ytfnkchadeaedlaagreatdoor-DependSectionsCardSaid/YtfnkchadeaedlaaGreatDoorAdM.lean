/-
 Catalogs as the machine's values. Places in slices of strings and numbers; comparisons. Check of package aid, part by part: languages, labels, facts. Labels of a catalog. Facts of a sheet. The sheet of a unit. The sheets of a catalog; Check. Chosen facts, labels, citations, by a preference. Preferences, chosen facts, labels, citations. strings.Builder, whatever boxes lie about it: its variable is box k, its bytes are box j. Catalogs that come in. strconv.ParseUint at base 10 with few bits; strings.IndexByte. Pieces: aid.unit, depend.cited. aid.expand: a text with its pieces written out. aid.section: the section of a sheet. Maps with numbers as keys. aid.numbered: the sheets below a root with their numbers. aid.Number: the number of a unit below a root. aid.Compile: the whole finding aid. aid.speaks, Choose, Name, Cite.
-/
import Derived.Test.YtfnkchadeaedlaaGreatDoorIrs
import Derived.Test.YtfnkchadeaedlaaGreatDoorStrM
import Derived.Test.YtfnkchadeaedlaaGreatDoorCatM
import Derived.Lib.ItoaLen
import Derived.Test.YtfnkchadeaedlaaGreatDoorAmFrame
set_option linter.all false
namespace Go.Proofs.YtfnkchadeaedlaaGreatDoor
open Go.Am
set_option maxRecDepth 10000
set_option maxHeartbeats 4000000
def aw (l:List ag):List AV:=l.map .str
def dm (l:Lb):AV:= .agg [.int .i64 l.el,.str l.aa,.str l.text,.int .i64 l.ix]
def fV (f:Fc):AV:= .agg [.int .i64 f.el,.str f.aa,.str f.text]
def bU (s:Sh):AV:= .agg [.int .i64 s.unit,.int .i64 s.par,.int .i64 s.level,.str s.mark,.str s.title,.ak s.fn s.fz (s.facts.map fV)]
def df (c:Ct):List AV:= [.ak c.ln c.lz (aw c.ae),.ak c.bn c.bz (c.aA.map dm),.ak c.sn c.sz (c.ay.map bU)]
def bN (c:Ct):AV:= .agg (df c)
structure Sh.ok (s:Sh):Prop where
 fz:s.facts≠ []→s.fz=3
 fl:s.facts.length<1000000
structure Ct.ok (c:Ct):Prop where
 lz:c.ae≠ []→c.lz=1
 bz:c.aA≠ []→c.bz=4
 sz:c.ay≠ []→c.sz=6
 ll:c.ae.length<1000000
 bl:c.aA.length<1000000
 sl:c.ay.length<1000000
 sh: ∀s∈c.ay,s.ok
@[simp] theorem vN: ∀(l:List Lb),aj (l.map dm)=true
 | []=>rfl
 | x::r=>by simp [aj,dm,AV.plain,vN r]
@[simp] theorem vO: ∀(l:List Fc),aj (l.map fV)=true
 | []=>rfl
 | x::r=>by simp [aj,fV,AV.plain,vO r]
@[simp] theorem jU: ∀(l:List Sh),aj (l.map bU)=true
 | []=>rfl
 | x::r=>by simp [aj,bU,AV.plain,jU r]
theorem yJ (L:List ag) {i:Nat} (h:i<L.length):(aw L)[i]?=some (.str (L.getD i [])):=by simp [aw,h,List.getD_eq_getElem?_getD]
@[simp] theorem jV (L:List ag):(aw L).length=L.length:=by simp [aw]
theorem get_map {α:Type} (f:α→AV) (l:List α) {i:Nat} (h:i<l.length):(l.map f)[i]?=some (f l[i]):=by simp [h]
theorem ne_of_lt {α:Type} {l:List α} {i:Nat} (h:i<l.length):l≠ []:=fun h0=>by rw [h0] at h;simp at h
end Go.Proofs.YtfnkchadeaedlaaGreatDoor
namespace Go.Proofs.YtfnkchadeaedlaaGreatDoor
open Go.Am
set_option maxRecDepth 10000
set_option maxHeartbeats 4000000
theorem OU (L:List ag) {i:Nat} (h:i<L.length):L.drop i=L.getD i []::L.drop (i+1):=by rw [List.drop_eq_getElem_cons h];simp [List.getD_eq_getElem?_getD,h]
def nR (w:ag):List ag→Nat→Int
 | [],_=> -1
 | x::r,i=>if w==x then (i:Int) else nR w r (i+1)
theorem jW (nl:Option Bool) (z:Nat) (L:List ag) (hz:L≠ []→z=1) (hL:L.length<1000000) (w:ag):aq cfg 107 [.ak nl z (aw L),.str w] []=some (.int .i64 (nR w L 0), []):=by
 refine ab OV KJ ?_;simp (maxSteps:=9^9) (disch:=omega) [-List.map_replicate,-List.map_set,-List.getD_eq_getElem?_getD,-getElem?_pos,-getElem?_neg,om,JD,jV];refine Wp.aX (fun (i:Nat)=>L.length-i) (fun i=> [some (.ak nl z (aw L)),some (.str w),none,none,some (.int .i64 L.length),some (.int .i64 i),none,none]) (fun _=> []) (fun i=>nR w L 0=nR w (L.drop i) i∧i≤L.length) ?_ 0 ⟨by simp,by omega⟩ (by simp) rfl;rintro i ⟨hi,hl⟩;rw [hi];by_cases h1:i<L.length
 ·have hg:=yJ L h1;obtain rfl:=hz (ne_of_lt h1);rw [OU L h1] at hi⊢;simp only [nR] at hi⊢;generalize L.getD i []=x at*
  cases he:w==x with
  | true=>simp (maxSteps:=9^9) (disch:=omega) [-List.map_replicate,-List.map_set,-List.getD_eq_getElem?_getD,-getElem?_pos,-getElem?_neg,om,h1,hg,he]
  | false=>rw [he] at hi;simp (maxSteps:=9^9) (disch:=omega) [-List.map_replicate,-List.map_set,-List.getD_eq_getElem?_getD,-getElem?_pos,-getElem?_neg,om,h1,hg,he];exact ⟨i+1,⟨by simp,by omega⟩,by omega,by simp⟩
 ·rw [List.drop_eq_nil_of_le (by omega)];simp (maxSteps:=9^9) (disch:=omega) [-List.map_replicate,-List.map_set,-List.getD_eq_getElem?_getD,-getElem?_pos,-getElem?_neg,om,h1,nR]
theorem yK (w:ag): ∀(L:List ag) (i:Nat),decide (0≤nR w L i)=fE L w
 | [],i=>rfl
 | x::r,i=>by
  simp only [nR,fE,List.any_cons];have ih:=yK w r (i+1);by_cases he:(w==x)=true
  ·simp only [he,if_true,Bool.true_or];simp
  ·rw [Bool.not_eq_true] at he;simp only [he,Bool.false_or,Bool.false_eq_true,if_false];exact ih
theorem mL (nl:Option Bool) (z:Nat) (L:List ag) (hz:L≠ []→z=1) (hL:L.length<1000000) (w:ag):aq cfg 57 [.ak nl z (aw L),.str w] []=some (.bool (fE L w), []):=by
 refine ab SL OW ?_;have h1:=jW nl z L hz hL w;rw [←yK w L 0];by_cases h4:0≤nR w L 0
 ·simp (maxSteps:=9^9) (disch:=omega) [-List.map_replicate,-List.map_set,-List.getD_eq_getElem?_getD,-getElem?_pos,-getElem?_neg,om,KK,h1,h4]
 ·simp (maxSteps:=9^9) (disch:=omega) [-List.map_replicate,-List.map_set,-List.getD_eq_getElem?_getD,-getElem?_pos,-getElem?_neg,om,KK,h1,h4]
theorem Bz (w:ag): ∀(L:List ag) (i:Nat),nR w L i=match qp L w with | some k=>((i+k:Nat):Int) | none=> -1
 | [],i=>rfl
 | x::r,i=>by
  unfold nR qp;by_cases h:x=w
  ·subst h;rw [if_pos rfl];simp
  ·have hb:(w==x)=false:=by simpa using fun h'=>h h'.symm
   rw [if_neg h,hb];simp only [Bool.false_eq_true,if_false];rw [Bz w r (i+1)];cases qp r w with
   | none=>rfl
   | some k=>simp only [Option.map_some];congr 1;omega
theorem C5 (w:ag) (L:List ag):nR w L 0=rk L w:=by
 rw [Bz];unfold rk;cases qp L w with
 | none=>rfl
 | some k=>simp
def dM (l:List Int):List AV:=l.map (AV.int .i64)
@[simp] theorem D5 (l:List Int):(dM l).length=l.length:=by simp [dM]
def yL (w:Int):List Int→Nat→Int
 | [],_=> -1
 | x::r,i=>if w=x then (i:Int) else yL w r (i+1)
theorem D6 (nl:Option Bool) (z:Nat) (L:List Int) (hz:L≠ []→z=1) (hL:L.length<1000000) (w:Int):aq cfg 156 [.ak nl z (dM L),.int .i64 w] []=some (.int .i64 (yL w L 0), []):=by
 refine ab OX KL ?_;simp (maxSteps:=9^9) (disch:=omega) [-List.map_replicate,-List.map_set,-List.getD_eq_getElem?_getD,-getElem?_pos,-getElem?_neg,om,JE];refine Wp.aX (fun (i:Nat)=>L.length-i) (fun i=> [some (.ak nl z (dM L)),some (.int .i64 w),none,none,some (.int .i64 L.length),some (.int .i64 i),none,none]) (fun _=> []) (fun i=>yL w L 0=yL w (L.drop i) i∧i≤L.length) ?_ 0 ⟨by simp,by omega⟩ (by simp) rfl;rintro i ⟨hi,hl⟩;rw [hi];by_cases h1:i<L.length
 ·have hg:(dM L)[i]?=some (.int .i64 L[i]):=by simp [dM,h1]
  obtain rfl:=hz (ne_of_lt h1);rw [List.drop_eq_getElem_cons h1] at hi⊢;simp only [yL] at hi⊢;generalize L[i]=x at*
  by_cases he:w=x
  ·simp (maxSteps:=9^9) (disch:=omega) [-List.map_replicate,-List.map_set,-List.getD_eq_getElem?_getD,-getElem?_pos,-getElem?_neg,om,h1,hg,he]
  ·rw [if_neg he] at hi;simp (maxSteps:=9^9) (disch:=omega) [-List.map_replicate,-List.map_set,-List.getD_eq_getElem?_getD,-getElem?_pos,-getElem?_neg,om,h1,hg,he];exact ⟨i+1,⟨by simp,by omega⟩,by omega,by simp⟩
 ·rw [List.drop_eq_nil_of_le (by omega)];simp (maxSteps:=9^9) (disch:=omega) [-List.map_replicate,-List.map_set,-List.getD_eq_getElem?_getD,-getElem?_pos,-getElem?_neg,om,h1,yL]
theorem Fv (w:Int): ∀(L:List Int) (i:Nat),yL w L i=match nS L w with | some k=>((i+k:Nat):Int) | none=> -1
 | [],i=>rfl
 | x::r,i=>by
  unfold yL nS;by_cases h:x=w
  ·subst h;rw [if_pos rfl,if_pos rfl];simp
  ·rw [if_neg h,if_neg (fun h'=>h h'.symm)];rw [Fv w r (i+1)];cases nS r w with
   | none=>rfl
   | some k=>simp only [Option.map_some];congr 1;omega
def ig (a b:Int):Int:=if a<b then -1 else if a=b then 0 else 1
theorem C6 (a:Int):aq cfg 146 [.int .i64 a] []=some (.bool false, []):=by refine ab OY KM ?_;simp (maxSteps:=9^9) (disch:=omega) [-List.map_replicate,-List.map_set,-List.getD_eq_getElem?_getD,-getElem?_pos,-getElem?_neg,om,JF]
theorem sG (a b:Int):aq cfg 88 [.int .i64 a,.int .i64 b] []=some (.int .i64 (ig a b), []):=by
 refine ab SM OZ ?_;have h1:=C6 a;have h2:=C6 b;unfold ig;by_cases h3:a<b
 ·simp (maxSteps:=9^9) (disch:=omega) [-List.map_replicate,-List.map_set,-List.getD_eq_getElem?_getD,-getElem?_pos,-getElem?_neg,om,HR,h1,h2,h3]
 ·by_cases h4:a=b
  ·subst h4;simp (maxSteps:=9^9) (disch:=omega) [-List.map_replicate,-List.map_set,-List.getD_eq_getElem?_getD,-getElem?_pos,-getElem?_neg,om,HR,h1]
  ·have h5:b<a:=by omega
   simp (maxSteps:=9^9) (disch:=omega) [-List.map_replicate,-List.map_set,-List.getD_eq_getElem?_getD,-getElem?_pos,-getElem?_neg,om,HR,h1,h2,h3,h4,h5]
theorem C7 (a:ag):aq cfg 184 [.str a] []=some (.bool false, []):=by refine ab O0 KN ?_;simp (maxSteps:=9^9) (disch:=omega) [-List.map_replicate,-List.map_set,-List.getD_eq_getElem?_getD,-getElem?_pos,-getElem?_neg,om,JG]
theorem C8 (a b:ag):aq cfg 155 [.str a,.str b] []=some (.int .i64 (Lib.compareBytes a b), []):=by
 refine ab O1 KO ?_;have h1:=C7 a;have h2:=C7 b;obtain ⟨k1,k2,k3⟩:=lI a b;obtain ⟨l1,l2,l3⟩:=lI b a;have sw:=C9 a b;have k4:=O2 a b;rw [sw] at l1;generalize Lib.compareBytes a b=c at*
 rcases k3 with rfl | rfl | rfl
 ·simp (maxSteps:=9^9) (disch:=omega) [-List.map_replicate,-List.map_set,-List.getD_eq_getElem?_getD,-getElem?_pos,-getElem?_neg,om,Da,h1,h2,k1]
 ·simp (maxSteps:=9^9) (disch:=omega) [-List.map_replicate,-List.map_set,-List.getD_eq_getElem?_getD,-getElem?_pos,-getElem?_neg,om,Da,h1,h2,k1,l1,k4]
 ·simp (maxSteps:=9^9) (disch:=omega) [-List.map_replicate,-List.map_set,-List.getD_eq_getElem?_getD,-getElem?_pos,-getElem?_neg,om,Da,h1,h2,k1,l1,k4]
def HH:List Int→Int
 | []=>0
 | a::r=>if a=0 then HH r else a
theorem O3 (nl:Option Bool) (L:List Int) (hL:L.length<1000000):aq cfg 87 [.ak nl 1 (dM L)] []=some (.int .i64 (HH L), []):=by
 refine ab SN O4 ?_;simp (maxSteps:=9^9) (disch:=omega) [-List.map_replicate,-List.map_set,-List.getD_eq_getElem?_getD,-getElem?_pos,-getElem?_neg,om,O5];refine Wp.aX (fun (i:Nat)=>L.length-i) (fun i=> [none,none,some (.int .i64 0),none,some (.ak nl 1 (dM L)),some (.int .i64 L.length),some (.int .i64 i),none,none]) (fun _=> []) (fun i=>HH L=HH (L.drop i)∧i≤L.length) ?_ 0 ⟨by simp,by omega⟩ (by simp) rfl;rintro i ⟨hi,hl⟩;rw [hi];by_cases h1:i<L.length
 ·have hg:(dM L)[i]?=some (.int .i64 L[i]):=by simp [dM,h1]
  rw [List.drop_eq_getElem_cons h1] at hi⊢;simp only [HH] at hi⊢;generalize L[i]=x at*
  by_cases he:x=0
  ·rw [if_pos he] at hi;simp (maxSteps:=9^9) (disch:=omega) [-List.map_replicate,-List.map_set,-List.getD_eq_getElem?_getD,-getElem?_pos,-getElem?_neg,om,h1,hg,he];exact ⟨i+1,⟨by simp,by omega⟩,by omega,by simp⟩
  ·simp (maxSteps:=9^9) (disch:=omega) [-List.map_replicate,-List.map_set,-List.getD_eq_getElem?_getD,-getElem?_pos,-getElem?_neg,om,h1,hg,he]
 ·rw [List.drop_eq_nil_of_le (by omega)];simp (maxSteps:=9^9) (disch:=omega) [-List.map_replicate,-List.map_set,-List.getD_eq_getElem?_getD,-getElem?_pos,-getElem?_neg,om,h1,HH]
theorem BA (nl:Option Bool) (a b:Int):aq cfg 87 [.ak nl 1 [.int .i64 a,.int .i64 b]] []=some (.int .i64 (if a=0 then b else a), []):=by
 have h:=O3 nl [a,b] (by simp)
 have e:HH [a,b]=if a=0 then b else a:=by
  unfold HH HH HH;split
  ·split
   ·rename_i h;rw [h]
   ·rfl
  ·rfl
 rw [e] at h;exact h
theorem vP (a b:Int) (s t:ag):(0≤(if ig a b=0 then Lib.compareBytes s t else ig a b))↔nu a s b t=false:=by
 unfold nu ig;rw [decide_eq_false_iff_not];by_cases h1:a<b
 ·simp [h1]
 ·rw [if_neg h1];by_cases h2:a=b
  ·rw [if_pos h2];simp [h1,h2]
  ·simp [h1,h2]
end Go.Proofs.YtfnkchadeaedlaaGreatDoor
namespace Go.Proofs.YtfnkchadeaedlaaGreatDoor
open Go.Am
set_option maxRecDepth 10000
set_option maxHeartbeats 4000000
theorem KP (s:ag):aq cfg 154 [.str s] []=some (.bool (D7 s), []):=by
 refine ab O6 KQ ?_;unfold D7;by_cases h:s.length=2
 ·match s,h with
  | [a,b],_=>
   simp only [List.getD_cons_zero,List.getD_cons_succ]
   by_cases h1:97≤a.toNat <;> by_cases h2:a.toNat≤122 <;> by_cases h3:97≤b.toNat <;> by_cases h4:b.toNat≤122 <;>
    first
    | omega
    | simp (maxSteps:=9^9) (disch:=omega) [-List.map_replicate,-List.map_set,-List.getD_eq_getElem?_getD,-getElem?_pos,-getElem?_neg,om,Fw,h1,h2,h3,h4]
 ·have h2:((s.length:Int)==2)=false:=by simp;omega
  simp (maxSteps:=9^9) (disch:=omega) [-List.map_replicate,-List.map_set,-List.getD_eq_getElem?_getD,-getElem?_pos,-getElem?_neg,om,Fw,h,h2]
theorem sW {α:Type} (L:List α) {i:Nat} (h:i<L.length):L.take (i+1)=L.take i++ [L[i]]:=by rw [List.take_succ_eq_append_getElem h]
theorem Fx (c:Ct) (hc:c.ok):aq cfg 104 [bN c] []=some (.int .i64 (nT c.ae), []):=by
 refine ab O7 KR ?_;have hl:=hc.ll;have hz:=hc.lz;unfold nT bN df;generalize c.aA.map dm=A2 at*
 generalize c.ay.map bU=A3 at*
 generalize c.ae=L at*
 generalize c.lz=z at*
 by_cases h0:L.length<1
 ·simp (maxSteps:=9^9) (disch:=omega) [-List.map_replicate,-List.map_set,-List.getD_eq_getElem?_getD,-getElem?_pos,-getElem?_neg,om,Db,h0]
 by_cases h8:8<L.length
 ·simp (maxSteps:=9^9) (disch:=omega) [-List.map_replicate,-List.map_set,-List.getD_eq_getElem?_getD,-getElem?_pos,-getElem?_neg,om,Db,h0,h8]
 obtain rfl:z=1:=hz (by intro h;rw [h] at h0;simp at h0);have hif:(if L.length<1∨8<L.length then 2 else fW [] L)=fW [] L:=if_neg (by omega);rw [hif];simp (maxSteps:=9^9) (disch:=omega) [-List.map_replicate,-List.map_set,-List.getD_eq_getElem?_getD,-getElem?_pos,-getElem?_neg,om,Db,h0,h8];refine Wp.aX (fun (i:Nat)=>L.length-i) (fun i=> [none,some (.ptr 0 0),none,none,none,none,some (.ak c.ln 1 (aw L)),some (.int .i64 L.length),some (.int .i64 i),none,none,none,none,none]) (fun _=> [.var 26 [.ak c.ln 1 (aw L),.ak c.bn c.bz A2,.ak c.sn c.sz A3]]) (fun i=>fW [] L=fW (L.take i) (L.drop i)∧i≤L.length) ?_ 0 ⟨by simp,by omega⟩ (by simp) rfl;rintro i ⟨hi,hil⟩;rw [hi];by_cases h1:i<L.length
 ·have hg:(aw L)[i]?=some (.str L[i]):=by simp [aw,h1]
  have htk:(aw L).take i=aw (L.take i):=by simp [aw]
  have ht:=KP L[i];have hh:=mL c.ln 1 (L.take i) (fun _=>rfl) (by simp;omega) L[i];rw [List.drop_eq_getElem_cons h1] at hi⊢;simp only [fW] at hi⊢;rw [←sW L h1] at hi⊢;generalize L[i]=x at*
  cases he:D7 x with
  | false=>rw [he] at ht;simp (maxSteps:=9^9) (disch:=omega) [-List.map_replicate,-List.map_set,-List.getD_eq_getElem?_getD,-getElem?_pos,-getElem?_neg,om,h1,hg,ht]
  | true=>
   rw [he] at hi ht;cases hb:fE (L.take i) x with
   | true=>rw [hb] at hh;simp (maxSteps:=9^9) (disch:=omega) [-List.map_replicate,-List.map_set,-List.getD_eq_getElem?_getD,-getElem?_pos,-getElem?_neg,om,h1,hg,ht,htk,hh]
   | false=>rw [hb] at hi hh;simp (maxSteps:=9^9) (disch:=omega) [-List.map_replicate,-List.map_set,-List.getD_eq_getElem?_getD,-getElem?_pos,-getElem?_neg,om,h1,hg,ht,htk,hh];exact ⟨i+1,⟨by simpa using hi,by omega⟩,by omega,by simp⟩
 ·rw [List.drop_eq_nil_of_le (by omega)];simp (maxSteps:=9^9) (disch:=omega) [-List.map_replicate,-List.map_set,-List.getD_eq_getElem?_getD,-getElem?_pos,-getElem?_neg,om,h1,fW]
end Go.Proofs.YtfnkchadeaedlaaGreatDoor
namespace Go.Proofs.YtfnkchadeaedlaaGreatDoor
open Go.Am
set_option maxRecDepth 10000
set_option maxHeartbeats 4000000
theorem HS (c:Ct) (hc:c.ok):aq cfg 105 [bN c] []=some (.int .i64 (sX c.ae c.aA), []):=by
 refine ab O8 KT ?_;have hl:=hc.ll;have hz:=hc.lz;have hbl:=hc.bl;have hbz:=hc.bz;unfold sX bN df;generalize c.ay.map bU=A3 at*
 generalize c.ae=L at*
 generalize c.lz=z at*
 generalize c.aA=B at*
 generalize c.bz=bz at*
 have hBl:(B.map dm).length=B.length:=by simp
 have hE: ∀k (h:k<B.length),(B.map dm)[k]?=some (.agg [.int .i64 B[k].el,.str B[k].aa,.str B[k].text,.int .i64 B[k].ix]):=fun k h=>get_map _ _ h;have hpl:aj (B.map dm)=true:=vN B;generalize B.map dm=E at*
 by_cases h0:256<B.length
 ·simp (maxSteps:=9^9) (disch:=omega) [-List.map_replicate,-List.map_set,-List.getD_eq_getElem?_getD,-getElem?_pos,-getElem?_neg,om,Fy,h0,hBl]
 rw [if_neg h0];simp (maxSteps:=9^9) (disch:=omega) [-List.map_replicate,-List.map_set,-List.getD_eq_getElem?_getD,-getElem?_pos,-getElem?_neg,om,Fy,h0,hBl];refine Wp.aX (fun (i:Nat)=>B.length-i) (fun i=> [none,some (.ptr 0 0),none,none,none,none,none,some (.ak c.bn bz E),some (.int .i64 B.length),some (.int .i64 i),none,none,none,none,none,none,none,none,none,none,none,none,none,none]) (fun _=> [.var 26 [.ak c.ln z (aw L),.ak c.bn bz E,.ak c.sn c.sz A3]]) (fun i=>ij L none B=ij L (if i=0 then none else B[i-1]?) (B.drop i)∧i≤B.length) ?_ 0 ⟨by simp,by omega⟩ (by simp) rfl;rintro i ⟨hi,hil⟩;rw [hi];clear hi;by_cases h1:i<B.length
 ·have hg:=hE i h1;obtain rfl:bz=4:=hbz (ne_of_lt h1);have hh:=mL c.ln z L hz hl B[i].aa;rw [List.drop_eq_getElem_cons h1];simp only [ij];have fin: ∃a,(ij L (some B[i]) (B.drop (i+1))=ij L (if a=0 then none else B[a-1]?) (B.drop a)∧a≤B.length)∧B.length-a<B.length-i∧(i:Int)+1=(a:Int):=⟨i+1,⟨by simp [h1],by omega⟩,by omega,by simp⟩
  -- the one before
  have hp:i≠0→ ∃p,B[i-1]?=some p∧E[i-1]?=some (.agg [.int .i64 p.el,.str p.aa,.str p.text,.int .i64 p.ix]):=fun h=>⟨B[i-1],List.getElem?_eq_getElem (by omega),hE _ (by omega)⟩;clear hE hz hbz;generalize ij L (some B[i]) (B.drop (i+1))=R at*
  generalize B[i]=x at*
  have lab: ∀o,xw L o x=if x.el<1∨64<x.el∨x.ix<0∨3<x.ix then 2 else if fE L x.aa=false then 7 else if x.text.length<1∨64<x.text.length then 4 else
   match o with
   | none=>0
   | some p=>if nu p.el p.aa x.el x.aa=false then 5 else if p.el=x.el∧p.ix≠x.ix then 10 else 0:=fun o=>rfl
  by_cases hi0:i=0
  ·subst hi0;rw [if_pos rfl];clear hp lab;generalize hlv:xw L none x=lv at*
   simp (maxSteps:=9^9) (disch:=omega) [-List.map_replicate,-List.map_set,-List.getD_eq_getElem?_getD,-getElem?_pos,-getElem?_neg,om,h1,hg,af,hh];unfold xw at hlv;by_cases e1:((x.el<1∨64<x.el)∨x.ix<0)∨3<x.ix
   ·rw [if_pos e1];rw [if_pos (by omega)] at hlv;subst hlv;rfl
   rw [if_neg e1];rw [if_neg (by omega)] at hlv;cases e2:fE L x.aa with
   | false=>rw [if_neg (by simp)];rw [if_pos e2] at hlv;subst hlv;rfl
   | true=>
    rw [if_pos rfl];rw [if_neg (by simp [e2])] at hlv;by_cases e3:(x.text.length:Int)<1∨64<(x.text.length:Int)
    ·rw [if_pos e3];rw [if_pos (by omega)] at hlv;subst hlv;rfl
    rw [if_neg e3];rw [if_neg (by omega)] at hlv;subst hlv;rw [if_pos rfl];exact fin
  ·obtain ⟨p,q1,q2⟩:=hp hi0;rw [if_neg hi0,q1];have c1:=sG p.el x.el;have c2:=C8 p.aa x.aa;have c3:=BA none (ig p.el x.el) (Lib.compareBytes p.aa x.aa);have c4:=vP p.el x.el p.aa x.aa;generalize (if ig p.el x.el=0 then Lib.compareBytes p.aa x.aa else ig p.el x.el)=rr at*
   generalize ig p.el x.el=r1 at*
   generalize Lib.compareBytes p.aa x.aa=r2 at*
   have hi1:(i:Int)≠0:=by omega
   have hi2:((i:Int)-1).toNat=i-1:=by omega
   clear hp lab;generalize hlv:xw L (some p) x=lv at*
   simp (maxSteps:=9^9) (disch:=omega) [-List.map_replicate,-List.map_set,-List.getD_eq_getElem?_getD,-getElem?_pos,-getElem?_neg,om,h1,hg,af,hh,hi0,hi1,hi2,q2,c1,c2,c3];unfold xw at hlv;by_cases e1:((x.el<1∨64<x.el)∨x.ix<0)∨3<x.ix
   ·rw [if_pos e1];rw [if_pos (by omega)] at hlv;subst hlv;rfl
   rw [if_neg e1];rw [if_neg (by omega)] at hlv;cases e2:fE L x.aa with
   | false=>rw [if_neg (by simp)];rw [if_pos e2] at hlv;subst hlv;rfl
   | true=>
    rw [if_pos rfl];rw [if_neg (by simp [e2])] at hlv;by_cases e3:(x.text.length:Int)<1∨64<(x.text.length:Int)
    ·rw [if_pos e3];rw [if_pos (by omega)] at hlv;subst hlv;rfl
    rw [if_neg e3];rw [if_neg (by omega)] at hlv;simp only at hlv;by_cases e4:0≤rr
    ·rw [if_pos e4];rw [if_pos (c4.1 e4)] at hlv;subst hlv;rfl
    rw [if_neg e4];rw [if_neg (fun h=>e4 (c4.2 h))] at hlv;by_cases e5:p.el=x.el∧ ¬ p.ix=x.ix
    ·rw [if_pos e5];rw [if_pos e5] at hlv;subst hlv;rfl
    rw [if_neg e5];rw [if_neg e5] at hlv;subst hlv;rw [if_pos rfl];exact fin
 ·rw [List.drop_eq_nil_of_le (by omega)];simp (maxSteps:=9^9) (disch:=omega) [-List.map_replicate,-List.map_set,-List.getD_eq_getElem?_getD,-getElem?_pos,-getElem?_neg,om,h1,ij]
end Go.Proofs.YtfnkchadeaedlaaGreatDoor
namespace Go.Proofs.YtfnkchadeaedlaaGreatDoor
open Go.Am
set_option maxRecDepth 10000
set_option maxHeartbeats 4000000
theorem HT (c:Ct) (hc:c.ok) (nl:Option Bool) (bz:Nat) (B:List Fc) (hbz:B≠ []→bz=3) (hbl:B.length<1000000):aq cfg 157 [bN c,.ak nl bz (B.map fV)] []=some (.int .i64 (nA c.ae B), []):=by
 refine ab O9 KU ?_;have hl:=hc.ll;have hz:=hc.lz;unfold nA bN df;generalize c.ay.map bU=A3 at*
 generalize c.aA.map dm=A2 at*
 generalize c.ae=L at*
 generalize c.lz=z at*
 have hBl:(B.map fV).length=B.length:=by simp
 have hE: ∀k (h:k<B.length),(B.map fV)[k]?=some (.agg [.int .i64 B[k].el,.str B[k].aa,.str B[k].text]):=fun k h=>get_map _ _ h;have hpl:aj (B.map fV)=true:=vO B;generalize B.map fV=E at*
 by_cases h0:32<B.length
 ·simp (maxSteps:=9^9) (disch:=omega) [-List.map_replicate,-List.map_set,-List.getD_eq_getElem?_getD,-getElem?_pos,-getElem?_neg,om,Fz,h0,hBl]
 rw [if_neg h0];simp (maxSteps:=9^9) (disch:=omega) [-List.map_replicate,-List.map_set,-List.getD_eq_getElem?_getD,-getElem?_pos,-getElem?_neg,om,Fz,h0,hBl];refine Wp.aX (fun (a:Nat×Option AV×Option AV×Option AV×Option AV)=>B.length-a.1) (fun a=> [none,some (.ak nl bz E),some (.ptr 0 0),none,none,none,none,some (.ak nl bz E),some (.int .i64 B.length),some (.int .i64 a.1),none,none,none,none,none,none,a.2.1,a.2.2.1,a.2.2.2.1,a.2.2.2.2,none]) (fun _=> [.var 26 [.ak c.ln z (aw L),.ak c.bn c.bz A2,.ak c.sn c.sz A3]]) (fun a=>ik L none B=ik L (if a.1=0 then none else B[a.1-1]?) (B.drop a.1)∧a.1≤B.length) ?_ (0,none,none,none,none) ⟨by simp,by simp⟩ (by simp) rfl;rintro ⟨i,o1,o2,o3,o4⟩ ⟨hi,hil⟩;simp only at hi hil⊢;rw [hi];clear hi;by_cases h1:i<B.length
 ·have hg:=hE i h1;obtain rfl:bz=3:=hbz (ne_of_lt h1);have hh:=mL c.ln z L hz hl B[i].aa;rw [List.drop_eq_getElem_cons h1];simp only [ik];have fin: ∃a,(ik L (some B[i]) (B.drop (i+1))=ik L (if a=0 then none else B[a-1]?) (B.drop a)∧a≤B.length)∧B.length-a<B.length-i∧(i:Int)+1=(a:Int):=⟨i+1,⟨by simp [h1],by omega⟩,by omega,by simp⟩;have hp:i≠0→ ∃p,B[i-1]?=some p∧E[i-1]?=some (.agg [.int .i64 p.el,.str p.aa,.str p.text]):=fun h=>⟨B[i-1],List.getElem?_eq_getElem (by omega),hE _ (by omega)⟩;clear hE hz hbz;generalize ik L (some B[i]) (B.drop (i+1))=R at*
  generalize B[i]=x at*
  by_cases hi0:i=0
  ·subst hi0;rw [if_pos rfl];clear hp;generalize hlv:yM L none x=lv at*
   simp (maxSteps:=9^9) (disch:=omega) [-List.map_replicate,-List.map_set,-List.getD_eq_getElem?_getD,-getElem?_pos,-getElem?_neg,om,h1,hg,af,hh];unfold yM at hlv;by_cases e1:x.el<1∨64<x.el
   ·rw [if_pos e1];rw [if_pos e1] at hlv;subst hlv;rfl
   rw [if_neg e1];rw [if_neg e1] at hlv;cases e2:fE L x.aa with
   | false=>rw [if_neg (by simp)];rw [if_pos e2] at hlv;subst hlv;rfl
   | true=>
    rw [if_pos rfl];rw [if_neg (by simp [e2])] at hlv;by_cases e3:(x.text.length:Int)<1∨4096<(x.text.length:Int)
    ·rw [if_pos e3];rw [if_pos (by omega)] at hlv;subst hlv;rfl
    rw [if_neg e3];rw [if_neg (by omega)] at hlv;subst hlv;rw [if_pos rfl];exact fin
  ·obtain ⟨p,q1,q2⟩:=hp hi0;rw [if_neg hi0,q1];have c1:=sG p.el x.el;have c2:=C8 p.aa x.aa;have c3:=BA none (ig p.el x.el) (Lib.compareBytes p.aa x.aa);have c4:=vP p.el x.el p.aa x.aa;generalize (if ig p.el x.el=0 then Lib.compareBytes p.aa x.aa else ig p.el x.el)=rr at*
   generalize ig p.el x.el=r1 at*
   generalize Lib.compareBytes p.aa x.aa=r2 at*
   have hi1:(0:Int)<(i:Int):=by omega
   have hi2:((i:Int)-1).toNat=i-1:=by omega
   clear hp;generalize hlv:yM L (some p) x=lv at*
   simp (maxSteps:=9^9) (disch:=omega) [-List.map_replicate,-List.map_set,-List.getD_eq_getElem?_getD,-getElem?_pos,-getElem?_neg,om,h1,hg,af,hh,hi0,hi1,hi2,q2,c1,c2,c3];unfold yM at hlv;by_cases e1:x.el<1∨64<x.el
   ·rw [if_pos e1];rw [if_pos e1] at hlv;subst hlv;rfl
   rw [if_neg e1];rw [if_neg e1] at hlv;cases e2:fE L x.aa with
   | false=>rw [if_neg (by simp)];rw [if_pos e2] at hlv;subst hlv;rfl
   | true=>
    rw [if_pos rfl];rw [if_neg (by simp [e2])] at hlv;by_cases e3:(x.text.length:Int)<1∨4096<(x.text.length:Int)
    ·rw [if_pos e3];rw [if_pos (by omega)] at hlv;subst hlv;rfl
    rw [if_neg e3];rw [if_neg (by omega)] at hlv;simp only at hlv;by_cases e4:0≤rr
    ·rw [if_pos e4];rw [if_pos (c4.1 e4)] at hlv;subst hlv;rfl
    rw [if_neg e4];rw [if_neg (fun h=>e4 (c4.2 h))] at hlv;subst hlv;rw [if_pos rfl];exact fin
 ·rw [List.drop_eq_nil_of_le (by omega)];simp (maxSteps:=9^9) (disch:=omega) [-List.map_replicate,-List.map_set,-List.getD_eq_getElem?_getD,-getElem?_pos,-getElem?_neg,om,h1,ik]
end Go.Proofs.YtfnkchadeaedlaaGreatDoor
namespace Go.Proofs.YtfnkchadeaedlaaGreatDoor
open Go.Am
set_option maxRecDepth 10000
set_option maxHeartbeats 4000000
theorem Dc (l:List Sh) {i:Nat} (h:i<l.length):(l.map bU)[i]?=some (.agg [.int .i64 l[i].unit,.int .i64 l[i].par,.int .i64 l[i].level,.str l[i].mark,.str l[i].title,.ak l[i].fn l[i].fz (l[i].facts.map fV)]):=get_map _ _ h
def yN (u:Int):List Sh→Nat→Int
 | [],_=> -1
 | s::r,i=>if s.unit=u then (i:Int) else yN u r (i+1)
theorem FB (u:Int): ∀(l:List Sh) (i:Nat),yN u l i=match cb l u with | some k=>((i+k:Nat):Int) | none=> -1
 | [],i=>rfl
 | x::r,i=>by
  unfold yN cb;by_cases h:x.unit=u
  ·rw [if_pos h,if_pos h];simp
  ·rw [if_neg h,if_neg h];rw [FB u r (i+1)];cases cb r u with
   | none=>rfl
   | some k=>simp only [Option.map_some];congr 1;omega
theorem FC (u:Int) (l:List Sh):yN u l 0=cC (cb l u):=by
 rw [FB];cases cb l u with
 | none=>rfl
 | some k=>simp [cC]
structure vQ (f:FuncId):Prop where
 ex:exts f=none
 ob:qq f=none
 ov:D8 f=none
 mu:il f=false
theorem yO (nl:Option Bool) (z:Nat) (l:List Sh) (hz:l≠ []→z=6) (hl:l.length<1000000) (f:FuncId) (hns:vQ f) (j:Nat) (bs:List ad) (u:Int)
  (hf: ∀s:Sh,aq cfg f [bU s,.ptr j 0] bs=some (.bool (s.unit==u),bs)) (hj:j<bs.length) (hsh:shut bs.length bs=true):
  aq cfg 108 [.ak nl z (l.map bU),.fn f [] [.ptr j 0]] bs=some (.int .i64 (cC (cb l u)),bs):=by
 refine ab Pa KV ?_;have hLl:(l.map bU).length=l.length:=by simp
 have hE: ∀i (h:i<l.length),(l.map bU)[i]?=some (bU l[i]):=fun i h=>get_map _ _ h;generalize l.map bU=E at*
 obtain ⟨n1,n2,n3,n4⟩:=hns;simp only [exts,qq,D8,il] at n1 n2 n3 n4;have hm:=shut_map (Nat.le_refl _) hsh;simp (maxSteps:=9^9) (disch:=omega) [-List.map_replicate,-List.map_set,-List.getD_eq_getElem?_getD,-getElem?_pos,-getElem?_neg,om,JH,hLl];rw [←FC];refine Wp.aX (fun (i:Nat)=>l.length-i) (fun i=> [some (.ak nl z E),some (.fn f [] [.ptr j 0]),none,none,some (.int .i64 l.length),some (.int .i64 i),none,none]) (fun _=>bs) (fun i=>yN u l 0=yN u (l.drop i) i∧i≤l.length) ?_ 0 ⟨by simp,by omega⟩ (by simp) rfl;rintro i ⟨hi,hil⟩;rw [hi];clear hi;by_cases h1:i<l.length
 ·have hg:=hE i h1;have hs:=hf l[i];obtain rfl:=hz (ne_of_lt h1);rw [List.drop_eq_getElem_cons h1];simp only [yN];generalize l[i]=x at*
  unfold bU at hg hs;simp (maxSteps:=9^9) (disch:=omega) [-List.map_replicate,-List.map_set,-List.getD_eq_getElem?_getD,-getElem?_pos,-getElem?_neg,om,h1,hg,hs,n1,n2,n3,n4];exact fun _=>⟨i+1,⟨rfl,by omega⟩,by omega,by simp⟩
 ·rw [List.drop_eq_nil_of_le (by omega)];simp (maxSteps:=9^9) (disch:=omega) [-List.map_replicate,-List.map_set,-List.getD_eq_getElem?_getD,-getElem?_pos,-getElem?_neg,om,h1,yN]
theorem FD (s:Sh) (u:Int):aq cfg 109 [bU s,.ptr 0 0] [.var 3 [.int .i64 u]]=some (.bool (s.unit==u), [.var 3 [.int .i64 u]]):=by refine ab Pb KW ?_;unfold bU;simp (maxSteps:=9^9) (disch:=omega) [-List.map_replicate,-List.map_set,-List.getD_eq_getElem?_getD,-getElem?_pos,-getElem?_neg,om,JI]
theorem sH (nl:Option Bool) (z:Nat) (l:List Sh) (hz:l≠ []→z=6) (hl:l.length<1000000) (u:Int):aq cfg 58 [.ak nl z (l.map bU),.int .i64 u] []=some (.int .i64 (cC (cb l u)), []):=by
 refine ab SO Pc ?_;have h:=yO nl z l hz hl 109 ⟨rfl,rfl,rfl,rfl⟩ 0 [.var 3 [.int .i64 u]] u (fun s=>FD s u) (by simp) rfl;have hpl:=jU l;generalize l.map bU=E at*
 simp (maxSteps:=9^9) (disch:=omega) [-List.map_replicate,-List.map_set,-List.getD_eq_getElem?_getD,-getElem?_pos,-getElem?_neg,om,Pd,h,hpl]
end Go.Proofs.YtfnkchadeaedlaaGreatDoor
namespace Go.Proofs.YtfnkchadeaedlaaGreatDoor
open Go.Am
set_option maxRecDepth 10000
set_option maxHeartbeats 4000000
theorem BB (P:List Int) (k:Nat):(dM P).take k=dM (P.take k):=by simp [dM]
theorem qt (P Q:List Int):dM P++dM Q=dM (P++Q):=by simp [dM]
theorem Dd: ∀{l:List Int} {u:Int} {k:Nat},nS l u=some k→k<l.length
 | x::r,u,k,h=>by
  unfold nS at h;split at h
  ·cases h;simp
  ·cases hr:nS r u with
   | none=>rw [hr] at h;cases h
   | some j=>rw [hr] at h;simp only [Option.map_some,Option.some.injEq] at h;have:=Dd hr;simp only [List.length_cons];omega
theorem vR (o:Option Nat):(0≤cC o)↔o.isSome=true:=by
 cases o with
 | none=>simp [cC]
 | some n=>simp [cC]
theorem im (pre:List Sh) (x:Sh):((((x.unit<1∨1073741824<x.unit)∨x.level<1)∨4<x.level)→kG pre x=2)∧
  (¬ (((x.unit<1∨1073741824<x.unit)∨x.level<1)∨4<x.level)→((64<(x.mark.length:Int)∨(x.title.length:Int)<1)∨64<(x.title.length:Int))→kG pre x=4)∧
  (¬ (((x.unit<1∨1073741824<x.unit)∨x.level<1)∨4<x.level)→ ¬ ((64<(x.mark.length:Int)∨(x.title.length:Int)<1)∨64<(x.title.length:Int))→0≤cC (cb pre x.unit)→kG pre x=6)∧
  (¬ (((x.unit<1∨1073741824<x.unit)∨x.level<1)∨4<x.level)→ ¬ ((64<(x.mark.length:Int)∨(x.title.length:Int)<1)∨64<(x.title.length:Int))→ ¬ 0≤cC (cb pre x.unit)→kG pre x=0):=by
 unfold kG;refine ⟨fun h=> ?_,fun h1 h2=> ?_,fun h1 h2 h3=> ?_,fun h1 h2 h3=> ?_⟩
 ·rw [if_pos (by omega)]
 ·rw [if_neg (by omega),if_pos (by omega)]
 ·rw [if_neg (by omega),if_neg (by omega),if_pos ((vR _).1 h3)]
 ·rw [if_neg (by omega),if_neg (by omega),if_neg (fun h=>h3 ((vR _).2 h))]
theorem KX (c:Ct) (hc:c.ok):aq cfg 106 [bN c] []=some (.int .i64 (sY c.ae c.ay), []):=by
 refine ab Pe KY ?_;have hF:=fun (B:List Fc) nl z=>HT c hc nl z B;have hz:=hc.sz;have hl:=hc.sl;have hsh:=hc.sh;unfold sY;unfold bN df at*
 generalize aw c.ae=A1 at*
 generalize c.aA.map dm=A2 at*
 have hBl:(c.ay.map bU).length=c.ay.length:=by simp
 have hE: ∀k (h:k<c.ay.length),(c.ay.map bU)[k]?=some (.agg [.int .i64 c.ay[k].unit,.int .i64 c.ay[k].par,.int .i64 c.ay[k].level,.str c.ay[k].mark,.str c.ay[k].title,.ak c.ay[k].fn c.ay[k].fz (c.ay[k].facts.map fV)]):=fun k h=>Dc _ h
 have hfd: ∀k (h:k<c.ay.length),aq cfg 58 [.ak c.sn 6 ((c.ay.map bU).take k),.int .i64 c.ay[k].unit] []=some (.int .i64 (cC (cb (c.ay.take k) c.ay[k].unit)), []):=fun k h=>by
  have:=sH c.sn 6 (c.ay.take k) (fun _=>rfl) (by simp;omega) c.ay[k].unit
  rwa [List.map_take] at this
 have hpl:aj (c.ay.map bU)=true:=jU _;generalize c.ay.map bU=E at*
 generalize c.ay=L at*
 by_cases h0:256<L.length
 ·simp (maxSteps:=9^9) (disch:=omega) [-List.map_replicate,-List.map_set,-List.getD_eq_getElem?_getD,-getElem?_pos,-getElem?_neg,om,FE,h0,hBl]
 rw [if_neg h0];simp (maxSteps:=9^9) (disch:=omega) [-List.map_replicate,-List.map_set,-List.getD_eq_getElem?_getD,-getElem?_pos,-getElem?_neg,om,FE,h0,hBl];refine Wp.aX (fun (a:Nat×Nat×List Int×List ad)=>L.length-a.1) (fun a=> [none,some (.ptr 0 0),none,some (.az (1+a.2.1) a.2.2.1.length),none,none,none,none,none,some (.ak c.sn c.sz E),some (.int .i64 L.length),some (.int .i64 a.1),none,none,none,none,none,none,none,none,none,none,none,none,none,none,none,none]) (fun a=> .var 26 [.ak c.ln c.lz A1,.ak c.bn c.bz A2,.ak c.sn c.sz E]::a.2.2.2) (fun a=>lJ c.ae [] [] L=lJ c.ae (L.take a.1) a.2.2.1 (L.drop a.1)∧a.1≤L.length∧a.2.1<a.2.2.2.length∧ad.at a.2.2.2 a.2.1= .sl ⟨false,some 3,none⟩ 1 (dM a.2.2.1)∧a.2.2.1.length≤a.1∧ ∀n,shut n a.2.2.2=true) ?_ (0,0, [], [.sl ⟨false,some 3,none⟩ 1 []]) ⟨by simp,by simp,by simp,rfl,by simp,fun _=>rfl⟩ (by simp) rfl;rintro ⟨i,j,P,J⟩ ⟨hi,hil,hj,hjb,hPl,hJ⟩;simp only at hi hil hj hjb hPl hJ⊢;rw [hi];clear hi;by_cases h1:i<L.length
 ·have hg:=hE i h1;obtain hz6:c.sz=6:=hz (ne_of_lt h1);rw [hz6] at hF⊢;have hh:=hfd i h1;have hso:=hsh L[i] (List.getElem_mem h1);have hFF:=hF L[i].facts L[i].fn L[i].fz hso.fz hso.fl;rw [List.drop_eq_getElem_cons h1];simp only [lJ];have htk:L.take (i+1)=L.take i++ [L[i]]:=sW L h1;clear hE hfd hF hz hsh hso;generalize L[i]=x at*
  generalize x.facts.map fV=FA at*
  generalize nA c.ae x.facts=fe at*
  have hix:=D6 none 1 P (fun _=>rfl) (by omega) x.par;rw [Fv] at hix;obtain ⟨ct,hctd⟩: ∃ct,ct=ad.var 26 [.ak c.ln c.lz A1,.ak c.bn c.bz A2,.ak c.sn 6 E]:=⟨_,rfl⟩;obtain ⟨bs,hbs⟩: ∃bs,bs=ct::J:=⟨_,rfl⟩;rw [←hctd,←hbs];have hbl:bs.length=J.length+1:=by rw [hbs];rfl
  have hcu: ∀n,shut n [ct]=true:=fun n=>by rw [hctd];rfl
  have e0: ∀l,ad.at (bs++l) 0= .var 26 [.ak c.ln c.lz A1,.ak c.bn c.bz A2,.ak c.sn 6 E]:=fun l=>by rw [hbs,hctd];rfl
  have e0':=e0 [];rw [List.append_nil] at e0'
  have e1: ∀l,ad.at (bs++l) (1+j)= .sl ⟨false,some 3,none⟩ 1 (dM P):=fun l=>by
   rw [hbs,Nat.add_comm];show ad.at (J++l) j=_;rw [eJ _ _ hj,hjb]
  have e1':=e1 [];rw [List.append_nil] at e1'
  have mk: ∀Y:ad,(∀n,shut n [Y]=true)→ ∃C,C=ct::J.set j Y∧(∀l,(bs++l).set (1+j) Y=C++l)∧C.length=bs.length∧(∀l,ad.at (C++l) 0= .var 26 [.ak c.ln c.lz A1,.ak c.bn c.bz A2,.ak c.sn 6 E])∧(∀l m,(C++l)[bs.length+m]?=l[m]?)∧(∀l m X,(C++l).set (bs.length+m) X=C++l.set m X)∧C.map (bp bs.length)=C∧(∀l,(C++l).take bs.length=C)∧(∀l m,ad.at (C++l) (bs.length+m)=ad.at l m):=fun Y hY=>by
   have hCl:(ct::J.set j Y).length=bs.length:=by rw [hbl];simp
   refine ⟨ct::J.set j Y,rfl,fun l=> ?_,hCl,fun l=>by rw [hctd];rfl,fun l m=>by rw [←hCl];exact dn _ _ _,fun l m X=>by rw [←hCl];exact cy _ _ _ _,?_,fun l=>List.take_left' hCl,fun l m=>by rw [←hCl,dN]⟩
   ·rw [hbs,Nat.add_comm];show ct::((J++l).set j Y)=_;rw [List.set_append_left _ _ hj];rfl
   ·refine shut_map (Nat.le_refl _) ?_;have h2:=hcu bs.length;have h3:shut bs.length (J.set j Y)=true:=(show nv (J.set j Y) from nv.set (fun n=>hJ n) j (fun n=>hY n)) _;show shut bs.length ([ct]++J.set j Y)=true;rw [dO,h2,h3];rfl
  have a1:bs.length+1-bs.length=1:=by omega
  have a2:bs.length+1+1-bs.length=2:=by omega
  have a3:bs.length+1+1+1-bs.length=3:=by omega
  have hil2:(dM P).length=P.length:=D5 P;have hitk: ∀k,(dM P).take k=dM (P.take k):=BB P;generalize hV:(if kG (L.take i) x=0 then _ else kG (L.take i) x)=V;have b0: ∀l:List ad,(bs++l)[bs.length]?=l[0]?:=fun l=>by have:=dn bs l 0;simpa using this
  have b1: ∀l:List ad,(bs++l)[bs.length+1]?=l[1]?:=fun l=>dn bs l 1;have b2: ∀l:List ad,(bs++l)[bs.length+1+1]?=l[2]?:=fun l=>dn bs l 2;by_cases hpar:x.par=0
  ·have hpl0:fj P x=some 0:=by unfold fj;rw [if_pos hpar]
   rw [hpl0] at hV;by_cases hP0:P= []
   ·subst hP0;obtain ⟨C,hC,s1,s2,s3,s4,s5,s6,s7,s8⟩:=mk (.sl ⟨false,some 3,none⟩ 1 (dM []++ [.int .i64 x.unit])) (fun n=>rfl);have s80: ∀l,ad.at (C++l) bs.length=ad.at l 0:=fun l=>by simpa using s8 l 0
    have s40: ∀l,(C++l)[bs.length]?=l[0]?:=fun l=>by simpa using s4 l 0
    have s50: ∀l X,(C++l).set bs.length X=C++l.set 0 X:=fun l X=>by simpa using s5 l 0 X
    clear hbs hctd mk hcu;simp (maxSteps:=9^9) (disch:=omega) [-List.map_replicate,-List.map_set,-List.getD_eq_getElem?_getD,-getElem?_pos,-getElem?_neg,om,h1,hg,af,hh,hFF,hpar,hix,  e0,e0',e1,e1',s1,s2,s3,s4,s5,s6,s7,s8,s80,s40,s50,b2,b1,b0,a1,a2,a3,hil2,hitk];simp only at hV;obtain ⟨k1,k2,k3,k4⟩:=im (L.take i) x;by_cases f1:((x.unit<1∨1073741824<x.unit)∨x.level<1)∨4<x.level
    ·rw [if_pos f1];rw [k1 f1,if_neg (by decide)] at hV;exact hV
    rw [if_neg f1];by_cases f2:(64<(x.mark.length:Int)∨(x.title.length:Int)<1)∨64<(x.title.length:Int)
    ·rw [if_pos f2];rw [k2 f1 f2,if_neg (by decide)] at hV;exact hV
    rw [if_neg f2];by_cases f3:0≤cC (cb (L.take i) x.unit)
    ·rw [if_pos f3];rw [k3 f1 f2 f3,if_neg (by decide)] at hV;exact hV
    rw [if_neg f3];rw [k4 f1 f2 f3,if_pos rfl] at hV;rw [if_neg (by decide)] at hV;by_cases f5:fe=0
    ·rw [if_pos f5];rw [if_pos f5] at hV;exact ⟨i+1,j, [x.unit],J.set j (.sl ⟨false,some 3,none⟩ 1 [.int .i64 x.unit]),⟨by rw [htk];exact hV.symm,by omega,by simpa using hj,by rw [aZ _ _ _ hj,if_pos rfl];rfl,by simp,fun n=>nv.set (fun n=>hJ n) j (fun n=>rfl) n⟩,by omega,⟨⟨rfl,rfl⟩,by simp⟩,hC⟩
    ·rw [if_neg f5];rw [if_neg f5] at hV;exact hV
   ·have hPl0: ¬ P.length=0:=fun h=>hP0 (List.length_eq_zero_iff.1 h);have hPl1: ¬ 0=P.length:=fun h=>hPl0 h.symm;obtain ⟨C,hC,s1,s2,s3,s4,s5,s6,s7,s8⟩:=mk (.gone) (fun n=>rfl);have s80: ∀l,ad.at (C++l) bs.length=ad.at l 0:=fun l=>by simpa using s8 l 0
    have s40: ∀l,(C++l)[bs.length]?=l[0]?:=fun l=>by simpa using s4 l 0
    have s50: ∀l X,(C++l).set bs.length X=C++l.set 0 X:=fun l X=>by simpa using s5 l 0 X
    clear hbs hctd mk hcu;simp (maxSteps:=9^9) (disch:=omega) [-List.map_replicate,-List.map_set,-List.getD_eq_getElem?_getD,-getElem?_pos,-getElem?_neg,om,h1,hg,af,hh,hFF,hpar,hix,hPl0,hPl1,e0,e0',e1,e1',s1,s2,s3,s4,s5,s6,s7,s8,s80,s40,s50,b2,b1,b0,a1,a2,a3,hil2,hitk];simp only at hV;obtain ⟨k1,k2,k3,k4⟩:=im (L.take i) x;by_cases f1:((x.unit<1∨1073741824<x.unit)∨x.level<1)∨4<x.level
    ·rw [if_pos f1];rw [k1 f1,if_neg (by decide)] at hV;exact hV
    rw [if_neg f1];by_cases f2:(64<(x.mark.length:Int)∨(x.title.length:Int)<1)∨64<(x.title.length:Int)
    ·rw [if_pos f2];rw [k2 f1 f2,if_neg (by decide)] at hV;exact hV
    rw [if_neg f2];by_cases f3:0≤cC (cb (L.take i) x.unit)
    ·rw [if_pos f3];rw [k3 f1 f2 f3,if_neg (by decide)] at hV;exact hV
    rw [if_neg f3];rw [k4 f1 f2 f3,if_pos rfl] at hV;rw [if_neg (by decide)] at hV;by_cases f5:fe=0
    ·rw [if_pos f5];rw [if_pos f5] at hV;have hb: ∀l,C++l=ct::(J.set j .gone++l):=fun l=>by rw [hC];rfl
     refine ⟨i+1,J.length+2, []++ [x.unit],_,⟨by rw [htk];exact hV.symm,by omega,?_,?_,?_,?_⟩,by omega,⟨⟨by omega,by simp⟩,by simp⟩,hb _⟩
     ·simp
     ·rw [show J.length+2=(J.set j ad.gone).length+2 by simp,dN];rw [←qt];rfl
     ·simp
     ·exact fun n=>nv.app (nv.set (fun n=>hJ n) j (fun n=>rfl)) (fun n=>rfl) n
    ·rw [if_neg f5];rw [if_neg f5] at hV;exact hV
  ·cases hI:nS P x.par with
   | none=>
    have hpl0:fj P x=none:=by unfold fj;rw [if_neg hpar,hI];rfl
    rw [hpl0] at hV;rw [hI] at hix;simp only at hix;clear mk;simp (maxSteps:=9^9) (disch:=omega) [-List.map_replicate,-List.map_set,-List.getD_eq_getElem?_getD,-getElem?_pos,-getElem?_neg,om,h1,hg,af,hh,hFF,hpar,hix,e0,e0',e1,e1',b2,b1,b0,a1,a2,a3,hil2,hitk];simp only at hV;obtain ⟨k1,k2,k3,k4⟩:=im (L.take i) x;by_cases f1:((x.unit<1∨1073741824<x.unit)∨x.level<1)∨4<x.level
    ·rw [if_pos f1];rw [k1 f1,if_neg (by decide)] at hV;exact hV
    rw [if_neg f1];by_cases f2:(64<(x.mark.length:Int)∨(x.title.length:Int)<1)∨64<(x.title.length:Int)
    ·rw [if_pos f2];rw [k2 f1 f2,if_neg (by decide)] at hV;exact hV
    rw [if_neg f2];by_cases f3:0≤cC (cb (L.take i) x.unit)
    ·rw [if_pos f3];rw [k3 f1 f2 f3,if_neg (by decide)] at hV;exact hV
    rw [if_neg f3];rw [k4 f1 f2 f3,if_pos rfl] at hV;exact hV
   | some k=>
    have hpl0:fj P x=some (k+1):=by unfold fj;rw [if_neg hpar,hI];rfl
    rw [hpl0] at hV;rw [hI] at hix;simp only [Nat.zero_add] at hix;have hkl:=Dd hI;have hk1:((k:Int)+1).toNat=k+1:=by omega
    have hk2: ¬ ((k:Int)+1=0):=by omega
    have hk3:((k:Int)+1)≤(P.length:Int):=by omega
    by_cases hkP:k+1=P.length
    ·have htkP:P.take (k+1)=P:=List.take_of_length_le (by omega);have hkP2:(k:Int)+1=(P.length:Int):=by omega
     obtain ⟨C,hC,s1,s2,s3,s4,s5,s6,s7,s8⟩:=mk (.sl ⟨false,some 3,none⟩ 1 (dM P++ [.int .i64 x.unit])) (fun n=>rfl);have s80: ∀l,ad.at (C++l) bs.length=ad.at l 0:=fun l=>by simpa using s8 l 0
     have s40: ∀l,(C++l)[bs.length]?=l[0]?:=fun l=>by simpa using s4 l 0
     have s50: ∀l X,(C++l).set bs.length X=C++l.set 0 X:=fun l X=>by simpa using s5 l 0 X
     clear hbs hctd mk hcu;simp (maxSteps:=9^9) (disch:=omega) [-List.map_replicate,-List.map_set,-List.getD_eq_getElem?_getD,-getElem?_pos,-getElem?_neg,om,h1,hg,af,hh,hFF,hpar,hix,hk1,hk2,hk3,hkP,e0,e0',e1,e1',s1,s2,s3,s4,s5,s6,s7,s8,s80,s40,s50,b2,b1,b0,a1,a2,a3,hil2,hitk];simp only at hV;obtain ⟨k1,k2,k3,k4⟩:=im (L.take i) x;by_cases f1:((x.unit<1∨1073741824<x.unit)∨x.level<1)∨4<x.level
     ·rw [if_pos f1];rw [k1 f1,if_neg (by decide)] at hV;exact hV
     rw [if_neg f1];by_cases f2:(64<(x.mark.length:Int)∨(x.title.length:Int)<1)∨64<(x.title.length:Int)
     ·rw [if_pos f2];rw [k2 f1 f2,if_neg (by decide)] at hV;exact hV
     rw [if_neg f2];by_cases f3:0≤cC (cb (L.take i) x.unit)
     ·rw [if_pos f3];rw [k3 f1 f2 f3,if_neg (by decide)] at hV;exact hV
     rw [if_neg f3];rw [k4 f1 f2 f3,if_pos rfl] at hV;by_cases f4:12≤(k:Int)+1
     ·rw [if_pos f4];rw [if_pos (by omega)] at hV;exact hV
     rw [if_neg f4];rw [if_neg (by omega)] at hV;by_cases f5:fe=0
     ·rw [if_pos f5];rw [if_pos f5] at hV;rw [htkP] at hV;exact ⟨i+1,j,P++ [x.unit],J.set j (.sl ⟨false,some 3,none⟩ 1 (dM P++ [.int .i64 x.unit])),⟨by rw [htk];exact hV.symm,by omega,by simpa using hj,by rw [aZ _ _ _ hj,if_pos rfl,←qt];rfl,by simp;omega,fun n=>nv.set (fun n=>hJ n) j (fun n=>rfl) n⟩,by omega,⟨⟨rfl,by simp⟩,by simp⟩,hC⟩
     ·rw [if_neg f5];rw [if_neg f5] at hV;exact hV
    ·have hkP2: ¬ (k+1=P.length):=hkP;obtain ⟨C,hC,s1,s2,s3,s4,s5,s6,s7,s8⟩:=mk (.gone) (fun n=>rfl);have s80: ∀l,ad.at (C++l) bs.length=ad.at l 0:=fun l=>by simpa using s8 l 0
     have s40: ∀l,(C++l)[bs.length]?=l[0]?:=fun l=>by simpa using s4 l 0
     have s50: ∀l X,(C++l).set bs.length X=C++l.set 0 X:=fun l X=>by simpa using s5 l 0 X
     clear hbs hctd mk hcu;simp (maxSteps:=9^9) (disch:=omega) [-List.map_replicate,-List.map_set,-List.getD_eq_getElem?_getD,-getElem?_pos,-getElem?_neg,om,h1,hg,af,hh,hFF,hpar,hix,hk1,hk2,hk3,hkP,e0,e0',e1,e1',s1,s2,s3,s4,s5,s6,s7,s8,s80,s40,s50,b2,b1,b0,a1,a2,a3,hil2,hitk];simp only at hV;obtain ⟨k1,k2,k3,k4⟩:=im (L.take i) x;by_cases f1:((x.unit<1∨1073741824<x.unit)∨x.level<1)∨4<x.level
     ·rw [if_pos f1];rw [k1 f1,if_neg (by decide)] at hV;exact hV
     rw [if_neg f1];by_cases f2:(64<(x.mark.length:Int)∨(x.title.length:Int)<1)∨64<(x.title.length:Int)
     ·rw [if_pos f2];rw [k2 f1 f2,if_neg (by decide)] at hV;exact hV
     rw [if_neg f2];by_cases f3:0≤cC (cb (L.take i) x.unit)
     ·rw [if_pos f3];rw [k3 f1 f2 f3,if_neg (by decide)] at hV;exact hV
     rw [if_neg f3];rw [k4 f1 f2 f3,if_pos rfl] at hV;by_cases f4:12≤(k:Int)+1
     ·rw [if_pos f4];rw [if_pos (by omega)] at hV;exact hV
     rw [if_neg f4];rw [if_neg (by omega)] at hV;by_cases f5:fe=0
     ·rw [if_pos f5];rw [if_pos f5] at hV;have hb: ∀l,C++l=ct::(J.set j .gone++l):=fun l=>by rw [hC];rfl
      refine ⟨i+1,J.length+2,P.take (k+1)++ [x.unit],_,⟨by rw [htk];exact hV.symm,by omega,?_,?_,?_,?_⟩,by omega,⟨⟨by omega,by simp;omega⟩,by simp⟩,hb _⟩
      ·simp
      ·rw [show J.length+2=(J.set j ad.gone).length+2 by simp,dN];rw [←qt];rfl
      ·simp;omega
      ·exact fun n=>nv.app (nv.set (fun n=>hJ n) j (fun n=>rfl)) (fun n=>rfl) n
     ·rw [if_neg f5];rw [if_neg f5] at hV;exact hV
 ·rw [List.drop_eq_nil_of_le (by omega)];simp (maxSteps:=9^9) (disch:=omega) [-List.map_replicate,-List.map_set,-List.getD_eq_getElem?_getD,-getElem?_pos,-getElem?_neg,om,h1,lJ]
theorem sZ (c:Ct) (hc:c.ok):aq cfg 56 [bN c] []=some (.int .i64 (gf c), []):=by
 refine ab SP Pf ?_;have h1:=Fx c hc;have h2:=HS c hc;have h3:=KX c hc;unfold gf;unfold bN df at*
 generalize nT c.ae=e1 at*
 generalize sX c.ae c.aA=e2 at*
 generalize sY c.ae c.ay=e3 at*
 by_cases k1:e1=0
 ·by_cases k2:e2=0
  ·simp (maxSteps:=9^9) (disch:=omega) [-List.map_replicate,-List.map_set,-List.getD_eq_getElem?_getD,-getElem?_pos,-getElem?_neg,om,HU,h1,h2,h3,k1,k2]
  ·simp (maxSteps:=9^9) (disch:=omega) [-List.map_replicate,-List.map_set,-List.getD_eq_getElem?_getD,-getElem?_pos,-getElem?_neg,om,HU,h1,h2,k1,k2]
 ·simp (maxSteps:=9^9) (disch:=omega) [-List.map_replicate,-List.map_set,-List.getD_eq_getElem?_getD,-getElem?_pos,-getElem?_neg,om,HU,h1,k1]
end Go.Proofs.YtfnkchadeaedlaaGreatDoor
namespace Go.Proofs.YtfnkchadeaedlaaGreatDoor
open Go.Am
set_option maxRecDepth 10000
set_option maxHeartbeats 4000000
theorem s9 (order:List ag) (cur f:Fc) (r:List Fc):gJ order cur (f::r)=if cur.el≠f.el then cur::gJ order f r else if rk order f.aa<rk order cur.aa then gJ order f r else gJ order cur r:=by rw [gJ]
theorem tc (nl:Option Bool) (z:Nat) (l:List Fc) (hz:l≠ []→z=3) (hl:l.length<1000000) (on:Option Bool) (order:List ag) (ho:order.length<1000000):
  aq cfg 79 [.ak nl z (l.map fV),.ak on 1 (aw order)] []=some (.ak none 3 ((aD order l).map fV), []):=by
 refine ab SQ Pg ?_;have hLl:(l.map fV).length=l.length:=by simp
 have hE: ∀k (h:k<l.length),(l.map fV)[k]?=some (.agg [.int .i64 l[k].el,.str l[k].aa,.str l[k].text]):=fun k h=>get_map _ _ h;have hI:=fun w=>jW on 1 order (fun _=>rfl) ho w;simp only [C5] at hI;generalize l.map fV=E at*
 simp (maxSteps:=9^9) (disch:=omega) [-List.map_replicate,-List.map_set,-List.getD_eq_getElem?_getD,-getElem?_pos,-getElem?_neg,om,Ph,hLl];refine Wp.aX (fun (a:Nat×List Fc)=>l.length-a.1) (fun a=> [none,some (.ak on 1 (aw order)),none,some (.az 0 a.2.length),none,none,some (.ak nl z E),some (.int .i64 l.length),some (.int .i64 a.1),none,none,none,none,none,none,none,none]) (fun a=> [.sl ⟨false,some 79,none⟩ 3 (a.2.map fV)]) (fun a=>a.1≤l.length∧a.2.length≤a.1∧((a.1=0∧a.2= [])∨ ∃done cur,a.2=done++ [cur]∧aD order l=done++gJ order cur (l.drop a.1))) ?_ (0, []) ⟨by simp,by simp,.inl ⟨rfl,rfl⟩⟩ (by simp) rfl;rintro ⟨i,out⟩ ⟨hil,hol,hx⟩;simp only at hil hol hx⊢;by_cases h1:i<l.length
 ·have hg:=hE i h1;obtain rfl:=hz (ne_of_lt h1);have hd:=List.drop_eq_getElem_cons h1;rcases hx with ⟨rfl,rfl⟩ | ⟨done,cur,rfl,hx⟩
  ·have h0:aD order l= []++gJ order l[0] (l.drop 1):=by
    cases l with
    | nil=>simp at h1
    | cons f r=>rfl
   clear hE hz;generalize l[0]=x at*
   simp (maxSteps:=9^9) (disch:=omega) [-List.map_replicate,-List.map_set,-List.getD_eq_getElem?_getD,-getElem?_pos,-getElem?_neg,om,h1,hg,af];exact ⟨1, [x],⟨by omega,by simp,.inr ⟨[],x,rfl,h0⟩⟩,by omega,⟨rfl,rfl⟩,rfl⟩
  ·rw [hd] at hx;rw [s9] at hx;have hi1:=hI l[i].aa;have hi2:=hI cur.aa;have hpos:0<i:=by have:(done++ [cur]).length≤i:=hol;simp at this;omega
   clear hE hz hI;generalize l[i]=x at*
   have hlast:((done++ [cur]).map fV)[done.length]?=some (.agg [.int .i64 cur.el,.str cur.aa,.str cur.text]):=by simp [fV]
   have hlen:(done++ [cur]).length=done.length+1:=by simp
   have hlen2:((done++ [cur]).map fV).length=done.length+1:=by simp
   have hset:((done++ [cur]).map fV).set done.length (.agg [.int .i64 x.el,.str x.aa,.str x.text])=(done++ [x]).map fV:=by simp [fV,List.set_append]
   have hn1:((done.length:Int)+1-1).toNat=done.length:=by omega
   have happ:(done++ [cur]).map fV++ [.agg [.int .i64 x.el,.str x.aa,.str x.text]]=(done++ [cur]++ [x]).map fV:=by simp [fV]
   have hn0: ¬ ((done.length:Int)+1=0):=by omega
   rw [hlen];generalize hOA:(done++ [cur]).map fV=OA at*
   simp (maxSteps:=9^9) (disch:=omega) [-List.map_replicate,-List.map_set,-List.getD_eq_getElem?_getD,-getElem?_pos,-getElem?_neg,om,h1,hg,af,hi1,hi2,hlast,hlen2,hset,hn1,happ,hn0];by_cases e1:cur.el=x.el
   ·rw [if_pos e1];rw [if_neg (fun h=>h e1)] at hx;by_cases e2:rk order x.aa<rk order cur.aa
    ·rw [if_pos e2];rw [if_pos e2] at hx;exact ⟨i+1,done++ [x],⟨by omega,by simp at hol⊢;omega,.inr ⟨done,x,rfl,hx⟩⟩,by omega,⟨by simp,by simp⟩,by simp⟩
    ·rw [if_neg e2];rw [if_neg e2] at hx;exact ⟨i+1,done++ [cur],⟨by omega,by simp at hol⊢;omega,.inr ⟨done,cur,rfl,hx⟩⟩,by omega,⟨by simp,by simp⟩,hOA.symm⟩
   ·rw [if_neg e1];rw [if_pos e1] at hx;exact ⟨i+1,done++ [cur]++ [x],⟨by omega,by simp at hol⊢;omega,.inr ⟨done++ [cur],x,rfl,by rw [hx];simp⟩⟩,by omega,⟨by simp,by simp⟩,by simp⟩
 ·have hi2:i=l.length:=by omega
  subst hi2
  have hfin:aD order l=out:=by
   rcases hx with ⟨h0,rfl⟩ | ⟨done,cur,rfl,hx⟩
   ·rw [List.length_eq_zero_iff.1 h0];rfl
   ·rw [hx,List.drop_length];rfl
  rw [hfin];simp (maxSteps:=9^9) (disch:=omega) [-List.map_replicate,-List.map_set,-List.getD_eq_getElem?_getD,-getElem?_pos,-getElem?_neg,om,h1]
theorem yP (order:List ag) (el:Int) (t:ag) (b:Int) (l:Lb) (r:List Lb):gA order el t b (l::r)=if l.el=el∧rk order l.aa<b then gA order el l.text (rk order l.aa) r else gA order el t b r:=by rw [gA]
theorem yQ (c:Ct) (hc:c.ok) (el:Int) (h0: -9223372036854775808≤el) (h9:el≤9223372036854775807) (on:Option Bool) (order:List ag) (ho:order.length<1000000):
  aq cfg 113 [bN c,.int .i64 el,.ak on 1 (aw order)] []=some (.str (iq order c.aA el (gK Lib.itoa el)), []):=by
 refine ab Pj KZ ?_;have hbl:=hc.bl;have hbz:=hc.bz;have hil:=Lib.itoa_length_le el h0 h9;have hI:=fun w=>jW on 1 order (fun _=>rfl) ho w;simp only [C5] at hI;unfold iq gK bN df;obtain ⟨d,hd⟩: ∃d,d= [101,108,101,109,101,110,116,32]++Lib.itoa el:=⟨_,rfl⟩;have hd2:101::108::101::109::101::110::116::32::Lib.itoa el=d:=by rw [hd];rfl
 rw [←hd];generalize c.ay.map bU=A3 at*
 generalize aw c.ae=A1 at*
 generalize c.aA=B at*
 generalize c.bz=bz at*
 have hBl:(B.map dm).length=B.length:=by simp
 have hE: ∀k (h:k<B.length),(B.map dm)[k]?=some (.agg [.int .i64 B[k].el,.str B[k].aa,.str B[k].text,.int .i64 B[k].ix]):=fun k h=>get_map _ _ h;generalize B.map dm=E at*
 have hol:(aw order).length=order.length:=jV order;simp (maxSteps:=9^9) (disch:=omega) [-List.map_replicate,-List.map_set,-List.getD_eq_getElem?_getD,-getElem?_pos,-getElem?_neg,om,JJ,rj,h0,h9,hBl,hol,hd2];refine Wp.aX (fun (a:Nat×ag×Int)=>B.length-a.1) (fun a=> [none,some (.int .i64 el),some (.ak on 1 (aw order)),none,none,some (.str a.2.1),some (.int .i64 a.2.2),none,none,none,some (.ak c.bn bz E),some (.int .i64 B.length),some (.int .i64 a.1),none,none,none,none]) (fun _=> [.var 26 [.ak c.ln c.lz A1,.ak c.bn bz E,.ak c.sn c.sz A3]]) (fun a=>a.1≤B.length∧gA order el d order.length B=gA order el a.2.1 a.2.2 (B.drop a.1)) ?_ (0,d,order.length) ⟨by simp,by simp⟩ (by simp) rfl;rintro ⟨i,t,b⟩ ⟨hil,hx⟩;simp only at hil hx⊢;rw [hx];clear hx;by_cases h1:i<B.length
 ·have hg:=hE i h1;obtain rfl:bz=4:=hbz (ne_of_lt h1);have hi1:=hI B[i].aa;rw [List.drop_eq_getElem_cons h1,yP];clear hE hbz hI;generalize B[i]=x at*
  simp (maxSteps:=9^9) (disch:=omega) [-List.map_replicate,-List.map_set,-List.getD_eq_getElem?_getD,-getElem?_pos,-getElem?_neg,om,h1,hg,af,hi1];by_cases e1:x.el=el∧rk order x.aa<b
  ·rw [if_pos e1];exact ⟨i+1,_,_,⟨by omega,rfl⟩,by omega,rfl,rfl,by simp⟩
  ·rw [if_neg e1];exact ⟨i+1,t,b,⟨by omega,by rw [if_neg e1]⟩,by omega,rfl,rfl,by simp⟩
 ·rw [List.drop_eq_nil_of_le (by omega)];simp (maxSteps:=9^9) (disch:=omega) [-List.map_replicate,-List.map_set,-List.getD_eq_getElem?_getD,-getElem?_pos,-getElem?_neg,om,h1,gA]
theorem yR (c:Ct) (hc:c.ok) (u:Int) (hb: ∀s∈c.ay,s.mark.length<1000000∧s.title.length<1000000):aq cfg 112 [bN c,.int .i64 u] []=some (.str (gg c.ay u), []):=by
 refine ab Pk K0 ?_;have hf:=sH c.sn c.sz c.ay hc.sz hc.sl u;have hz:=hc.sz;unfold gg bN df;cases hi:cb c.ay u with
 | none=>
  rw [hi] at hf;simp only [cC] at hf;have hpl:=jU c.ay;generalize c.ay.map bU=E at*
  simp (maxSteps:=9^9) (disch:=omega) [-List.map_replicate,-List.map_set,-List.getD_eq_getElem?_getD,-getElem?_pos,-getElem?_neg,om,De,hf,hpl]
 | some i=>
  rw [hi] at hf;simp only [cC] at hf;have hil:=gN hi;have hx:c.ay[i]?=some c.ay[i]:=List.getElem?_eq_getElem hil;have hg:=Dc c.ay hil;obtain ⟨hb1,hb2⟩:=hb _ (List.getElem_mem hil);have hz6:=hz (ne_of_lt hil);have hpl:=jU c.ay;have hBl:(c.ay.map bU).length=c.ay.length:=by simp
  rw [hz6] at hf⊢;simp only [hx];generalize c.ay.map bU=E at*
  generalize c.ay[i]=x at*
  have hil2:(i:Int)<(c.ay.length:Int):=by omega
  by_cases hm:x.mark= []
  ·rw [if_pos hm];simp (maxSteps:=9^9) (disch:=omega) [-List.map_replicate,-List.map_set,-List.getD_eq_getElem?_getD,-getElem?_pos,-getElem?_neg,om,De,hf,hpl,hg,hBl,hil2,af,hm]
  ·rw [if_neg hm];have hm2:(x.mark== [])=false:=by simpa using hm
   simp (maxSteps:=9^9) (disch:=omega) [-List.map_replicate,-List.map_set,-List.getD_eq_getElem?_getD,-getElem?_pos,-getElem?_neg,om,De,hf,hpl,hg,hBl,hil2,af,hm,hm2]
end Go.Proofs.YtfnkchadeaedlaaGreatDoor
namespace Go.Proofs.YtfnkchadeaedlaaGreatDoor
open Go.Am
set_option maxRecDepth 10000
set_option maxHeartbeats 4000000
theorem BC (a b:List ag) (k:Nat):af (aw a) k (aw b)=aw (a.take k++b++a.drop (k+b.length)):=by simp [af,aw]
theorem qu (c:Ct) (hc:c.ok) (s:ag) (hs:fE c.ae s=true):aq cfg 59 [bN c,.str s] []=some (.ak none 1 (aw (ar c.ae s)), []):=by
 refine ab SR Pl ?_;have hl:=hc.ll;obtain ⟨i,hi⟩:=yS hs;have hil:=HV hi;have hix:=jW none 1 c.ae (fun _=>rfl) hl s;rw [Bz,hi] at hix;obtain hz:c.lz=1:=hc.lz (ne_of_lt hil);unfold ar bN df;rw [hi,hz];simp only [Nat.zero_add] at hix⊢;clear hi hs;generalize c.ae=L at*
 generalize c.ay.map bU=A3 at*
 generalize c.aA.map dm=A2 at*
 have hLl:(aw L).length=L.length:=jV L;have htk: ∀k,(aw L).take k=aw (L.take k):=fun k=>by simp [aw]
 have hts:L.take L.length=L:=List.take_length
 have hsp:af (List.replicate L.length (AV.str [])) 0 (aw L)=aw L:=by simp [af]
 have hpos:0<L.length:=by omega
 by_cases h1:L.length=1
 ·obtain rfl:i=0:=by omega
  obtain ⟨x,rfl⟩:=List.length_eq_one_iff.1 h1;simp only [aw,List.map_cons,List.map_nil] at hix;simp (maxSteps:=9^9) (disch:=omega) [-List.map_replicate,-List.map_set,-List.getD_eq_getElem?_getD,-getElem?_pos,-getElem?_neg,om,K4,hix,af,aw]
 ·have h2:(L.take i).length=i:=by simp;omega
  have h3:(aw (L.take i)).take (L.length-1)=aw (L.take i):=List.take_of_length_le (by rw [jV];omega);have h4:=BC L (L.take i) 1;rw [h2,List.append_assoc] at h4
  have h5:(aw (L.take 1++(L.take i++L.drop (1+i)))).set 0 (.str s)=aw (s::(L.take i++L.drop (i+1))):=by
   match L,hpos with
   | x::r,_=>simp [aw,Nat.add_comm]
  have h6: ¬ (1:Nat)=L.length:=fun h=>h1 h.symm;have h7:(L.take 1++(L.take i++L.drop (1+i))).length=L.length:=by simp;omega
  have h8:(aw (L.take 1++(L.take i++L.drop (1+i))))[0]?=some (.str ((L.take 1++(L.take i++L.drop (1+i))).getD 0 [])):=yJ _ (by rw [h7];exact hpos);simp (maxSteps:=9^9) (disch:=omega) [-List.map_replicate,-List.map_set,-List.getD_eq_getElem?_getD,-getElem?_pos,-getElem?_neg,om,K4,hix,hLl,htk,hts,hsp,h1,h3,h4,h5,h6,h7,h8,hil]
  try rfl
end Go.Proofs.YtfnkchadeaedlaaGreatDoor
namespace Go.Proofs.YtfnkchadeaedlaaGreatDoor
open Go.Am
set_option maxRecDepth 10000
set_option maxHeartbeats 4000000
abbrev BD:=List UInt8
structure K5 (bs:List ad) (k j:Nat) (a:AV) (s:BD):Prop where
 hk:ad.at bs k= .var 159 [a,.az j s.length]
 hj:ad.at bs j= .sl ⟨false,some 5,none⟩ 1 (s.map ah)
 ne:j≠k
 ha:a= .bG∨a= .ptr k 0
 kl:k<bs.length
 jl:j<bs.length
 sh:shut bs.length bs=true
theorem ea {n:Nat}: ∀{bs:List ad} (k:Nat) {x:ad},shut n bs=true→shut n [x]=true→shut n (bs.set k x)=true
 | [],_,_,_,_=>rfl
 | b::r,0,x,h,hx=>by
  cases x <;> cases b <;> simp_all [shut]
 | b::r,k+1,x,h,hx=>by
  have:=fun (h:shut n r=true)=>ea (bs:=r) k h hx;cases b <;> simp_all [shut]
def gB (bs:List ad) (k j:Nat) (s:BD):List ad:=(bs.set k (.var 159 [.ptr k 0,.az j s.length])).set j (.sl ⟨false,some 5,none⟩ 1 (s.map ah))
theorem oU {bs:List ad} {k j:Nat} {a:AV} {s:BD} (h:K5 bs k j a s):aq cfg 167 [.ptr k 0] bs=some (.aI [],bs.set k (.var 159 [.ptr k 0,.az j s.length])):=by
 obtain ⟨hk,hj,ne,ha,kl,jl,sh⟩:=h;refine ab Pm K6 ?_;have a1: ∀l,ad.at (bs++l) k= .var 159 [a,.az j s.length]:=fun l=>by rw [eJ _ _ kl,hk]
 have s1: ∀l b,(bs++l).set k b=bs.set k b++l:=fun l b=>List.set_append_left _ _ kl;have m1:=shut_map (Nat.le_refl bs.length) (ea k sh (x:= .var 159 [.ptr k 0,.az j s.length]) (by simp [shut,av,AV.under,kl,jl]));rcases ha with rfl | rfl
 ·simp (maxSteps:=9^9) (disch:=omega) [-List.map_replicate,-List.map_set,-List.getD_eq_getElem?_getD,-getElem?_pos,-getElem?_neg,om,FG,FH,af,ax.descOf,hk,a1,s1,m1];exact List.take_left' (by simp)
 ·have e:bs.set k (.var 159 [.ptr k 0,.az j s.length])=bs:=by
   rw [←hk];apply List.ext_getElem?;intro i;by_cases hi:i=k
   ·subst hi;simp [ad.at,kl,List.getD_eq_getElem?_getD]
   ·rw [List.getElem?_set_ne (Ne.symm hi)]
  simp (maxSteps:=9^9) (disch:=omega) [-List.map_replicate,-List.map_set,-List.getD_eq_getElem?_getD,-getElem?_pos,-getElem?_neg,om,FG,ax.descOf,hk,e]
theorem gh {bs:List ad} {k j:Nat} {a:AV} {s:BD} (h:K5 bs k j a s) (x:BD) (hl:s.length<100000000) (hx:x.length<1000000):
  aq cfg 126 [.ptr k 0,.str x] bs=some (.aI [.int .i64 x.length,.fG false],gB bs k j (s++x)):=by
 have hc:=oU h;obtain ⟨hk,hj,ne,ha,kl,jl,sh⟩:=h;refine ab Pn K7 ?_;have e1:ad.at (bs.set k (.var 159 [.ptr k 0,.az j s.length])) k= .var 159 [.ptr k 0,.az j s.length]:=by rw [Go.Am.aZ _ _ _ kl,if_pos rfl]
 have e2:ad.at (bs.set k (.var 159 [.ptr k 0,.az j s.length])) j= .sl ⟨false,some 5,none⟩ 1 (s.map ah):=by rw [Go.Am.aZ _ _ _ kl,if_neg (Ne.symm ne),hj]
 have shc:=ea k sh (x:= .var 159 [.ptr k 0,.az j s.length]) (by simp [shut,av,AV.under,kl,jl]);have m2:=shut_map (Nat.le_refl bs.length) (ea j shc (x:= .sl ⟨false,some 5,none⟩ 1 ((s++x).map ah)) rfl);have hCl:(bs.set k (.var 159 [.ptr k 0,.az j s.length])).length=bs.length:=by simp
 have hfin:gB bs k j (s++x)=((bs.set k (.var 159 [.ptr k 0,.az j s.length])).set j (.sl ⟨false,some 5,none⟩ 1 ((s++x).map ah))).set k (.var 159 [.ptr k 0,.az j (s++x).length]):=by unfold gB;rw [List.set_comm _ _ ne,List.set_set]
 rw [hfin];generalize bs.set k (.var 159 [.ptr k 0,.az j s.length])=C at*
 have a1: ∀l,ad.at (C++l) k= .var 159 [.ptr k 0,.az j s.length]:=fun l=>by rw [eJ _ _ (by omega),e1]
 have a2: ∀l,ad.at (C++l) j= .sl ⟨false,some 5,none⟩ 1 (s.map ah):=fun l=>by rw [eJ _ _ (by omega),e2]
 have s2: ∀l b,(C++l).set j b=C.set j b++l:=fun l b=>List.set_append_left _ _ (by omega);have e3:ad.at (C.set j (.sl ⟨false,some 5,none⟩ 1 (s.map ah++x.map ah))) k= .var 159 [.ptr k 0,.az j s.length]:=by rw [Go.Am.aZ _ _ _ (by omega),if_neg ne,e1]
 have m3:=shut_map (Nat.le_refl bs.length) (ea k (ea j shc (x:= .sl ⟨false,some 5,none⟩ 1 (s.map ah++x.map ah)) rfl) (x:= .var 159 [.ptr k 0,.az j (s.length+x.length)]) (by simp [shut,av,AV.under,kl,jl]));have hDl:(C.set j (.sl ⟨false,some 5,none⟩ 1 (s.map ah++x.map ah))).length=bs.length:=by simp [hCl]
 generalize hD:C.set j (.sl ⟨false,some 5,none⟩ 1 (s.map ah++x.map ah))=D at*
 have b1: ∀l,ad.at (D++l) k= .var 159 [.ptr k 0,.az j s.length]:=fun l=>by rw [eJ _ _ (by omega),e3]
 have t2: ∀l b,(D++l).set k b=D.set k b++l:=fun l b=>List.set_append_left _ _ (by omega);simp (maxSteps:=9^9) (disch:=omega) [-List.map_replicate,-List.map_set,-List.getD_eq_getElem?_getD,-getElem?_pos,-getElem?_neg,om,JK,hc,af,a1,a2,s2,hCl,hD,b1,t2,m3,hDl]
 try exact List.take_left' (by simp [hDl])
theorem Ul {C bs:List ad} (h:C.length=bs.length):(∀l,(C++l)[bs.length]?=l[0]?)∧(∀l m,(C++l)[bs.length+m]?=l[m]?)∧(∀l X,(C++l).set bs.length X=C++l.set 0 X)∧(∀l m X,(C++l).set (bs.length+m) X=C++l.set m X)∧(∀l,ad.at (C++l) bs.length=ad.at l 0)∧(∀l m,ad.at (C++l) (bs.length+m)=ad.at l m)∧(∀l,(C++l).take bs.length=C):=by rw [←h];exact ⟨fun l=>by simpa using dn C l 0,fun l m=>dn C l m,fun l X=>by simpa using cy C l 0 X,fun l m X=>cy C l m X,fun l=>by simpa using dN C l 0,fun l m=>dN C l m,fun l=>List.take_left' rfl⟩
theorem oV {bs:List ad} {k j:Nat} {a:AV} {s:BD} (h:K5 bs k j a s) (x:UInt8) (hl:s.length<100000000):
  aq cfg 127 [.ptr k 0,.int .u8 (x.toNat:Int)] bs=some (.fG false,gB bs k j (s++ [x])):=by
 have hc:=oU h;obtain ⟨hk,hj,ne,ha,kl,jl,sh⟩:=h;refine ab Po K8 ?_;have e1:ad.at (bs.set k (.var 159 [.ptr k 0,.az j s.length])) k= .var 159 [.ptr k 0,.az j s.length]:=by rw [Go.Am.aZ _ _ _ kl,if_pos rfl]
 have e2:ad.at (bs.set k (.var 159 [.ptr k 0,.az j s.length])) j= .sl ⟨false,some 5,none⟩ 1 (s.map ah):=by rw [Go.Am.aZ _ _ _ kl,if_neg (Ne.symm ne),hj]
 have shc:=ea k sh (x:= .var 159 [.ptr k 0,.az j s.length]) (by simp [shut,av,AV.under,kl,jl]);have hCl:(bs.set k (.var 159 [.ptr k 0,.az j s.length])).length=bs.length:=by simp
 have hfin:gB bs k j (s++ [x])=((bs.set k (.var 159 [.ptr k 0,.az j s.length])).set j (.sl ⟨false,some 5,none⟩ 1 (s.map ah++ [ah x]))).set k (.var 159 [.ptr k 0,.az j (s.length+1)]):=by unfold gB;rw [List.set_comm _ _ ne,List.set_set];simp
 rw [hfin];generalize bs.set k (.var 159 [.ptr k 0,.az j s.length])=C at*
 have a1: ∀l,ad.at (C++l) k= .var 159 [.ptr k 0,.az j s.length]:=fun l=>by rw [eJ _ _ (by omega),e1]
 have a2: ∀l,ad.at (C++l) j= .sl ⟨false,some 5,none⟩ 1 (s.map ah):=fun l=>by rw [eJ _ _ (by omega),e2]
 have s2: ∀l b,(C++l).set j b=C.set j b++l:=fun l b=>List.set_append_left _ _ (by omega);have e3:ad.at (C.set j (.sl ⟨false,some 5,none⟩ 1 (s.map ah++ [ah x]))) k= .var 159 [.ptr k 0,.az j s.length]:=by rw [Go.Am.aZ _ _ _ (by omega),if_neg ne,e1]
 have m3:=shut_map (Nat.le_refl bs.length) (ea k (ea j shc (x:= .sl ⟨false,some 5,none⟩ 1 (s.map ah++ [ah x])) rfl) (x:= .var 159 [.ptr k 0,.az j (s.length+1)]) (by simp [shut,av,AV.under,kl,jl]));have hDl:(C.set j (.sl ⟨false,some 5,none⟩ 1 (s.map ah++ [ah x]))).length=bs.length:=by simp [hCl]
 generalize hD:C.set j (.sl ⟨false,some 5,none⟩ 1 (s.map ah++ [ah x]))=D at*
 have b1: ∀l,ad.at (D++l) k= .var 159 [.ptr k 0,.az j s.length]:=fun l=>by rw [eJ _ _ (by omega),e3]
 have t2: ∀l b,(D++l).set k b=D.set k b++l:=fun l b=>List.set_append_left _ _ (by omega);have of1:AV.int .u8 (x.toNat:Int)=ah x:=rfl;obtain ⟨p1,p2,p3,p4,p5,p6,p7⟩:=Ul hCl;obtain ⟨q1,q2,q3,q4,q5,q6,q7⟩:=Ul hDl;have z1:bs.length+1-bs.length=1:=by omega
 simp (maxSteps:=9^9) (disch:=omega) [-List.map_replicate,-List.map_set,-List.getD_eq_getElem?_getD,-getElem?_pos,-getElem?_neg,om,JL,hc,af,a1,a2,s2,hCl,hD,b1,t2,m3,hDl,of1,p1,p2,p3,p4,p5,p6,p7,q1,q2,q3,q4,q5,q6,q7,z1]
 try exact List.take_left' (by simp [hDl])
theorem nU {bs:List ad} {k j:Nat} {a:AV} {s:BD} (h:K5 bs k j a s) (hl:s.length<100000000) (h0:s≠ []):
  aq cfg 128 [.ptr k 0] bs=some (.str s,bs.set j (.sl ⟨false,none,none⟩ 1 (s.map ah))):=by
 obtain ⟨hk,hj,ne,ha,kl,jl,sh⟩:=h;refine ab JM FI ?_;have hb:=nB s;have e1:ad.at (bs.set j (.sl ⟨false,none,none⟩ 1 (s.map ah))) k= .var 159 [a,.az j s.length]:=by rw [Go.Am.aZ _ _ _ jl,if_neg ne,hk]
 have e2:ad.at (bs.set j (.sl ⟨false,none,none⟩ 1 (s.map ah))) j= .sl ⟨false,none,none⟩ 1 (s.map ah):=by rw [Go.Am.aZ _ _ _ jl,if_pos rfl]
 cases s with
 | nil=>exact absurd rfl h0
 | cons c s=>
  simp only [List.length_cons,List.map_cons] at*
  simp (maxSteps:=9^9) (disch:=omega) [-List.map_replicate,-List.map_set,-List.getD_eq_getElem?_getD,-getElem?_pos,-getElem?_neg,om,FJ,hk,hj,e1,e2,hb,ax.descOf]
theorem rl {bs:List ad} {k j:Nat} {a:AV} (h:K5 bs k j a []):
  aq cfg 128 [.ptr k 0] bs=some (.str [],bs.set j (.sl ⟨false,none,none⟩ 1 [])):=by
 obtain ⟨hk,hj,ne,ha,kl,jl,sh⟩:=h;refine ab JM FI ?_;have e1:ad.at (bs.set j (.sl ⟨false,none,none⟩ 1 [])) k= .var 159 [a,.az j 0]:=by rw [Go.Am.aZ _ _ _ jl,if_neg ne,hk];rfl
 have e2:ad.at (bs.set j (.sl ⟨false,none,none⟩ 1 [])) j= .sl ⟨false,none,none⟩ 1 []:=by rw [Go.Am.aZ _ _ _ jl,if_pos rfl]
 simp only [List.length_nil,List.map_nil] at hk hj;simp (maxSteps:=9^9) (disch:=omega) [-List.map_replicate,-List.map_set,-List.getD_eq_getElem?_getD,-getElem?_pos,-getElem?_neg,om,FJ,hk,hj,e1,e2,ax.descOf]
end Go.Proofs.YtfnkchadeaedlaaGreatDoor
namespace Go.Proofs.YtfnkchadeaedlaaGreatDoor
open Go.Am Go.ChangeShapes Go.WideShapes Go.RowKit
set_option maxRecDepth 10000
set_option maxHeartbeats 4000000
structure Sh.FK (s:Sh):Prop where
 fz:s.facts≠ []→s.fz=3
 fl:s.facts.length≤maxLen
structure Ct.FK (c:Ct):Prop where
 lz:c.ae≠ []→c.lz=1
 bz:c.aA≠ []→c.bz=4
 sz:c.ay≠ []→c.sz=6
 ll:c.ae.length≤maxLen
 bl:c.aA.length≤maxLen
 sl:c.ay.length≤maxLen
 sh: ∀s∈c.ay,s.FK
theorem eb {ts:List TypeId} {xs:List AV} (h:ey Tryz.prog (3::ts) xs): ∃(i:Int) (r:List AV),xs= .int .i64 i::r∧ -9223372036854775808≤i∧i≤9223372036854775807∧ey Tryz.prog ts r:=by obtain ⟨n,cs,r,rfl,h1,h2⟩:=h;obtain ⟨x,rfl,hx⟩:=h1.int (k:= .i64) (by kernel_rfl);simp [Lit.wf,IntKind.min,IntKind.max,IntKind.signed,IntKind.bits] at hx;exact ⟨x,r,by rw [show Tryz.prog.underlying 3=some (.int .i64) by kernel_rfl];rfl,by omega,by omega,h2⟩
end Go.Proofs.YtfnkchadeaedlaaGreatDoor
namespace Go.Proofs.YtfnkchadeaedlaaGreatDoor
open Go.Am
set_option maxRecDepth 10000
set_option maxHeartbeats 4000000
def jF (m acc:Nat):ag→Nat×Nat
 | []=>(acc,0)
 | c::r=>if 48≤c.toNat∧c.toNat≤57 then (if m<acc*10+(c.toNat-48) then (m,1) else jF m (acc*10+(c.toNat-48)) r) else (0,2)
def HW (n:Nat):AV:=if n=0 then .fG false else .kE 193 .i64 n
theorem jX (m acc:Nat) (c:UInt8) (r:ag):jF m acc (c::r)=if 48≤c.toNat∧c.toNat≤57 then (if m<acc*10+(c.toNat-48) then (m,1) else jF m (acc*10+(c.toNat-48)) r) else (0,2):=rfl
theorem vS (m:Nat): ∀(s:ag) (acc:Nat),(jF m acc s).2=0∨(jF m acc s).2=1∨(jF m acc s).2=2
 | [],_=> .inl rfl
 | c::r,acc=>by
  rw [jX];split
  ·split
   ·exact .inr (.inl rfl)
   ·exact vS m r _
  ·exact .inr (.inr rfl)
theorem xx (m:Nat): ∀(s:ag) (acc:Nat),acc≤m→(jF m acc s).1≤m
 | [],_,h=>h
 | c::r,acc,h=>by
  rw [jX];split
  ·split
   ·exact Nat.le_refl _
   ·exact xx m r _ (by omega)
  ·exact Nat.zero_le _
theorem yT (s:ag) {i:Nat} (h:i<s.length):s.drop i=s.getD i 0::s.drop (i+1):=by rw [List.drop_eq_getElem_cons h];simp [List.getD_eq_getElem?_getD,h]
theorem D9 (s:ag) (c:UInt8):xy [.str s,ah c]=some (.int .i64 (Lib.indexByte s c)):=by simp [xy,ah]
theorem oW (s:ag) (c:UInt8):aq cfg 80 [.str s,ah c] []=some (.int .i64 (Lib.indexByte s c), []):=by
 have h1:aq cfg 131 [.str s,ah c] []=some (.int .i64 (Lib.indexByte s c), []):=by refine ab Pp K9 ?_;simp (maxSteps:=9^9) (disch:=omega) [-List.map_replicate,-List.map_set,-List.getD_eq_getElem?_getD,-getElem?_pos,-getElem?_neg,om,JN,D9]
 refine ab SS Pq ?_;simp (maxSteps:=9^9) (disch:=omega) [-List.map_replicate,-List.map_set,-List.getD_eq_getElem?_getD,-getElem?_pos,-getElem?_neg,om,Pr,h1]
theorem FL (c:UInt8): ∃z:Int,aq cfg 170 [ah c] []=some (.int .u8 z, []):=by apply Exists.intro;refine ab Ps La ?_;simp (maxSteps:=9^9) (disch:=omega) [-List.map_replicate,-List.map_set,-List.getD_eq_getElem?_getD,-getElem?_pos,-getElem?_neg,om,JO,ah];exact rfl
theorem BE (m:Nat) (bits:Int) (hm:m=1099511627775∧bits=40∨m=65535∧bits=16) (c0:UInt8) (s0:ag) (hl:s0.length<1000000):
  aq cfg 132 [.str (c0::s0),.int .i64 10,.int .i64 bits] []=some (.aI [.int .u64 (jF m 0 (c0::s0)).1,HW (jF m 0 (c0::s0)).2], []):=by
 refine ab JP FM ?_;have hb:0<bits∧bits<64:=by omega
 have hsl:(c0::s0).length<1000001:=by simp;omega
 have hne:c0::s0≠ []:=by simp
 generalize c0::s0=s at*
 have hml:(s.map ah).length=s.length:=by simp
 obtain ⟨⟨v,k⟩,hvk⟩: ∃vk:Nat×Nat,vk=jF m 0 s:=⟨_,rfl⟩;rw [←hvk]
 have hz:(IntKind.u64.wrap (2^min (IntKind.u64.wrap bits).toNat IntKind.u64.bits)-1)=m∧ ¬ IntKind.u64.wrap bits<0∧m<1099511627776:=by rcases hm with ⟨rfl,rfl⟩ | ⟨rfl,rfl⟩ <;> decide
 obtain ⟨z1,z2,z3⟩:=hz;clear hm
 have hw:IntKind.u64.wrap (m:Int)=m:=by show (m:Int)%18446744073709551616=_;omega
 simp (maxSteps:=9^9) (disch:=omega) [-List.map_replicate,-List.map_set,-List.getD_eq_getElem?_getD,-getElem?_pos,-getElem?_neg,om,FO,hne,hb.1,hb.2,z1,z2,ax.descOf,hw]
 have hgg: ∀{i:Nat},i<s.length→(s.map ah)[i]?=some (.int .u8 ((s.getD i 0).toNat:Int)):=fun {i} h=>by
  rw [List.getElem?_map,List.getElem?_eq_getElem h];simp [List.getD_eq_getElem?_getD,h,ah]
 refine Wp.aX (fun (a:Nat×Nat)=>s.length-a.1) (fun a=> [none,some (.int .i64 10),none,none,none,some (.bool false),some (.str s),some (.int .u64 1844674407370955162),some (.int .u64 m),some (.bool false),some (.int .u64 a.2),none,none,none,none,none,none,none,none,none,none,none,none,none,none,none,none,none,none,none,none,none,some (.az 1 s.length),some (.int .i64 s.length),some (.int .i64 a.1),none,none,none,none,none,none,none,none,none,none,none,none,none,none,none,none,none]) (fun _=> [.dead,.sl ⟨false,some 5,none⟩ 1 (s.map ah)]) (fun a=>(v,k)=jF m a.2 (s.drop a.1)∧a.1≤s.length∧a.2≤m) ?_ (0,0) ⟨hvk,by simp,by simp⟩ (by simp) rfl;rintro ⟨i,acc⟩ ⟨hi,hil,hac⟩;simp only at hi hil hac⊢;by_cases h1:i<s.length
 ·have hg:=hgg h1;rw [yT s h1,jX] at hi;generalize s.getD i 0=c at*
  clear hgg;obtain ⟨z,hz⟩:=FL c;simp only [ah] at hz;have w8:IntKind.u8.wrap 10=10:=rfl;have yG:IntKind.u64.wrap 10=10:=rfl;by_cases f1:48≤c.toNat∧c.toNat≤57
  ·rw [if_pos f1] at hi
   have d1:IntKind.u8.wrap ((c.toNat:Int)-48)=((c.toNat-48:Nat):Int):=by show ((c.toNat:Int)-48)%256=_;omega
   have d2: ∀n:Nat,n<18446744073709551616→IntKind.u64.wrap (n:Int)=n:=fun n hn=>by
    show (n:Int)%18446744073709551616=_;omega
   have d3:(acc:Int)*10=((acc*10:Nat):Int):=by omega
   have d4:IntKind.u64.wrap ((acc:Int)*10)=((acc*10:Nat):Int):=by rw [d3,d2 _ (by omega)]
   have d5:IntKind.u64.wrap ((c.toNat-48:Nat):Int)=((c.toNat-48:Nat):Int):=d2 _ (by omega);have d6:IntKind.u64.wrap (((acc*10:Nat):Int)+((c.toNat-48:Nat):Int))=((acc*10+(c.toNat-48):Nat):Int):=by rw [←Int.natCast_add,d2 _ (by omega)]
   clear d2;generalize hn1:acc*10=n1 at*
   generalize hn2:c.toNat-48=n2 at*
   obtain ⟨f1a,f1b⟩:=f1;by_cases f2:m<n1+n2
   ·rw [if_pos f2] at hi;obtain ⟨rfl,rfl⟩:=Prod.mk.inj hi;simp (maxSteps:=9^9) (disch:=omega) [-List.map_replicate,-List.map_set,-List.getD_eq_getElem?_getD,-getElem?_pos,-getElem?_neg,om,h1,hg,af,f1a,f1b,w8,yG,d1,d4,d5,d6,HW]
   ·rw [if_neg f2] at hi;simp (maxSteps:=9^9) (disch:=omega) [-List.map_replicate,-List.map_set,-List.getD_eq_getElem?_getD,-getElem?_pos,-getElem?_neg,om,h1,hg,af,f1a,f1b,w8,yG,d1,d4,d5,d6];refine ⟨i+1,n1+n2,⟨hi,by omega,by omega⟩,by omega,?_⟩;exact ⟨by omega,by omega⟩
  ·rw [if_neg f1] at hi;obtain ⟨rfl,rfl⟩:=Prod.mk.inj hi;by_cases f3:97≤z
   ·by_cases f4:z≤122
    ·have d7:IntKind.u8.wrap (IntKind.u8.wrap (z-97)+10)=z-87:=by show ((z-97)%256+10)%256=_;omega
     simp (maxSteps:=9^9) (disch:=omega) [-List.map_replicate,-List.map_set,-List.getD_eq_getElem?_getD,-getElem?_pos,-getElem?_neg,om,h1,hg,af,hz,w8,yG,f1,f3,f4,d7,HW];intro;omega
    ·simp (maxSteps:=9^9) (disch:=omega) [-List.map_replicate,-List.map_set,-List.getD_eq_getElem?_getD,-getElem?_pos,-getElem?_neg,om,h1,hg,af,hz,w8,yG,f1,f3,f4,HW];intro;omega
   ·simp (maxSteps:=9^9) (disch:=omega) [-List.map_replicate,-List.map_set,-List.getD_eq_getElem?_getD,-getElem?_pos,-getElem?_neg,om,h1,hg,af,hz,w8,yG,f1,f3,HW];intro;omega
 ·rw [List.drop_eq_nil_of_le (by omega)] at hi;obtain ⟨rfl,rfl⟩:=Prod.mk.inj hi;simp (maxSteps:=9^9) (disch:=omega) [-List.map_replicate,-List.map_set,-List.getD_eq_getElem?_getD,-getElem?_pos,-getElem?_neg,om,h1,HW]
def Pt (m:Nat) (s:ag):AV:=if s= [] then .aI [.int .u64 0,.fG true] else .aI [.int .u64 (jF m 0 s).1,.fG (decide ((jF m 0 s).2≠0))]
theorem yU (m:Nat) (bits:Int) (hm:m=1099511627775∧bits=40∨m=65535∧bits=16) (s:ag) (hl:s.length<1000000):
  aq cfg 81 [.str s,.int .i64 10,.int .i64 bits] []=some (Pt m s, []):=by
 refine ab SU Pv ?_;cases s with
 | nil=>
  have h0:aq cfg 132 [.str [],.int .i64 10,.int .i64 bits] []=some (.aI [.int .u64 0,.kE 193 .i64 2], []):=by refine ab JP FM ?_;simp (maxSteps:=9^9) (disch:=omega) [-List.map_replicate,-List.map_set,-List.getD_eq_getElem?_getD,-getElem?_pos,-getElem?_neg,om,FO]
  simp (maxSteps:=9^9) (disch:=omega) [-List.map_replicate,-List.map_set,-List.getD_eq_getElem?_getD,-getElem?_pos,-getElem?_neg,om,FP,h0,lK,Pt]
 | cons c0 s0=>
  have hin:=BE m bits hm c0 s0 (by simp at hl;omega);have hne:c0::s0≠ []:=by simp
  have hcd:=vS m (c0::s0) 0;generalize c0::s0=s at*
  clear hm;unfold Pt;rw [if_neg hne];generalize (jF m 0 s).1=v at*
  generalize (jF m 0 s).2=k at*
  rcases hcd with rfl | rfl | rfl
  ·simp (maxSteps:=9^9) (disch:=omega) [-List.map_replicate,-List.map_set,-List.getD_eq_getElem?_getD,-getElem?_pos,-getElem?_neg,om,FP,hin,HW]
  ·simp (maxSteps:=9^9) (disch:=omega) [-List.map_replicate,-List.map_set,-List.getD_eq_getElem?_getD,-getElem?_pos,-getElem?_neg,om,FP,hin,HW,lK]
  ·simp (maxSteps:=9^9) (disch:=omega) [-List.map_replicate,-List.map_set,-List.getD_eq_getElem?_getD,-getElem?_pos,-getElem?_neg,om,FP,hin,HW,lK]
theorem vT: ∀(s:ag) (acc:Nat),oX acc s=if (jF 1099511627775 acc s).2=0 then some (jF 1099511627775 acc s).1 else none
 | [],acc=>rfl
 | c::r,acc=>by
  rw [jX];unfold oX;by_cases h1:48≤c.toNat∧c.toNat≤57
  ·rw [if_pos h1,if_pos h1];by_cases h2:1099511627775<acc*10+(c.toNat-48)
   ·rw [if_pos h2,if_pos h2];rfl
   ·rw [if_neg h2,if_neg h2,vT r]
  ·rw [if_neg h1,if_neg h1];rfl
theorem vU: ∀(s:ag) (acc:Nat),sv acc s=if (jF 65535 acc s).2=0 then some (jF 65535 acc s).1 else none
 | [],acc=>rfl
 | c::r,acc=>by
  rw [jX];unfold sv;by_cases h1:48≤c.toNat∧c.toNat≤57
  ·rw [if_pos h1,if_pos h1];by_cases h2:65535<acc*10+(c.toNat-48)
   ·rw [if_pos h2,if_pos h2];rfl
   ·rw [if_neg h2,if_neg h2,vU r]
  ·rw [if_neg h1,if_neg h1];rfl
theorem td (s:ag) (hl:s.length<1000000): ∃(v:Nat) (b:Bool),aq cfg 81 [.str s,.int .i64 10,.int .i64 40] []=some (.aI [.int .u64 v,.fG b], [])∧sI s=(if b then none else some v)∧v≤1099511627775:=by
 have h:=yU 1099511627775 40 (.inl ⟨rfl,rfl⟩) s hl;unfold Pt at h;unfold sI;by_cases h0:s= []
 ·rw [if_pos h0] at h⊢;exact ⟨0,true,h,rfl,by omega⟩
 ·rw [if_neg h0] at h⊢;refine ⟨_,_,h,?_,xx 1099511627775 s 0 (by omega)⟩;rw [vT];by_cases hk:(jF 1099511627775 0 s).2=0
  ·simp [hk]
  ·simp [hk]
theorem tf (s:ag) (hl:s.length<1000000): ∃(v:Nat) (b:Bool),aq cfg 81 [.str s,.int .i64 10,.int .i64 16] []=some (.aI [.int .u64 v,.fG b], [])∧jc s=(if b then none else some v)∧v≤65535:=by
 have h:=yU 65535 16 (.inr ⟨rfl,rfl⟩) s hl;unfold Pt at h;unfold jc;by_cases h0:s= []
 ·rw [if_pos h0] at h⊢;exact ⟨0,true,h,rfl,by omega⟩
 ·rw [if_neg h0] at h⊢;refine ⟨_,_,h,?_,xx 65535 s 0 (by omega)⟩;rw [vU];by_cases hk:(jF 65535 0 s).2=0
  ·simp [hk]
  ·simp [hk]
end Go.Proofs.YtfnkchadeaedlaaGreatDoor
namespace Go.Proofs.YtfnkchadeaedlaaGreatDoor
open Go.Am
set_option maxRecDepth 10000
set_option maxHeartbeats 4000000
def oT (p:Int×Int):AV:= .aI [.int .i64 p.1,.int .i64 p.2]
theorem kH: ∀(s:ag) (c:UInt8),-1≤Lib.indexByte s c∧(Lib.indexByte s c<s.length)
 | [],c=>by simp [Lib.indexByte]
 | b::l,c=>by
  have ih:=kH l c;rw [Lib.indexByte];split
  ·simp only [List.length_cons];omega
  ·split
   ·simp only [List.length_cons];omega
   ·simp only [List.length_cons];omega
theorem Df (s:ag):aq cfg 158 [.str s] []=some (oT (nV s), []):=by
 refine ab Pw Lc ?_;have hi:aq cfg 80 [.str s,.int .u8 93] []=some (.int .i64 (Lib.indexByte s 93), []):=oW s 93;have hb:=kH s 93;have hsd: ∀{j:Nat},j<s.length→s[j]?=some (s.getD j 0):=fun {j} h=>by simp [List.getD_eq_getElem?_getD,h]
 unfold nV;generalize Lib.indexByte s 93=n at*
 by_cases h1:n<2∨11<n
 ·have e:(n<2∨11<n∨s.getD 1 0=48):=by omega
  rw [if_pos e];rcases h1 with h1 | h1
  ·simp (maxSteps:=9^9) (disch:=omega) [-List.map_replicate,-List.map_set,-List.getD_eq_getElem?_getD,-getElem?_pos,-getElem?_neg,om,th,hi,h1,oT]
  ·simp (maxSteps:=9^9) (disch:=omega) [-List.map_replicate,-List.map_set,-List.getD_eq_getElem?_getD,-getElem?_pos,-getElem?_neg,om,th,hi,h1,oT]
 ·obtain ⟨n,rfl⟩: ∃k:Nat,n=k:=⟨n.toNat,by omega⟩;have g1:=hsd (j:=1) (by omega);have hn:2≤n∧n≤11:=by omega
  have hnl:n<s.length:=by omega
  clear hsd h1 hb;rw [Int.toNat_natCast];obtain ⟨v,b,hp,hpv,hv⟩:=td ((s.take n).drop 1) (by simp;omega);generalize s.getD 1 0=c at*
  rw [hpv];have hw:(v:Int)%18446744073709551616=v:=by omega
  rw [List.drop_one] at hp;by_cases hc:c=48
  ·subst hc;rw [if_pos (.inr (.inr rfl))];simp (maxSteps:=9^9) (disch:=omega) [-List.map_replicate,-List.map_set,-List.getD_eq_getElem?_getD,-getElem?_pos,-getElem?_neg,om,th,hi,hn.1,hn.2,g1,ah,oT]
  ·have hc2: ¬ ((c.toNat:Int)=48):=fun h=>hc (UInt8.toNat_inj.mp (by simp;omega));rw [if_neg (fun h=>by rcases h with h | h | h;omega;omega;exact hc h)];cases b with
   | true=>simp (maxSteps:=9^9) (disch:=omega) [-List.map_replicate,-List.map_set,-List.getD_eq_getElem?_getD,-getElem?_pos,-getElem?_neg,om,th,hi,hn.1,hn.2,g1,ah,oT,hp,hc2]
   | false=>
    simp only [Bool.false_eq_true,if_false];by_cases hv2:1073741824<v
    ·simp (maxSteps:=9^9) (disch:=omega) [-List.map_replicate,-List.map_set,-List.getD_eq_getElem?_getD,-getElem?_pos,-getElem?_neg,om,th,hi,hn.1,hn.2,g1,ah,oT,hp,hc2,hv2]
    ·simp (maxSteps:=9^9) (disch:=omega) [-List.map_replicate,-List.map_set,-List.getD_eq_getElem?_getD,-getElem?_pos,-getElem?_neg,om,th,hi,hn.1,hn.2,g1,ah,oT,hp,hc2,hv2]
theorem yV (s:ag) (h00:s≠ []):aq cfg 40 [.str s] []=some (oT (xz s), []):=by
 refine ab SV Px ?_;have hi:aq cfg 80 [.str s,.int .u8 93] []=some (.int .i64 (Lib.indexByte s 93), []):=oW s 93;have hb:=kH s 93;have hsd: ∀{j:Nat},j<s.length→s[j]?=some (s.getD j 0):=fun {j} h=>by simp [List.getD_eq_getElem?_getD,h]
 have hs0:0<s.length:=List.length_pos_iff.mpr h00;have g0:=hsd (j:=0) hs0;unfold xz;generalize hc0:s.getD 0 0=c0 at*
 by_cases h91:c0=91
 case neg=>
  have hc3: ¬ ((c0.toNat:Int)=91):=fun h=>h91 (UInt8.toNat_inj.mp (by simp;omega));rw [if_pos h91];clear hsd hi;simp (maxSteps:=9^9) (disch:=omega) [-List.map_replicate,-List.map_set,-List.getD_eq_getElem?_getD,-getElem?_pos,-getElem?_neg,om,yW,g0,ah,oT,hc3]
 rw [if_neg (by simp [h91])];subst h91;unfold nV;generalize Lib.indexByte s 93=n at*
 by_cases h1:n<2∨11<n
 ·have e:(n<2∨11<n∨s.getD 1 0=48):=by omega
  rw [if_pos e];rcases h1 with h1 | h1
  ·simp (maxSteps:=9^9) (disch:=omega) [-List.map_replicate,-List.map_set,-List.getD_eq_getElem?_getD,-getElem?_pos,-getElem?_neg,om,yW,hi,h1,oT,g0,ah]
  ·simp (maxSteps:=9^9) (disch:=omega) [-List.map_replicate,-List.map_set,-List.getD_eq_getElem?_getD,-getElem?_pos,-getElem?_neg,om,yW,hi,h1,oT,g0,ah]
 ·obtain ⟨n,rfl⟩: ∃k:Nat,n=k:=⟨n.toNat,by omega⟩;have g1:=hsd (j:=1) (by omega);have hn:2≤n∧n≤11:=by omega
  have hnl:n<s.length:=by omega
  clear hsd h1 hb;rw [Int.toNat_natCast];obtain ⟨v,b,hp,hpv,hv⟩:=td ((s.take n).drop 1) (by simp;omega);generalize s.getD 1 0=c at*
  rw [hpv];have hw:(v:Int)%18446744073709551616=v:=by omega
  rw [List.drop_one] at hp;by_cases hc:c=48
  ·subst hc;rw [if_pos (.inr (.inr rfl))];simp (maxSteps:=9^9) (disch:=omega) [-List.map_replicate,-List.map_set,-List.getD_eq_getElem?_getD,-getElem?_pos,-getElem?_neg,om,yW,hi,hn.1,hn.2,g0,g1,ah,oT]
  ·have hc2: ¬ ((c.toNat:Int)=48):=fun h=>hc (UInt8.toNat_inj.mp (by simp;omega));rw [if_neg (fun h=>by rcases h with h | h | h;omega;omega;exact hc h)];cases b with
   | true=>simp (maxSteps:=9^9) (disch:=omega) [-List.map_replicate,-List.map_set,-List.getD_eq_getElem?_getD,-getElem?_pos,-getElem?_neg,om,yW,hi,hn.1,hn.2,g0,g1,ah,oT,hp,hc2]
   | false=>
    simp only [Bool.false_eq_true,if_false];by_cases hv2:1073741824<v
    ·simp (maxSteps:=9^9) (disch:=omega) [-List.map_replicate,-List.map_set,-List.getD_eq_getElem?_getD,-getElem?_pos,-getElem?_neg,om,yW,hi,hn.1,hn.2,g0,g1,ah,oT,hp,hc2,hv2]
    ·simp (maxSteps:=9^9) (disch:=omega) [-List.map_replicate,-List.map_set,-List.getD_eq_getElem?_getD,-getElem?_pos,-getElem?_neg,om,yW,hi,hn.1,hn.2,g0,g1,ah,oT,hp,hc2,hv2]
end Go.Proofs.YtfnkchadeaedlaaGreatDoor
namespace Go.Proofs.YtfnkchadeaedlaaGreatDoor
open Go.Am
set_option maxRecDepth 10000
set_option maxHeartbeats 4000000
def aV (bs:List ad) (a:AV) (s:ag):List ad:=bs++ [.var 159 [a,.az (bs.length+1) s.length],.sl ⟨false,some 5,none⟩ 1 (s.map ah)]
theorem fL {bs:List ad} (hs:shut bs.length bs=true) {a:AV} (ha:a= .bG∨a= .ptr bs.length 0) (s:ag):K5 (aV bs a s) bs.length (bs.length+1) a s:=by
 unfold aV;refine ⟨?_,?_,by omega,ha,by simp,by simp,?_⟩
 ·rw [vV];rfl
 ·rw [dN];rfl
 ·rw [dO,gO (by simp) hs];rcases ha with rfl | rfl <;> simp [shut,av,AV.under]
theorem gV {bs:List ad} {a:AV} {s t:ag}:gB (aV bs a s) bs.length (bs.length+1) t=aV bs (.ptr bs.length 0) t:=by unfold gB aV;rw [tj,cy];rfl
theorem Ea (f:FuncId) (hns:vQ f) (j:Nat) (bs:List ad) (hsh:shut bs.length bs=true) (hj:j<bs.length) (nm:Int→ag)
  (hf: ∀u J,aq cfg f [.int .i64 u,.ptr j 0] (bs++J)=some (.str (nm u),bs++J)) (hnm: ∀u,(nm u).length≤1000) (s:ag) (hs:s.length≤10000):
  aq cfg 110 [.str s,.fn f [] [.ptr j 0]] bs=some (.str (bL nm s),bs):=by
 refine ab Py Ld ?_;obtain ⟨n1,n2,n3,n4⟩:=hns;simp only [exts,qq,D8,il] at n1 n2 n3 n4;have hm:=shut_map (Nat.le_refl _) hsh;simp (maxSteps:=9^9) (disch:=omega) [-List.map_replicate,-List.map_set,-List.getD_eq_getElem?_getD,-getElem?_pos,-getElem?_neg,om,JQ];refine Wp.aX (fun (a:Nat×ag×AV)=>s.length-a.1) (fun a=> [some (.str s),some (.fn f [] [.ptr j 0]),none,some (.ptr bs.length 0),some (.int .i64 a.1),none,none,none,none,none,none,none,none]) (fun a=>aV bs a.2.2 a.2.1) (fun a=>bL nm s=a.2.1++bL nm (s.drop a.1)∧a.1≤s.length∧a.2.1.length≤1000*a.1∧(a.2.2= .bG∨a.2.2= .ptr bs.length 0)) ?_ (0, [],.bG) ⟨by simp,by simp,by simp,.inl rfl⟩ (by simp) rfl;rintro ⟨i,out,a⟩ ⟨hi,hil,hol,ha⟩;simp only at hi hil hol ha⊢;have hbl:=fL hsh ha out;have hBl: ∀a out,(aV bs a out).length=bs.length+2:=fun a out=>by simp [aV]
 by_cases h1:i<s.length
 ·have hg:s[i]?=some (s.getD i 0):=by simp [List.getD_eq_getElem?_getD,h1]
  have hwb:=oV hbl (s.getD i 0) (by omega);rw [gV] at hwb;have hd:=yT s h1;by_cases hp:(an (s.drop i)).2=0
  ·have hi':bL nm s=out++ [s.getD i 0]++bL nm (s.drop (i+1)):=by rw [hi,hd,oY nm _ _ (by rw [←hd];exact hp)];simp
   by_cases hc:s.getD i 0=91
   ·have hu:=Df (s.drop i);rw [hd,hc,nW,←hc,←hd] at hu;unfold oT at hu;rw [hp] at hu;generalize (an (s.drop i)).1=p1 at*
    rw [hc] at hg hwb hi';replace hwb:aq cfg 127 [.ptr bs.length 0,.int .u8 91] _=_:=hwb;have hk2:=hBl a out;have hk3:=hBl (.ptr bs.length 0) (out++ [91]);generalize aV bs a out=B at*
    clear hd hp hc hi hf hbl;simp (maxSteps:=9^9) (disch:=omega) [-List.map_replicate,-List.map_set,-List.getD_eq_getElem?_getD,-getElem?_pos,-getElem?_neg,om,h1,hg,ah,hu,hwb,hk2,hk3];refine ⟨i+1,out++ [91],.ptr bs.length 0,⟨hi',by omega,by simp;omega,.inr rfl⟩,by omega,?_⟩;simp
   ·have hc2: ¬ (((s.getD i 0).toNat:Int)=91):=fun h=>hc (UInt8.toNat_inj.mp (by show _=91;omega));generalize s.getD i 0=c at*
    have hk2:=hBl a out;have hk3:=hBl (.ptr bs.length 0) (out++ [c]);generalize aV bs a out=B at*
    clear hd hp hc hi hf hbl;simp (maxSteps:=9^9) (disch:=omega) [-List.map_replicate,-List.map_set,-List.getD_eq_getElem?_getD,-getElem?_pos,-getElem?_neg,om,h1,hg,ah,hwb,hk2,hk3,hc2];refine ⟨i+1,out++ [c],.ptr bs.length 0,⟨hi',by omega,by simp;omega,.inr rfl⟩,by omega,?_⟩;simp
  ·obtain ⟨q1,q2,q3,q4,q5⟩:=(dh (s.drop i)).resolve_left (fun h=>hp (by rw [h]));have hc:s.getD i 0=91:=by rw [hd] at q5;simpa using q5
   have hu:=Df (s.drop i);rw [hd,hc,nW,←hc,←hd] at hu;unfold oT at hu
   have hi':bL nm s=out++nm (an (s.drop i)).1++bL nm (s.drop (i+(an (s.drop i)).2.toNat)):=by rw [hi,nC nm _ hp,List.drop_drop,List.append_assoc]
   have hw:aq cfg f [.int .i64 (an (s.drop i)).1,.ptr j 0] (aV bs a out)=some (.str (nm (an (s.drop i)).1),aV bs a out):=hf _ _;have hnx:=hnm (an (s.drop i)).1;have hws:=gh hbl (nm (an (s.drop i)).1) (by omega) (by omega);rw [gV] at hws;obtain ⟨n,hn⟩: ∃n:Nat,(an (s.drop i)).2=n:=⟨(an (s.drop i)).2.toNat,by omega⟩;rw [hn] at hu hi' q3 q4;rw [Int.toNat_natCast] at hi';have q4':i+n≤s.length:=by simp at q4;omega
   have q3':0<n:=by omega
   generalize nm (an (s.drop i)).1=x at*
   generalize (an (s.drop i)).1=p1 at*
   rw [hc] at hg;have hk2:=hBl a out;have hk3:=hBl (.ptr bs.length 0) (out++x);generalize aV bs a out=B at*
   clear hd hp hc hi hf hbl hwb q1 q2 q3 q4 q5 hn;simp (maxSteps:=9^9) (disch:=omega) [-List.map_replicate,-List.map_set,-List.getD_eq_getElem?_getD,-getElem?_pos,-getElem?_neg,om,h1,hg,ah,hu,hw,hws,hk2,hk3,q3',n1,n2,n3,n4];refine ⟨i+n,out++x,.ptr bs.length 0,⟨hi',by omega,by simp;omega,.inr rfl⟩,by omega,?_⟩;simp
 ·rw [List.drop_eq_nil_of_le (by omega),lL,List.append_nil] at hi;rw [hi];have hfin:(aV bs a out).take bs.length=bs:=by unfold aV;exact List.take_left' rfl
  by_cases h0:out= []
  ·subst h0;have hst:=rl hbl;have hfs:((aV bs a []).set (bs.length+1) (.sl ⟨false,none,none⟩ 1 [])).take bs.length=bs:=by unfold aV;rw [cy];exact List.take_left' rfl
   have hk2:=hBl a [];generalize aV bs a []=B at*
   simp (maxSteps:=9^9) (disch:=omega) [-List.map_replicate,-List.map_set,-List.getD_eq_getElem?_getD,-getElem?_pos,-getElem?_neg,om,h1,hst,hfs,hm,hk2]
  ·have hst:=nU hbl (by omega) h0;have hfs:((aV bs a out).set (bs.length+1) (.sl ⟨false,none,none⟩ 1 (out.map ah))).take bs.length=bs:=by unfold aV;rw [cy];exact List.take_left' rfl
   have hk2:=hBl a out;generalize aV bs a out=B at*
   simp (maxSteps:=9^9) (disch:=omega) [-List.map_replicate,-List.map_set,-List.getD_eq_getElem?_getD,-getElem?_pos,-getElem?_neg,om,h1,hst,hfs,hm,hk2]
end Go.Proofs.YtfnkchadeaedlaaGreatDoor
namespace Go.Proofs.YtfnkchadeaedlaaGreatDoor
open Go.Am
set_option maxRecDepth 10000
set_option maxHeartbeats 4000000
theorem rm (s:ag) (h:s.length<1000000):aq cfg 65 [.str s,.str [46]] []=some (.int .i64 (aN s), []):=by refine ab Pz JR ?_;simp (maxSteps:=9^9) (disch:=omega) [-List.map_replicate,-List.map_set,-List.getD_eq_getElem?_getD,-getElem?_pos,-getElem?_neg,om,Lf,xA,aN,Lib.countByte]
theorem FQ (c:Ct) (hc:c.ok) (hb: ∀s∈c.ay,s.mark.length<1000000∧s.title.length<1000000) (u:Int) (j:Nat) (B:List ad) (hj:ad.at B j= .var 26 (df c)):
  aq cfg 111 [.int .i64 u,.ptr j 0] B=some (.str (gg c.ay u),B):=by
 refine ab PA Lg ?_;have h:=yR c hc u hb;unfold bN df at h;simp (maxSteps:=9^9) (disch:=omega) [-List.map_replicate,-List.map_set,-List.getD_eq_getElem?_getD,-getElem?_pos,-getElem?_neg,om,JS,hj,h,df]
def ff (n:Nd):AV:= .agg [.int .i64 n.depth,.str n.tag,.str n.text]
def cD (s:qn):AV:= .agg [.int .i64 s.unit,.str s.num,.ak none 3 (s.nodes.map ff)]
theorem qv (order:List ag): ∀(r:List Fc) (cur:Fc),(gJ order cur r).length≤r.length+1
 | [],cur=>by simp [gJ]
 | f::r,cur=>by
  have h1:=qv order r f;have h2:=qv order r cur;rw [s9];split
  ·simp only [List.length_cons];omega
  ·split <;> simp only [List.length_cons] <;> omega
theorem jd (order:List ag): ∀l:List Fc,(aD order l).length≤l.length
 | []=>Nat.le_refl _
 | f::r=>qv order r f
theorem rn {nm:Int→ag} (h: ∀u,(nm u).length≤1000): ∀s:ag,(bL nm s).length≤1000*s.length:=by
 suffices H: ∀(n:Nat) (s:ag),s.length≤n→(bL nm s).length≤1000*s.length from fun s=>H _ s (Nat.le_refl _)
 intro n
 induction n with
 | zero=>intro s hs;have:s= []:=List.length_eq_zero_iff.mp (by omega);subst this;simp [lL]
 | succ n ih=>
  intro s hs;cases s with
  | nil=>simp [lL]
  | cons c r=>
   by_cases hp:(an (c::r)).2=0
   ·rw [oY nm _ _ hp];have:=ih r (by simp at hs;omega);simp only [List.length_cons];omega
   ·obtain ⟨q1,q2,q3,q4,q5⟩:=(dh (c::r)).resolve_left (fun h=>hp (by rw [h]));rw [nC nm _ hp];have h1:=h (an (c::r)).1;have h2:=ih ((c::r).drop (an (c::r)).2.toNat) (by simp at hs⊢;omega);simp only [List.length_append,List.length_drop] at h2⊢;omega
theorem BF (c:Ct) (hc:c.ok) (hb: ∀s∈c.ay,s.mark.length<1000000∧s.title.length<1000000) (hcl: ∀u,(gg c.ay u).length≤1000) (x:Sh) (num:ag) (hnl:num.length<10000) (hxo:x.ok) (hxl:1≤x.level∧x.level≤4)
  (hxt:x.title.length<10000) (on:Option Bool) (order:List ag) (ho:order.length<1000000) (hnb: ∀el,-9223372036854775808≤el→el≤9223372036854775807→(iq order c.aA el (gK Lib.itoa el)).length≤10000000) (hft: ∀f∈x.facts,f.text.length≤10000∧ -9223372036854775808≤f.el∧f.el≤9223372036854775807):
  aq cfg 62 [bN c,bU x,.str num,.ak on 1 (aw order)] []=some (cD (eK Lib.itoa order c (x,num)), []):=by
 refine ab SX PB ?_;have hcnt:=rm num (by omega);have hch:=tc x.fn x.fz x.facts hxo.fz hxo.fl on order ho;have hsx:bU x= .agg [.int .i64 x.unit,.int .i64 x.par,.int .i64 x.level,.str x.mark,.str x.title,.ak x.fn x.fz (x.facts.map fV)]:=rfl
 have hlev:([.str [],.str [102,111,110,100,115],.str [115,101,114,105,101,115],.str [102,105,108,101],.str [105,116,101,109]]:List AV)[x.level.toNat]?=some (.str (fk x.level)):=by
  have:x.level=1∨x.level=2∨x.level=3∨x.level=4:=by omega
  rcases this with h | h | h | h <;> rw [h] <;> rfl
 have hxl2:x.level.toNat<5:=by omega
 rw [hsx];have hsecN:(eK Lib.itoa order c (x,num)).nodes=⟨aN num,fk x.level,num++32::x.title⟩::(vW (aN num+1) x++(aD order x.facts).map (yX Lib.itoa order c (aN num+1))):=by simp [eK]
 have hse:cD (eK Lib.itoa order c (x,num))= .agg [.int .i64 x.unit,.str num,.ak none 3 ((eK Lib.itoa order c (x,num)).nodes.map ff)]:=rfl;rw [hse,hsecN];have hs1:=fun u B hj=>FQ c hc hb u 0 B hj;have hnm: ∀el,-9223372036854775808≤el→el≤9223372036854775807→aq cfg 113 [bN c,.int .i64 el,.ak on 1 (aw order)] []=some (.str (iq order c.aA el (gK Lib.itoa el)), []):=fun el h0 h9=>yQ c hc el h0 h9 on order ho;unfold bN df at*
 generalize aw c.ae=L1 at*
 generalize c.aA.map dm=L2 at*
 generalize c.ay.map bU=L3 at*
 generalize aw order=OA at*
 generalize x.facts.map fV=FA at*
 generalize hCA:(aD order x.facts).map fV=CA at*
 have hCl:CA.length=(aD order x.facts).length:=by rw [←hCA];simp
 clear hsx;have hdl:aN num≤num.length:=List.count_le_length;have hw:IntKind.i64.wrap ((aN num:Int)+1)=aN num+1:=wrap_i64 (by omega) (by omega);have hCHl:(aD order x.facts).length≤1000000:=Nat.le_trans (jd order x.facts) (by have:=hxo.fl;omega)
 have hCHm: ∀i (h:i<(aD order x.facts).length),CA[i]?=some (.agg [.int .i64 (aD order x.facts)[i].el,.str (aD order x.facts)[i].aa,.str (aD order x.facts)[i].text])∧(aD order x.facts)[i].text.length≤10000∧ -9223372036854775808≤(aD order x.facts)[i].el∧(aD order x.facts)[i].el≤9223372036854775807:=fun i h=>by
  obtain ⟨h1,h2,h3⟩:=hft _ (gi (List.getElem_mem h));refine ⟨?_,h1,h2,h3⟩;rw [←hCA];exact get_map _ _ h
 have hexp: ∀(t:ag) (R:List ad),t.length≤10000→shut (R.length+1) R=true→aq cfg 110 [.str t,.fn 111 [] [.ptr 0 0]] (.var 26 [.ak c.ln c.lz L1,.ak c.bn c.bz L2,.ak c.sn c.sz L3]::R)=some (.str (bL (gg c.ay) t),.var 26 [.ak c.ln c.lz L1,.ak c.bn c.bz L2,.ak c.sn c.sz L3]::R):=fun t R ht hR=>by
  refine Ea 111 ⟨rfl,rfl,rfl,rfl⟩ 0 _ (by simpa [shut,av,AV.under] using hR) (by simp) (gg c.ay) (fun u J=>hs1 u _ ?_) (fun u=>hcl u) t ht;simp [ad.at]
 generalize hCH:aD order x.facts=CH at*
 have hNFl:(ff ⟨aN num,fk x.level,num++32::x.title⟩)= .agg [.int .i64 (aN num),.str (fk x.level),.str (num++32::x.title)]:=rfl;generalize hFNd:yX Lib.itoa order c ((aN num:Int)+1)=FN at*
 generalize hNF:(⟨aN num,fk x.level,num++32::x.title⟩::(vW (aN num+1) x++CH.map FN):List Nd)=NF at*
 by_cases hmk:x.mark= []
 ·rw [hmk];simp (maxSteps:=9^9) (disch:=omega) [-List.map_replicate,-List.map_set,-List.getD_eq_getElem?_getD,-getElem?_pos,-getElem?_neg,om,Lh,hcnt,hch,af,hlev,hxl2,hCl]
  refine Wp.aX (fun (a:Nat×List Nd)=>CH.length-a.1) (fun a=> [none,none,none,some (.ak on 1 OA),some (.ptr 0 0),none,some (.ptr 2 0),some (.int .i64 (aN num)),none,some (.ptr 6 0),none,none,none,none,none,none,none,none,none,none,none,none,none,some (.ak none 3 CA),some (.int .i64 CH.length),some (.int .i64 a.1),none,none,none,none,none,none,none,none,none,none]) (fun a=> [.var 26 [.ak c.ln c.lz L1,.ak c.bn c.bz L2,.ak c.sn c.sz L3],.var 73 [.int .i64 x.unit,.int .i64 x.par,.int .i64 x.level,.str [],.str x.title,.ak x.fn x.fz FA],.var 46 [.int .i64 0,.str [],.az 3 0],.sl ⟨false,some 75,none⟩ 3 [],.var 141 [.str [],.str [102,111,110,100,115],.str [115,101,114,105,101,115],.str [102,105,108,101],.str [105,116,101,109]],.sl ⟨false,some 75,none⟩ 3 (a.2.map ff),.var 46 [.int .i64 x.unit,.str num,.az 5 a.2.length]])
   (fun a=>NF=a.2++(CH.drop a.1).map FN∧a.1≤CH.length∧a.2.length≤a.1+2) ?_ (0, [⟨aN num,fk x.level,num++32::x.title⟩]) ⟨by simp [←hNF,vW,hmk],by simp,by simp⟩ (by simp) (by simp [ff])
  rintro ⟨i,N⟩ ⟨hi,hil,hNl⟩;simp only at hi hil hNl⊢;rw [hi];by_cases h1:i<CH.length
  ·obtain ⟨hg,ht,hel1,hel2⟩:=hCHm i h1;have hn:=hnm CH[i].el hel1 hel2;have hx:=hexp CH[i].text [.var 73 [.int .i64 x.unit,.int .i64 x.par,.int .i64 x.level,.str [],.str x.title,.ak x.fn x.fz FA],.var 46 [.int .i64 0,.str [],.az 3 0],.sl ⟨false,some 75,none⟩ 3 [],.var 141 [.str [],.str [102,111,110,100,115],.str [115,101,114,105,101,115],.str [102,105,108,101],.str [105,116,101,109]],.sl ⟨false,some 75,none⟩ 3 (N.map ff),.var 46 [.int .i64 x.unit,.str num,.az 5 N.length],.var 79 [.int .i64 CH[i].el,.str CH[i].aa,.str CH[i].text]] ht (by simp [shut,av,AV.under,cg]);rw [List.drop_eq_getElem_cons h1,List.map_cons] at hi⊢;have hFN:FN CH[i]=⟨(aN num:Int)+1, [112],iq order c.aA CH[i].el (gK Lib.itoa CH[i].el)++58::32::bL (gg c.ay) CH[i].text⟩:=by rw [←hFNd];simp [yX]
   have hNd:FN CH[i]::(CH.drop (i+1)).map FN= [FN CH[i]]++(CH.drop (i+1)).map FN:=rfl;have hNm:(N.map ff).length=N.length:=by simp
   have hxtl:=rn hcl CH[i].text;have hnml:=hnb CH[i].el hel1 hel2;generalize CH[i]=f at*
   generalize iq order c.aA f.el (gK Lib.itoa f.el)=nm at*
   generalize bL (gg c.ay) f.text=xt at*
   clear hCHm hexp hnm hs1 hi hsecN hlev hb hcl hft hch hNF hnb;simp (maxSteps:=9^9) (disch:=omega) [-List.map_replicate,-List.map_set,-List.getD_eq_getElem?_getD,-getElem?_pos,-getElem?_neg,om,h1,hg,af,hn,hx,hw,hNm];refine ⟨i+1,N++ [FN f],⟨by simp,by omega,by simp;omega⟩,by omega,?_⟩;exact ⟨by omega,by simp [ff,hFN],by simp⟩
  ·rw [List.drop_eq_nil_of_le (by omega),List.map_nil,List.append_nil] at hi⊢;simp (maxSteps:=9^9) (disch:=omega) [-List.map_replicate,-List.map_set,-List.getD_eq_getElem?_getD,-getElem?_pos,-getElem?_neg,om,h1,af]
 ·simp (maxSteps:=9^9) (disch:=omega) [-List.map_replicate,-List.map_set,-List.getD_eq_getElem?_getD,-getElem?_pos,-getElem?_neg,om,Lh,hcnt,hch,af,hlev,hxl2,hCl,hmk,hw]
  refine Wp.aX (fun (a:Nat×List Nd)=>CH.length-a.1) (fun a=> [none,none,none,some (.ak on 1 OA),some (.ptr 0 0),none,some (.ptr 2 0),some (.int .i64 (aN num)),none,some (.ptr 6 0),none,none,none,none,none,none,none,none,none,none,none,none,none,some (.ak none 3 CA),some (.int .i64 CH.length),some (.int .i64 a.1),none,none,none,none,none,none,none,none,none,none]) (fun a=> [.var 26 [.ak c.ln c.lz L1,.ak c.bn c.bz L2,.ak c.sn c.sz L3],.var 73 [.int .i64 x.unit,.int .i64 x.par,.int .i64 x.level,.str x.mark,.str x.title,.ak x.fn x.fz FA],.var 46 [.int .i64 0,.str [],.az 3 0],.sl ⟨false,some 75,none⟩ 3 [],.var 141 [.str [],.str [102,111,110,100,115],.str [115,101,114,105,101,115],.str [102,105,108,101],.str [105,116,101,109]],.sl ⟨false,some 75,none⟩ 3 (a.2.map ff),.var 46 [.int .i64 x.unit,.str num,.az 5 a.2.length],.sl ⟨false,some 75,none⟩ 3 [.agg [.int .i64 ((aN num:Int)+1),.str [109,97,114,107],.str x.mark]],.dead])
   (fun a=>NF=a.2++(CH.drop a.1).map FN∧a.1≤CH.length∧a.2.length≤a.1+2) ?_ (0, [⟨aN num,fk x.level,num++32::x.title⟩,⟨(aN num:Int)+1, [109,97,114,107],x.mark⟩]) ⟨by simp [←hNF,vW,hmk],by simp,by simp⟩ (by simp) (by simp [ff])
  rintro ⟨i,N⟩ ⟨hi,hil,hNl⟩;simp only at hi hil hNl⊢;rw [hi];by_cases h1:i<CH.length
  ·obtain ⟨hg,ht,hel1,hel2⟩:=hCHm i h1;have hn:=hnm CH[i].el hel1 hel2;have hx:=hexp CH[i].text [.var 73 [.int .i64 x.unit,.int .i64 x.par,.int .i64 x.level,.str x.mark,.str x.title,.ak x.fn x.fz FA],.var 46 [.int .i64 0,.str [],.az 3 0],.sl ⟨false,some 75,none⟩ 3 [],.var 141 [.str [],.str [102,111,110,100,115],.str [115,101,114,105,101,115],.str [102,105,108,101],.str [105,116,101,109]],.sl ⟨false,some 75,none⟩ 3 (N.map ff),.var 46 [.int .i64 x.unit,.str num,.az 5 N.length],.sl ⟨false,some 75,none⟩ 3 [.agg [.int .i64 ((aN num:Int)+1),.str [109,97,114,107],.str x.mark]],.dead,.var 79 [.int .i64 CH[i].el,.str CH[i].aa,.str CH[i].text]] ht (by simp [shut,av,AV.under,cg]);rw [List.drop_eq_getElem_cons h1,List.map_cons] at hi⊢;have hFN:FN CH[i]=⟨(aN num:Int)+1, [112],iq order c.aA CH[i].el (gK Lib.itoa CH[i].el)++58::32::bL (gg c.ay) CH[i].text⟩:=by rw [←hFNd];simp [yX]
   have hNd:FN CH[i]::(CH.drop (i+1)).map FN= [FN CH[i]]++(CH.drop (i+1)).map FN:=rfl;have hNm:(N.map ff).length=N.length:=by simp
   have hxtl:=rn hcl CH[i].text;have hnml:=hnb CH[i].el hel1 hel2;generalize CH[i]=f at*
   generalize iq order c.aA f.el (gK Lib.itoa f.el)=nm at*
   generalize bL (gg c.ay) f.text=xt at*
   clear hCHm hexp hnm hs1 hi hsecN hlev hb hcl hft hch hNF hnb;simp (maxSteps:=9^9) (disch:=omega) [-List.map_replicate,-List.map_set,-List.getD_eq_getElem?_getD,-getElem?_pos,-getElem?_neg,om,h1,hg,af,hn,hx,hw,hNm];refine ⟨i+1,N++ [FN f],⟨by simp,by omega,by simp;omega⟩,by omega,?_⟩;exact ⟨by omega,by simp [ff,hFN],by simp⟩
  ·rw [List.drop_eq_nil_of_le (by omega),List.map_nil,List.append_nil] at hi⊢;simp (maxSteps:=9^9) (disch:=omega) [-List.map_replicate,-List.map_set,-List.getD_eq_getElem?_getD,-getElem?_pos,-getElem?_neg,om,h1,af]
end Go.Proofs.YtfnkchadeaedlaaGreatDoor
namespace Go.Proofs.YtfnkchadeaedlaaGreatDoor
open Go.Am
set_option maxRecDepth 10000
set_option maxHeartbeats 4000000
section
variable {α:Type}
def iY (vf:α→AV) (e:Int×α×Nat):AV×AV×Nat:=(.int .i64 e.1,vf e.2.1,e.2.2)
def fI (u:Int):List (Int×α×Nat)→Nat→Option (Nat×Int×α×Nat)
 | [],_=>none
 | e::r,i=>if e.1=u then some (i,e) else fI u r (i+1)
theorem oZ (vf:α→AV) (u:Int): ∀(m:List (Int×α×Nat)) (i:Nat),je (bB cfg 20 3) (.int .i64 u) (m.map (iY vf)) i=some ((fI u m i).map fun p=>(p.1,iY vf p.2))
 | [],i=>rfl
 | e::r,i=>by
  have ih:=oZ vf u r (i+1);have he:bB cfg 20 3 (.int .i64 u) (iY vf e).1=some (u==e.1):=by simp (config:={maxSteps:=1000000}) (disch:=omega) [-List.map_replicate,-List.map_set,-List.getD_eq_getElem?_getD,-getElem?_pos,-getElem?_neg,wrap_i64,mM,jf,jg,gP,iY]
  simp only [List.map_cons,je,he,fI];by_cases hs:e.1=u
  ·simp [hs]
  ·have hs2:(u==e.1)=false:=by simpa using fun h=>hs h.symm
   simp only [hs2,if_neg hs];exact ih
def bq (m:List (Int×α×Nat)):List (Int×α):=m.map fun e=>(e.1,e.2.1)
theorem nX (u:Int): ∀(m:List (Int×α×Nat)) (i:Nat),(fI u m i).map (fun p=>p.2.2.1)=dp (bq m) u
 | [],i=>rfl
 | e::r,i=>by
  have ih:=nX u r (i+1);simp only [fI,bq,List.map_cons,dp];by_cases hs:e.1=u
  ·simp [hs]
  ·rw [if_neg hs,if_neg hs];exact ih
theorem kI (u:Int): ∀(m:List (Int×α×Nat)) (i j:Nat) (e:Int×α×Nat),fI u m i=some (j,e)→i≤j∧m[j-i]?=some e∧e.1=u
 | [],i,j,e,h=>by cases h
 | x::r,i,j,e,h=>by
  simp only [fI] at h;split at h
  ·rename_i hs;cases h;exact ⟨Nat.le_refl _,by simp,hs⟩
  ·obtain ⟨h1,h2,h3⟩:=kI u r (i+1) j e h;refine ⟨by omega,?_,h3⟩;rw [show j-i=(j-(i+1))+1 by omega];simpa using h2
def o0 (m:List (Int×α×Nat)) (clock:Nat) (u:Int) (v:α):List (Int×α×Nat):=match fI u m 0 with
 | some (j,e)=>m.set j (u,v,e.2.2)
 | none=>m++ [(u,v,clock)]
def ly (m:List (Int×α×Nat)) (clock:Nat) (u:Int):Nat:=match fI u m 0 with
 | some _=>clock
 | none=>clock+1
theorem Dg (u:Int) (v:α): ∀(m:List (Int×α×Nat)) (i j:Nat) (e:Int×α×Nat),fI u m i=some (j,e)→iZ (bq m) u v=bq (m.set (j-i) (u,v,e.2.2))
 | [],i,j,e,h=>by cases h
 | x::r,i,j,e,h=>by
  simp only [fI] at h;split at h
  ·rename_i hs;cases h;simp [bq,iZ,hs]
  ·rename_i hs;obtain ⟨h1,_,_⟩:=kI u r (i+1) j e h;have ih:=Dg u v r (i+1) j e h;rw [show j-i=(j-(i+1))+1 by omega,List.set_cons_succ];simp only [bq,List.map_cons,iZ,if_neg hs] at ih⊢;rw [ih]
theorem yY (u:Int) (v:α) (c:Nat): ∀(m:List (Int×α×Nat)) (i:Nat),fI u m i=none→iZ (bq m) u v=bq (m++ [(u,v,c)])
 | [],i,_=>rfl
 | x::r,i,h=>by
  simp only [fI] at h;split at h
  ·cases h
  ·rename_i hs;have ih:=yY u v c r (i+1) h;simp only [bq,List.map_cons,List.cons_append,iZ,if_neg hs] at ih⊢;rw [ih]
theorem eL (m:List (Int×α×Nat)) (clock:Nat) (u:Int) (v:α):bq (o0 m clock u v)=iZ (bq m) u v:=by
 unfold o0;cases h:fI u m 0 with
 | none=>exact (yY u v clock m 0 h).symm
 | some p=>obtain ⟨j,e⟩:=p;have:=Dg u v m 0 j e h;simp only [Nat.sub_zero] at this;exact this.symm
end
end Go.Proofs.YtfnkchadeaedlaaGreatDoor
namespace Go.Proofs.YtfnkchadeaedlaaGreatDoor
open Go.Am
set_option maxRecDepth 10000
set_option maxHeartbeats 4000000
theorem nY {α:Type} (u:Int) (v:α) (m:List (Int×α)):dp (iZ m u v) u=some v:=by rw [lM,if_pos rfl]
def BG (m:List (Int×ag)) (u:Int):AV:=match dp m u with
 | some v=> .aI [.str v,.bool true]
 | none=> .aI [.str [],.bool false]
def iA (n:Int):AV:= .int .i64 n
theorem HX {bs:List ad} {k clock:Nat} {m:List (Int×ag×Nat)} (h:ad.at bs k= .mp (m.map (iY .str)) clock) (u:Int):dB cfg (cfg.ti 139) (.cu k) (.int .i64 u) true bs=some (BG (bq m) u,.none):=by
 have hf:=oZ .str u m 0;have hl:=nX u m 0;unfold BG;rw [←hl];cases hq:fI u m 0 with
 | none=>rw [hq] at hf;simp [dB,fm,qw,o5,cz,h,hf,-bB]
 | some p=>rw [hq] at hf;simp [dB,fm,qw,o5,cz,h,hf,-bB,iY]
theorem HY {bs:List ad} {k clock:Nat} {m:List (Int×Int×Nat)} (h:ad.at bs k= .mp (m.map (iY iA)) clock) (u:Int):dB cfg (cfg.ti 140) (.cu k) (.int .i64 u) false bs=some (.int .i64 ((dp (bq m) u).getD 0),.none):=by
 have hf:=oZ iA u m 0;have hl:=nX u m 0;rw [←hl];cases hq:fI u m 0 with
 | none=>rw [hq] at hf;simp [dB,fm,qw,o5,cz,h,hf,-bB]
 | some p=>rw [hq] at hf;simp [dB,fm,qw,o5,cz,h,hf,-bB,iY,iA]
theorem rq {α:Type} (vf:α→AV) (m:List (Int×α×Nat)) (j:Nat) (e:Int×α×Nat):(m.set j e).map (iY vf)=(m.map (iY vf)).set j (iY vf e):=by simp [List.map_set]
theorem Li {bs:List ad} {k clock:Nat} {m:List (Int×ag×Nat)} (h:ad.at bs k= .mp (m.map (iY .str)) clock) (u:Int) (v:ag):aO cfg (cfg.ti 139) (.cu k) (.int .i64 u) (.str v) bs=some (.aI [],.gL k (.mp ((o0 m clock u v).map (iY .str)) (ly m clock u))):=by
 have hf:=oZ .str u m 0;unfold o0 ly;cases hq:fI u m 0 with
 | none=>rw [hq] at hf;simp [aO,cz,gj,fM,gM,h,hf,-bB,iY]
 | some p=>obtain ⟨j,e⟩:=p;obtain ⟨_,_,he⟩:=kI u m 0 j e hq;rw [hq] at hf;simp [aO,cz,gj,fM,gM,h,hf,-bB,iY,sameKey,iu,he,rq,-List.map_set]
theorem Lj {bs:List ad} {k clock:Nat} {m:List (Int×Int×Nat)} (h:ad.at bs k= .mp (m.map (iY iA)) clock) (u:Int) (v:Int):aO cfg (cfg.ti 140) (.cu k) (.int .i64 u) (.int .i64 v) bs=some (.aI [],.gL k (.mp ((o0 m clock u v).map (iY iA)) (ly m clock u))):=by
 have hf:=oZ iA u m 0;unfold o0 ly;cases hq:fI u m 0 with
 | none=>rw [hq] at hf;simp [aO,cz,gj,fM,gM,h,hf,-bB,iY,iA]
 | some p=>obtain ⟨j,e⟩:=p;obtain ⟨_,_,he⟩:=kI u m 0 j e hq;rw [hq] at hf;simp [aO,cz,gj,fM,gM,h,hf,-bB,iY,iA,sameKey,iu,he,rq,-List.map_set]
theorem Lk {C:List ad} {n:Nat} (h:C.length=n):(∀l,(C++l)[n]?=l[0]?)∧(∀l,(C++l)[n+1]?=l[1]?)∧(∀l,(C++l)[n+1+1]?=l[2]?)∧(∀l,(C++l)[n+1+1+1]?=l[3]?)
  ∧(∀l X,(C++l).set n X=C++l.set 0 X)∧(∀l X,(C++l).set (n+1) X=C++l.set 1 X)∧(∀l X,(C++l).set (n+1+1) X=C++l.set 2 X)∧(∀l X,(C++l).set (n+1+1+1) X=C++l.set 3 X)
  ∧(∀l,ad.at (C++l) n=ad.at l 0)∧(∀l,ad.at (C++l) (n+1)=ad.at l 1)∧(∀l,ad.at (C++l) (n+1+1)=ad.at l 2)∧(∀l,ad.at (C++l) (n+1+1+1)=ad.at l 3)∧(∀l,(C++l).take n=C):=by
 subst h
 exact ⟨fun l=>by simpa using dn C l 0,fun l=>dn C l 1,fun l=>dn C l 2,fun l=>dn C l 3,
  fun l X=>by simpa using cy C l 0 X,fun l X=>cy C l 1 X,fun l X=>cy C l 2 X,fun l X=>cy C l 3 X,
  fun l=>by simpa using dN C l 0,fun l=>dN C l 1,fun l=>dN C l 2,fun l=>dN C l 3,fun l=>List.take_left' rfl⟩
theorem Dh {C:List ad} {n:Nat} (h:C.length=n) (l:List ad):(C++l).take (n+3)=C++l.take 3:=by subst h;rw [List.take_append,List.take_of_length_le (by omega)];simp
theorem xB (n:Nat):dS n∘iY AV.str=iY AV.str:=by funext e;simp [dS,iY,forget,AV.under]
theorem xC (n:Nat):dS n∘iY iA=iY iA:=by funext e;simp [dS,iY,iA,forget,AV.under]
theorem HZ (n:Nat) (m:List (Int×ag×Nat)):dC n (m.map (iY .str))=true:=by
 induction m with
 | nil=>rfl
 | cons e r ih=>simp [dC,iY,AV.under] at ih⊢;try exact ih
theorem H0 (n:Nat) (m:List (Int×Int×Nat)):dC n (m.map (iY iA))=true:=by
 induction m with
 | nil=>rfl
 | cons e r ih=>simp [dC,iY,iA,AV.under] at ih⊢;try exact ih
theorem rA {σ:Type} (K:σ→List ad) (stp:σ→Sh×ag→σ) (Inv:Nat→σ→Prop) (n0:Nat) (hKl: ∀st,(K st).length=n0) (hKs: ∀st,shut n0 (K st)=true)
  (f:FuncId) (hns:vQ f) (caps:List AV) (c:Ct) (hc:c.ok) (hlen:c.ay.length≤400)
  (hcu: ∀n,n0≤n→av n caps=true) (hcL: ∀B,cV B caps=some caps) (hcP:aj caps=false)
  (hf: ∀i st s n J,i<c.ay.length→Inv i st→s∈c.ay→n.length<10000→shut (n0+J.length) J=true→aq cfg f (bU s:: .str n::caps) (K st++J)=some (.aI [],K (stp st (s,n))++J)∧Inv (i+1) (stp st (s,n)))
  (hInv: ∀i st,Inv i st→Inv (i+1) st) (root:Int) (st0:σ) (h0:Inv 0 st0):
  aq cfg 60 [bN c,.int .i64 root,.fn f [] caps] (K st0)=some (.aI [],K ((ec Lib.itoa root ⟨[], []⟩ c.ay).foldl stp st0)):=by
 refine ab SY PC ?_;obtain ⟨n1,n2,n3,n4⟩:=hns;simp only [exts,qq,D8,il] at n1 n2 n3 n4;have hE: ∀k (h:k<c.ay.length),(c.ay.map bU)[k]?=some (bU c.ay[k]):=fun k h=>get_map _ _ h;have hEl:(c.ay.map bU).length=c.ay.length:=by simp
 have hcsz:=hc.sz;unfold bN df;generalize aw c.ae=L1 at*
 generalize c.aA.map dm=L2 at*
 generalize c.ay.map bU=L3 at*
 generalize c.sz=sz at*
 generalize c.ay=l at*
 have hk0:=hKl st0;have e1:n0+1-n0=1:=by omega
 have e2:n0+1+1-n0=2:=by omega
 have e3:n0+1+1+1-n0=3:=by omega
 obtain ⟨g0,g1,g2,g3,s0,s1,s2,s3,b0,b1,b2,b3,tk⟩:=Lk hk0;simp (maxSteps:=9^9) (disch:=omega) [-List.map_replicate,-List.map_set,-List.getD_eq_getElem?_getD,-getElem?_pos,-getElem?_neg,om,PD,af,hEl,hk0,g0,g1,g2,g3,s0,s1,s2,s3,b0,b1,b2,b3,tk,jY,e1,e2,e3];clear g0 g1 g2 g3 s0 s1 s2 s3 b0 b1 b2 b3 tk hk0
 refine Wp.aX (fun (a:Nat×σ×(List (Int×ag×Nat)×Nat)×(List (Int×Int×Nat)×Nat))=>l.length-a.1) (fun a=> [none,some (.int .i64 root),some (.fn f [] caps),none,some (.cu (n0+1)),some (.cu (n0+1+1)),none,none,none,none,none,none,none,some (.ak c.sn sz L3),some (.int .i64 l.length),some (.int .i64 a.1),none,none,none,none,none,none,none,none,none,none,none,none])
  (fun a=>K a.2.1++ [.var 26 [.ak c.ln c.lz L1,.ak c.bn c.bz L2,.ak c.sn sz L3],.mp (a.2.2.1.1.map (iY .str)) a.2.2.1.2,.mp (a.2.2.2.1.map (iY iA)) a.2.2.2.2])
  (fun a=>(ec Lib.itoa root ⟨[], []⟩ l).foldl stp st0=(ec Lib.itoa root ⟨bq a.2.2.1.1,bq a.2.2.2.1⟩ (l.drop a.1)).foldl stp a.2.1∧a.1≤l.length∧Inv a.1 a.2.1
   ∧(∀u v,dp (bq a.2.2.1.1) u=some v→v.length≤22*(a.1+1))∧(∀u,0≤(dp (bq a.2.2.2.1) u).getD 0∧(dp (bq a.2.2.2.1) u).getD 0≤a.1)) ?_ (0,st0,([],0),([],0)) ⟨rfl,by omega,h0,by simp [bq,dp],by simp [bq,dp]⟩ (by simp) (by simp)
 rintro ⟨i,st,⟨m,cm⟩,⟨q,cq⟩⟩ ⟨hi,hil,hI,hm,hq⟩;simp only at hi hil hI hm hq⊢;have hcu3:=hcu (n0+3) (by omega);have hks:=hKs st;have hkm:=shut_map (Nat.le_refl _) hks;obtain ⟨g0,g1,g2,g3,s0,s1,s2,s3,b0,b1,b2,b3,tk⟩:=Lk (hKl st);by_cases h1:i<l.length
 ·have hk1:=hKl st;have look1: ∀(m:List (Int×ag×Nat)) cm b' l' u,dB cfg (cfg.ti 139) (.cu (n0+1)) (.int .i64 u) true (K st++(b':: .mp (m.map (iY .str)) cm::l'))=some (BG (bq m) u,.none):=fun m cm b' l' u=>HX (by rw [b1];rfl) u;have look2: ∀(m:List (Int×Int×Nat)) cm b' b'' l' u,dB cfg (cfg.ti 140) (.cu (n0+1+1)) (.int .i64 u) false (K st++(b'::b'':: .mp (m.map (iY iA)) cm::l'))=some (.int .i64 ((dp (bq m) u).getD 0),.none):=fun m cm b' b'' l' u=>HY (by rw [b2];rfl) u;have put1: ∀(m:List (Int×ag×Nat)) cm b' l' u v,aO cfg (cfg.ti 139) (.cu (n0+1)) (.int .i64 u) (.str v) (K st++(b':: .mp (m.map (iY .str)) cm::l'))=some (.aI [],.gL (n0+1) (.mp ((o0 m cm u v).map (iY .str)) (ly m cm u))):=fun m cm b' l' u v=>Li (by rw [b1];rfl) u v;have ed: ∀(m:List (Int×Int×Nat)) cm b' b'' l' u v,aO cfg (cfg.ti 140) (.cu (n0+1+1)) (.int .i64 u) (.int .i64 v) (K st++(b'::b'':: .mp (m.map (iY iA)) cm::l'))=some (.aI [],.gL (n0+1+1) (.mp ((o0 m cm u v).map (iY iA)) (ly m cm u))):=fun m cm b' b'' l' u v=>Lj (by rw [b2];rfl) u v;simp only [JT,JU] at look1 look2 put1 ed;have hg:=hE i h1;have hsm:l[i]∈l:=List.getElem_mem h1;have hcl:=fun n J hn hJ=>hf i st l[i] n J h1 hI hsm hn hJ;obtain rfl:=hcsz (ne_of_lt h1);rw [List.drop_eq_getElem_cons h1] at hi;simp only [ec] at hi;clear hE hf;generalize l[i]=s at*
  unfold bU at hg hcl;have b3': ∀l,ad.at (K st++l) (n0+3)=ad.at l 3:=b3;have g3': ∀l,(K st++l)[n0+3]?=l[3]?:=g3;have s3': ∀l X,(K st++l).set (n0+3) X=K st++l.set 3 X:=s3
  have hJ: ∀(m:List (Int×ag×Nat)) (cm:Nat) (q:List (Int×Int×Nat)) (cq:Nat),shut (n0+4) [.var 26 [.ak c.ln c.lz L1,.ak c.bn c.bz L2,.ak c.sn 6 L3],.mp (m.map (iY .str)) cm,.mp (q.map (iY iA)) cq,.var 73 [.int .i64 s.unit,.int .i64 s.par,.int .i64 s.level,.str s.mark,.str s.title,.ak s.fn s.fz (s.facts.map fV)]]=true:=fun m cm q cq=>by
   simp [shut,av,AV.under,HZ,H0]
  by_cases hr:s.unit=root
  ·subst hr;have hst:fX Lib.itoa s.unit ⟨bq m,bq q⟩ s=⟨iZ (bq m) s.unit [49],bq q⟩:=by unfold fX;rw [if_pos rfl]
   rw [hst] at hi;have hlk:dp (iZ (bq m) s.unit [49]) s.unit=some [49]:=nY _ _ _;rw [hlk] at hi;simp only [List.foldl_cons] at hi;have hlk2:BG (iZ (bq m) s.unit [49]) s.unit= .aI [.str [49],.bool true]:=by unfold BG;rw [hlk]
   obtain ⟨hc1,hc2⟩:=hcl [49] [.var 26 [.ak c.ln c.lz L1,.ak c.bn c.bz L2,.ak c.sn 6 L3],.mp ((o0 m cm s.unit [49]).map (iY .str)) (ly m cm s.unit),.mp (q.map (iY iA)) cq,.var 73 [.int .i64 s.unit,.int .i64 s.par,.int .i64 s.level,.str s.mark,.str s.title,.ak s.fn s.fz (s.facts.map fV)]] (by simp) (hJ _ _ _ _);have hk2:=hKl (stp st (s, [49]));have tk3:=Dh hk2;have hkm2:=shut_map (show n0≤n0+3 by omega) (hKs (stp st (s, [49])));simp (maxSteps:=9^9) (disch:=omega) [-List.map_replicate,-List.map_set,-List.getD_eq_getElem?_getD,-getElem?_pos,-getElem?_neg,om,h1,hg,af,hk1,g0,g1,g2,g3,s0,s1,s2,s3,b0,b1,b2,b3,tk,e1,e2,e3,look1,look2,put1,ed,n1,n2,n3,n4,hcL,hcP,b3',g3',s3',eL,hlk2,hc1,hk2,tk3,hkm2,xB,xC,hcu3];refine ⟨i+1,stp st (s, [49]),o0 m cm s.unit [49],ly m cm s.unit,q,⟨by rw [eL];exact hi,by omega,hc2,?_,?_⟩,by omega,by omega,cq,rfl⟩
   ·intro u v hv;rw [eL,lM] at hv;split at hv
    ·cases hv;simp;omega
    ·have:=hm u v hv;omega
   ·intro u;have:=hq u;omega
  ·cases hpar:dp (bq m) s.par with
   | none=>
    have hst:fX Lib.itoa root ⟨bq m,bq q⟩ s=⟨bq m,bq q⟩:=by unfold fX;rw [if_neg hr,hpar]
    rw [hst] at hi;have hlp:BG (bq m) s.par= .aI [.str [],.bool false]:=by unfold BG;rw [hpar]
    cases hun:dp (bq m) s.unit with
    | none=>
     rw [hun] at hi;have hlk2:BG (bq m) s.unit= .aI [.str [],.bool false]:=by unfold BG;rw [hun]
     have tk3:=Dh hk1;have hkm2:=shut_map (show n0≤n0+3 by omega) hks;simp (maxSteps:=9^9) (disch:=omega) [-List.map_replicate,-List.map_set,-List.getD_eq_getElem?_getD,-getElem?_pos,-getElem?_neg,om,h1,hg,af,hk1,g0,g1,g2,g3,s0,s1,s2,s3,b0,b1,b2,b3,tk,e1,e2,e3,look1,look2,put1,ed,n1,n2,n3,n4,hcL,hcP,b3',g3',s3',eL,xB,xC,hcu3,hr,hlk2,hlp,tk3,hkm2];refine ⟨i+1,st,m,cm,q,⟨hi,by omega,hInv _ _ hI,fun u v hv=>by have:=hm u v hv;omega,fun u=>by have:=hq u;omega⟩,by omega,by omega,cq,rfl⟩
    | some n=>
     rw [hun] at hi;simp only [List.foldl_cons] at hi;have hlk2:BG (bq m) s.unit= .aI [.str n,.bool true]:=by unfold BG;rw [hun]
     obtain ⟨hc1,hc2⟩:=hcl n [.var 26 [.ak c.ln c.lz L1,.ak c.bn c.bz L2,.ak c.sn 6 L3],.mp (m.map (iY .str)) cm,.mp (q.map (iY iA)) cq,.var 73 [.int .i64 s.unit,.int .i64 s.par,.int .i64 s.level,.str s.mark,.str s.title,.ak s.fn s.fz (s.facts.map fV)]] (by have:=hm _ _ hun;omega) (hJ _ _ _ _);have hk2:=hKl (stp st (s,n));have tk3:=Dh hk2;have hkm2:=shut_map (show n0≤n0+3 by omega) (hKs (stp st (s,n)));simp (maxSteps:=9^9) (disch:=omega) [-List.map_replicate,-List.map_set,-List.getD_eq_getElem?_getD,-getElem?_pos,-getElem?_neg,om,h1,hg,af,hk1,g0,g1,g2,g3,s0,s1,s2,s3,b0,b1,b2,b3,tk,e1,e2,e3,look1,look2,put1,ed,n1,n2,n3,n4,hcL,hcP,b3',g3',s3',eL,xB,xC,hcu3,hr,hlk2,hlp,hc1,hk2,tk3,hkm2];refine ⟨i+1,stp st (s,n),m,cm,q,⟨hi,by omega,hc2,fun u v hv=>by have:=hm u v hv;omega,fun u=>by have:=hq u;omega⟩,by omega,by omega,cq,rfl⟩
   | some above=>
    have hxq:=hq s.par;generalize hx:(dp (bq q) s.par).getD 0=x at*
    have hst:fX Lib.itoa root ⟨bq m,bq q⟩ s=⟨iZ (bq m) s.unit (above++46::Lib.itoa (x+1)),iZ (bq q) s.par (x+1)⟩:=by unfold fX;rw [if_neg hr,hpar];simp [hx]
    rw [hst] at hi;have hal:=hm _ _ hpar;have hit:(Lib.itoa (x+1)).length≤21:=Lib.itoa_length_le (x+1) (by omega) (by omega);have hlp:BG (bq m) s.par= .aI [.str above,.bool true]:=by unfold BG;rw [hpar]
    have hw:IntKind.i64.wrap (x+1)=x+1:=wrap_i64 (by omega) (by omega);have hk3:(dp (iZ (bq q) s.par (x+1)) s.par).getD 0=x+1:=by rw [nY];rfl
    have hid1: -9223372036854775808≤x+1:=by omega
    have hid2:x+1≤9223372036854775807:=by omega
    have hlk:dp (iZ (bq m) s.unit (above++46::Lib.itoa (x+1))) s.unit=some (above++46::Lib.itoa (x+1)):=nY _ _ _;rw [hlk] at hi;simp only [List.foldl_cons] at hi;have hlk2:BG (iZ (bq m) s.unit (above++46::Lib.itoa (x+1))) s.unit= .aI [.str (above++46::Lib.itoa (x+1)),.bool true]:=by unfold BG;rw [hlk]
    generalize hit2:Lib.itoa (x+1)=it at*
    obtain ⟨hc1,hc2⟩:=hcl (above++46::it) [.var 26 [.ak c.ln c.lz L1,.ak c.bn c.bz L2,.ak c.sn 6 L3],.mp ((o0 m cm s.unit (above++46::it)).map (iY .str)) (ly m cm s.unit),.mp ((o0 q cq s.par (x+1)).map (iY iA)) (ly q cq s.par),.var 73 [.int .i64 s.unit,.int .i64 s.par,.int .i64 s.level,.str s.mark,.str s.title,.ak s.fn s.fz (s.facts.map fV)]] (by simp;omega) (hJ _ _ _ _);have hk2:=hKl (stp st (s,above++46::it));have tk3:=Dh hk2;have hkm2:=shut_map (show n0≤n0+3 by omega) (hKs (stp st (s,above++46::it)));clear hlk hst;simp (maxSteps:=9^9) (disch:=omega) [-List.map_replicate,-List.map_set,-List.getD_eq_getElem?_getD,-getElem?_pos,-getElem?_neg,om,h1,hg,af,hk1,g0,g1,g2,g3,s0,s1,s2,s3,b0,b1,b2,b3,tk,e1,e2,e3,look1,look2,put1,ed,n1,n2,n3,n4,hcL,hcP,b3',g3',s3',eL,xB,xC,hcu3,hr,hlk2,hlp,hx,hw,hk3,rj,hid1,hid2,hit2,hc1,hk2,tk3,hkm2];refine ⟨i+1,stp st (s,above++46::it),o0 m cm s.unit (above++46::it),ly m cm s.unit,o0 q cq s.par (x+1),⟨by rw [eL,eL];exact hi,by omega,hc2,?_,?_⟩,by omega,by omega,ly q cq s.par,rfl⟩
    ·intro u v hv;rw [eL,lM] at hv;split at hv
     ·cases hv;simp;omega
     ·have:=hm u v hv;omega
    ·intro u;rw [eL,lM];split
     ·simp;omega
     ·have:=hq u;omega
 ·rw [List.drop_eq_nil_of_le (by omega)] at hi;rw [show (ec Lib.itoa root ⟨bq m,bq q⟩ []).foldl stp st=st from rfl] at hi;rw [hi];have hk1:=hKl st;generalize K st=KS at*
  simp (maxSteps:=9^9) (disch:=omega) [-List.map_replicate,-List.map_set,-List.getD_eq_getElem?_getD,-getElem?_pos,-getElem?_neg,om,h1,tk,hkm,hk1]
end Go.Proofs.YtfnkchadeaedlaaGreatDoor
namespace Go.Proofs.YtfnkchadeaedlaaGreatDoor
open Go.Am
set_option maxRecDepth 10000
set_option maxHeartbeats 4000000
theorem rB (u:Int): ∀(l:List (Sh×ag)) (st:ag),l.foldl (fun st x=>if x.1.unit=u then x.2 else st) st=qx u st l
 | [],_=>rfl
 | x::r,st=>by
  rw [List.foldl_cons,rB u r,qx];split <;> rfl
def PE (c:Ct) (u:Int) (f:ag):List ad:= [.var 26 (df c),.var 3 [.int .i64 u],.var 9 [.str f]]
theorem H2 (c:Ct) (u:Int) (st:ag) (s:Sh) (n:ag) (J:List ad) (hJ:shut (3+J.length) J=true):
  aq cfg 77 (bU s:: .str n:: [.ptr 1 0,.ptr 2 0]) (PE c u st++J)=some (.aI [],PE c u (if s.unit=u then n else st)++J):=by
 refine ab SZ PF ?_;have hJm:=shut_map (show 3+J.length≤J.length+1+1+1 by omega) hJ;unfold bU PE df;generalize aw c.ae=L1 at*
 generalize c.aA.map dm=L2 at*
 generalize c.ay.map bU=L3 at*
 by_cases h:s.unit=u
 ·simp (maxSteps:=9^9) (disch:=omega) [-List.map_replicate,-List.map_set,-List.getD_eq_getElem?_getD,-getElem?_pos,-getElem?_neg,om,Ll,h,af,hJm]
 ·simp (maxSteps:=9^9) (disch:=omega) [-List.map_replicate,-List.map_set,-List.getD_eq_getElem?_getD,-getElem?_pos,-getElem?_neg,om,Ll,h,af,hJm]
theorem vX (c:Ct) (hc:c.ok) (root u:Int):
  aq cfg 38 [bN c,.int .i64 root,.int .i64 u] []=some (.aI (if gf c=0 then [.str (fo Lib.itoa c root u),.bool (decide (fo Lib.itoa c root u≠ []))] else [.str [],.bool false]), []):=by
 refine ab S0 PG ?_;have h1:=sZ c hc;by_cases h:gf c=0
 ·rw [if_pos h];rw [h] at h1
  have h2:=rA (PE c u) (fun st x=>if x.1.unit=u then x.2 else st) (fun _ _=>True) 3 (fun st=>rfl) (fun st=>rfl) 77 ⟨rfl,rfl,rfl,rfl⟩ [.ptr 1 0,.ptr 2 0] c hc (Nat.le_trans (fY h).H3 (by omega)) (fun n hn=>by simp [av,AV.under];omega) (fun B=>rfl) rfl
   (fun i st s n J _ _ _ _ hJ=>⟨H2 c u st s n J hJ,trivial⟩) (fun _ _ _=>trivial) root [] trivial
  rw [rB] at h2;have h3:qx u [] (ec Lib.itoa root ⟨[], []⟩ c.ay)=fo Lib.itoa c root u:=rfl;rw [h3] at h2;generalize fo Lib.itoa c root u=N at*
  unfold PE bN df at*
  generalize aw c.ae=L1 at*
  generalize c.aA.map dm=L2 at*
  generalize c.ay.map bU=L3 at*
  simp (maxSteps:=9^9) (disch:=omega) [-List.map_replicate,-List.map_set,-List.getD_eq_getElem?_getD,-getElem?_pos,-getElem?_neg,om,Lm,h1,h2,af];cases N <;> rfl
 ·rw [if_neg h];unfold bN df at*
  generalize aw c.ae=L1 at*
  generalize c.aA.map dm=L2 at*
  generalize c.ay.map bU=L3 at*
  simp (maxSteps:=9^9) (disch:=omega) [-List.map_replicate,-List.map_set,-List.getD_eq_getElem?_getD,-getElem?_pos,-getElem?_neg,om,Lm,h1,h,af]
end Go.Proofs.YtfnkchadeaedlaaGreatDoor
namespace Go.Proofs.YtfnkchadeaedlaaGreatDoor
open Go.Am
set_option maxRecDepth 10000
set_option maxHeartbeats 4000000
theorem nZ {N:Nat} (order:List ag) (el:Int): ∀(l:List Lb) (t:ag) (b:Int),t.length≤N→(∀x∈l,x.text.length≤N)→(gA order el t b l).length≤N
 | [],t,b,h,_=>h
 | x::r,t,b,h,hl=>by
  unfold gA;split
  ·exact nZ order el r _ _ (hl x (by simp)) (fun y hy=>hl y (by simp [hy]))
  ·exact nZ order el r _ _ h (fun y hy=>hl y (by simp [hy]))
theorem FT {l:List Sh} (h: ∀s∈l,s.mark.length≤64∧s.title.length≤64) (u:Int):(gg l u).length≤1000:=by
 unfold gg;split
 ·simp
 ·split
  ·rename_i s hs;obtain ⟨h1,h2⟩:=h s (List.mem_of_getElem? hs);split
   ·omega
   ·simp;omega
  ·simp
theorem xD (c:Ct) (hc:c.ok) (hk:FU c) (x:Sh) (hx:x∈c.ay) (num:ag) (hnl:num.length<10000) (on:Option Bool) (order:List ag) (ho:order.length<1000000):
  aq cfg 62 [bN c,bU x,.str num,.ak on 1 (aw order)] []=some (cD (eK Lib.itoa order c (x,num)), []):=by
 have hs:=hk.ay x hx;refine BF c hc (fun s hs=>by have:=hk.ay s hs;exact ⟨by have:=this.mark;omega,by have:=this.Eb;omega⟩) (fun u=>FT (fun s hs=>⟨(hk.ay s hs).mark,(hk.ay s hs).Eb⟩) u) x num hnl (hc.sh x hx) ⟨hs.l1,hs.l2⟩ (by have:=hs.Eb;omega) on order ho (fun el h0 h9=> ?_) (fun f hf=> ?_)
 ·refine Nat.le_trans (nZ (N:=64) order el c.aA _ _ ?_ (fun y hy=>(hk.aA y hy).len)) (by omega);have:=Lib.itoa_length_le el h0 h9;simp [gK];omega
 ·have:=hs.facts f hf;exact ⟨by have:=this.len;omega,by have:=this.PH;omega,by have:=this.PI;omega⟩
def NB (c:Ct) (root:Int) (aa:ag) (order:List ag) (l:List qn):List ad:= [.var 26 (df c),.var 41 [.int .i64 0,.str [],.az 2 0],.sl ⟨false,some 46,none⟩ 3 [],.var 41 [.int .i64 root,.str aa,.az 5 l.length],.var 22 [.ak none 1 (aw order)],.sl ⟨false,some 46,none⟩ 3 (l.map cD)]
theorem H4 (c:Ct) (hc:c.ok) (hk:FU c) (root:Int) (aa:ag) (order:List ag) (ho:order.length<1000000) (l:List qn) (hl:l.length<1000) (s:Sh) (hs:s∈c.ay) (n:ag) (hn:n.length<10000) (J:List ad) (hJ:shut (6+J.length) J=true):
  aq cfg 61 (bU s:: .str n:: [.ptr 3 0,.ptr 0 0,.ptr 4 0]) (NB c root aa order l++J)=some (.aI [],NB c root aa order (l++ [eK Lib.itoa order c (s,n)])++J):=by
 refine ab S1 PJ ?_;have hJm:=shut_map (show 6+J.length≤J.length+1+1+1+1+1+1 by omega) hJ;have hsec:=xD c hc hk s hs n hn none order ho;have hll:(l.map cD).length=l.length:=by simp
 have hse: ∀x:qn,cD x= .agg [.int .i64 x.unit,.str x.num,.ak none 3 (x.nodes.map ff)]:=fun x=>rfl;generalize eK Lib.itoa order c (s,n)=X at*
 have hlx:(l++ [X]).map cD=l.map cD++ [.agg [.int .i64 X.unit,.str X.num,.ak none 3 (X.nodes.map ff)]]:=by simp [hse]
 have hxp:aj (X.nodes.map ff)=true:=ez (fun _=>rfl) _;rw [hse X] at hsec;unfold NB;rw [hlx];unfold bU bN df at*
 generalize aw c.ae=L1 at*
 generalize c.aA.map dm=L2 at*
 generalize c.ay.map _=L3 at*
 generalize aw order=OA at*
 generalize s.facts.map fV=FA at*
 generalize X.nodes.map ff=XN at*
 generalize l.map cD=LA at*
 simp (maxSteps:=9^9) (disch:=omega) [-List.map_replicate,-List.map_set,-List.getD_eq_getElem?_getD,-getElem?_pos,-getElem?_neg,om,PK,hsec,af,hJm,hll,hxp]
theorem yZ (l:List ag) (s:ag):(ar l s).length≤l.length+1:=by
 unfold ar;split
 ·simp only [List.length_cons,List.length_append,List.length_take,List.length_drop];omega
 ·simp
theorem vY {α β:Type} (g:α→β): ∀(l:List α) (a:List β),l.foldl (fun a x=>a++ [g x]) a=a++l.map g
 | [],a=>by simp
 | x::r,a=>by rw [List.foldl_cons,vY g r];simp
def FV (root:Int) (aa:ag) (l:List qn):AV:= .agg [.int .i64 root,.str aa,.ak none 3 (l.map cD)]
def Ln:AV:= .agg [.int .i64 0,.str [],.ak (some true) 0 []]
theorem kJ (c:Ct) (hc:c.ok) (root:Int) (aa:ag):
  aq cfg 18 [bN c,.int .i64 root,.str aa] []=some (.aI [if iv c root aa=0 then FV root aa (fp Lib.itoa c root aa) else Ln,.int .i64 (iv c root aa)], []):=by
 refine ab S4 PL ?_;have h1:=sZ c hc;have h2:=mL c.ln c.lz c.ae hc.lz hc.ll aa;have h3:=sH c.sn c.sz c.ay hc.sz hc.sl root;by_cases hE:iv c root aa=0
 ·obtain ⟨hk0,hlang,i,hi⟩:=y3 hE;have hk:=fY hk0;have h4:=qu c hc aa hlang;have hol:(ar c.ae aa).length<1000000:=by have:=yZ c.ae aa;have:=hk.l2;omega
  have h5:=rA (NB c root aa (ar c.ae aa)) (fun l x=>l++ [eK Lib.itoa (ar c.ae aa) c x]) (fun i l=>l.length≤i) 6 (fun l=>rfl) (fun l=>by simp [NB,shut,av,AV.under,cg,df]) 61 ⟨rfl,rfl,rfl,rfl⟩ [.ptr 3 0,.ptr 0 0,.ptr 4 0] c hc (Nat.le_trans hk.H3 (by omega)) (fun n hn=>by simp [av,AV.under];omega) (fun B=>rfl) rfl
   (fun i l s n J hil hI hs hn hJ=>⟨H4 c hc hk root aa _ hol l (by have:=hk.H3;omega) s hs n hn J hJ,by simpa using hI⟩) (fun i l h=>by omega) root [] (by simp)
  rw [vY,List.nil_append] at h5;have h6:(ec Lib.itoa root ⟨[], []⟩ c.ay).map (eK Lib.itoa (ar c.ae aa) c)=fp Lib.itoa c root aa:=rfl;rw [h6] at h5;rw [if_pos hE,hE];rw [hlang] at h2;rw [hi] at h3;rw [hk0] at h1;unfold FV;have hpl:aj ((fp Lib.itoa c root aa).map cD)=true:=ez (fun x=>by simp [cD,AV.plain,aj]) _;have hll:((fp Lib.itoa c root aa).map cD).length=(fp Lib.itoa c root aa).length:=by simp
  generalize hAP:fp Lib.itoa c root aa=AP at*
  unfold NB bN df at*
  simp only [List.map_nil,List.length_nil] at h5;have hoz:(aw (ar c.ae aa)).length=(ar c.ae aa).length:=jV _;generalize aw (ar c.ae aa)=OA at*
  generalize aw c.ae=L1 at*
  generalize c.aA.map dm=L2 at*
  generalize c.ay.map bU=L3 at*
  generalize AP.map cD=AL at*
  simp (maxSteps:=9^9) (disch:=omega) [-List.map_replicate,-List.map_set,-List.getD_eq_getElem?_getD,-getElem?_pos,-getElem?_neg,om,FX,h1,h2,h3,h4,h5,af,cC,hll,hpl]
 ·rw [if_neg hE];unfold iv at*
  unfold Ln bN df at*
  generalize aw c.ae=L1 at*
  generalize c.aA.map dm=L2 at*
  generalize c.ay.map bU=L3 at*
  by_cases e1:gf c=0
  ·rw [if_neg (by simp [e1])] at hE⊢;rw [e1] at h1;cases e2:fE c.ae aa with
   | false=>rw [e2] at h2;simp (maxSteps:=9^9) (disch:=omega) [-List.map_replicate,-List.map_set,-List.getD_eq_getElem?_getD,-getElem?_pos,-getElem?_neg,om,FX,h1,h2,af]
   | true=>
    rw [e2] at h2 hE;cases e3:cb c.ay root with
    | none=>rw [e3] at h3;simp (maxSteps:=9^9) (disch:=omega) [-List.map_replicate,-List.map_set,-List.getD_eq_getElem?_getD,-getElem?_pos,-getElem?_neg,om,FX,h1,h2,h3,af,cC]
    | some i=>rw [e3] at hE;simp at hE
  ·rw [if_pos e1] at hE⊢;simp (maxSteps:=9^9) (disch:=omega) [-List.map_replicate,-List.map_set,-List.getD_eq_getElem?_getD,-getElem?_pos,-getElem?_neg,om,FX,h1,e1,af]
end Go.Proofs.YtfnkchadeaedlaaGreatDoor
namespace Go.Proofs.YtfnkchadeaedlaaGreatDoor
open Go.Am
set_option maxRecDepth 10000
set_option maxHeartbeats 4000000
theorem vZ (c:Ct) (hc:c.ok) (s:ag):aq cfg 78 [bN c,.str s] []=some (.bool (bo c s), []):=by
 refine ab S5 PM ?_;have h1:=sZ c hc;have h2:=mL c.ln c.lz c.ae hc.lz hc.ll s;unfold bo;unfold bN df at*
 generalize aw c.ae=L1 at*
 generalize c.aA.map dm=L2 at*
 generalize c.ay.map bU=L3 at*
 by_cases h:gf c=0
 ·rw [h] at h1;simp (maxSteps:=9^9) (disch:=omega) [-List.map_replicate,-List.map_set,-List.getD_eq_getElem?_getD,-getElem?_pos,-getElem?_neg,om,Lo,h1,h2,h]
 ·have hb:(gf c==0)=false:=by simp [h]
  simp (maxSteps:=9^9) (disch:=omega) [-List.map_replicate,-List.map_set,-List.getD_eq_getElem?_getD,-getElem?_pos,-getElem?_neg,om,Lo,h1,h,hb]
theorem y4 (c:Ct) (hc:c.ok) (s:ag):aq cfg 50 [bN c,.str s] []=some (.bool (bo c s), []):=by
 refine ab S6 PN ?_;have h1:=sZ c hc;have h2:=mL c.ln c.lz c.ae hc.lz hc.ll s;unfold bo;unfold bN df at*
 generalize aw c.ae=L1 at*
 generalize c.aA.map dm=L2 at*
 generalize c.ay.map bU=L3 at*
 by_cases h:gf c=0
 ·rw [h] at h1;simp (maxSteps:=9^9) (disch:=omega) [-List.map_replicate,-List.map_set,-List.getD_eq_getElem?_getD,-getElem?_pos,-getElem?_neg,om,Lp,h1,h2,h]
 ·have hb:(gf c==0)=false:=by simp [h]
  simp (maxSteps:=9^9) (disch:=omega) [-List.map_replicate,-List.map_set,-List.getD_eq_getElem?_getD,-getElem?_pos,-getElem?_neg,om,Lp,h1,h,hb]
theorem FY (c:Ct) (hc:c.ok) (u:Int):aq cfg 84 [bN c,.int .i64 u] []=some (.str (if gf c=0 then gg c.ay u else []), []):=by
 refine ab S7 PO ?_;have h1:=sZ c hc;by_cases h:gf c=0
 ·have hk:=fY h;have h2:=yR c hc u (fun s hs=>by have:=(hk.ay s hs).mark;have:=(hk.ay s hs).Eb;omega);rw [if_pos h];rw [h] at h1;unfold bN df at*
  generalize aw c.ae=L1 at*
  generalize c.aA.map dm=L2 at*
  generalize c.ay.map bU=L3 at*
  simp (maxSteps:=9^9) (disch:=omega) [-List.map_replicate,-List.map_set,-List.getD_eq_getElem?_getD,-getElem?_pos,-getElem?_neg,om,Lq,h1,h2]
 ·rw [if_neg h];unfold bN df at*
  generalize aw c.ae=L1 at*
  generalize c.aA.map dm=L2 at*
  generalize c.ay.map bU=L3 at*
  simp (maxSteps:=9^9) (disch:=omega) [-List.map_replicate,-List.map_set,-List.getD_eq_getElem?_getD,-getElem?_pos,-getElem?_neg,om,Lq,h1,h]
theorem tm {c:Ct} {s:ag} (h:bo c s=true):fE c.ae s=true:=by unfold bo at h;simp at h;exact h.2
theorem qy {c:Ct} (hc:c.ok) (s:ag):(ar c.ae s).length<1000000∨(ar c.ae s).length≤c.ae.length+1:=by
 right;unfold ar;split
 ·simp only [List.length_cons,List.length_append,List.length_take,List.length_drop];omega
 ·simp
theorem FZ (c:Ct) (hc:c.ok) (el:Int) (s:ag):aq cfg 83 [bN c,.int .i64 el,.str s] []=some (.str (if el<1∨64<el∨bo c s=false then [] else iq (ar c.ae s) c.aA el (gK Lib.itoa el)), []):=by
 refine ab S8 PQ ?_;have h1:=vZ c hc s;by_cases h:el<1∨64<el
 ·rw [if_pos (by omega)];unfold bN df at*
  generalize aw c.ae=L1 at*
  generalize c.aA.map dm=L2 at*
  generalize c.ay.map bU=L3 at*
  rcases h with h | h
  ·simp (maxSteps:=9^9) (disch:=omega) [-List.map_replicate,-List.map_set,-List.getD_eq_getElem?_getD,-getElem?_pos,-getElem?_neg,om,F0,h]
  ·simp (maxSteps:=9^9) (disch:=omega) [-List.map_replicate,-List.map_set,-List.getD_eq_getElem?_getD,-getElem?_pos,-getElem?_neg,om,F0,h]
 ·cases hr:bo c s with
  | false=>
   rw [if_pos (.inr (.inr rfl))];rw [hr] at h1;unfold bN df at*
   generalize aw c.ae=L1 at*
   generalize c.aA.map dm=L2 at*
   generalize c.ay.map bU=L3 at*
   simp (maxSteps:=9^9) (disch:=omega) [-List.map_replicate,-List.map_set,-List.getD_eq_getElem?_getD,-getElem?_pos,-getElem?_neg,om,F0,h1,h]
  | true=>
   rw [if_neg (by simp;omega)];rw [hr] at h1;have h2:=qu c hc s (tm hr);have hk:gf c=0:=by unfold bo at hr;simp at hr;exact hr.1
   have hl:=(qy hc s).resolve_left;have h3:=yQ c hc el (by omega) (by omega) none (ar c.ae s) (by have:=(fY hk).l2;rcases qy hc s with h | h <;> omega);unfold bN df at*
   generalize aw c.ae=L1 at*
   generalize c.aA.map dm=L2 at*
   generalize c.ay.map bU=L3 at*
   generalize aw (ar c.ae s)=OA at*
   simp (maxSteps:=9^9) (disch:=omega) [-List.map_replicate,-List.map_set,-List.getD_eq_getElem?_getD,-getElem?_pos,-getElem?_neg,om,F0,h1,h2,h3,h]
theorem v7 (c:Ct) (hc:c.ok) (u:Int) (s:ag): ∃nl z,aq cfg 39 [bN c,.int .i64 u,.str s] []=some (.ak nl z ((bQ c u s).map fV), [])∧(bQ c u s≠ []→z=3):=by
 have h1:=vZ c hc s;have h2:=sH c.sn c.sz c.ay hc.sz hc.sl u;unfold bQ n9;cases hx:cb c.ay u with
 | none=>
  rw [hx] at h2;have hsU:dD c u=none:=by unfold dD;rw [hx]
  rw [hsU];have he:(if bo c s=true then aD (ar c.ae s) [] else [])= []:=by split <;> rfl
  simp only [he];refine ⟨some true,0,?_,fun h=>absurd rfl h⟩;refine ab Lr F1 ?_;unfold bN df at*
  generalize aw c.ae=L1 at*
  generalize c.aA.map dm=L2 at*
  generalize c.ay.map bU=L3 at*
  simp (maxSteps:=9^9) (disch:=omega) [-List.map_replicate,-List.map_set,-List.getD_eq_getElem?_getD,-getElem?_pos,-getElem?_neg,om,H5,h2,cC]
 | some i=>
  rw [hx] at h2;have hi:=gN hx;have hgo:c.ay[i]?=some c.ay[i]:=List.getElem?_eq_getElem hi;have hsU:dD c u=some c.ay[i]:=by unfold dD;rw [hx];exact hgo
  rw [hsU];have hsz:=hc.sz (ne_of_lt hi);have hg:(c.ay.map bU)[i]?=some (.agg [.int .i64 c.ay[i].unit,.int .i64 c.ay[i].par,.int .i64 c.ay[i].level,.str c.ay[i].mark,.str c.ay[i].title,.ak c.ay[i].fn c.ay[i].fz (c.ay[i].facts.map fV)]):=get_map _ _ hi;have hso:=hc.sh _ (List.getElem_mem hi);have hEl:(c.ay.map bU).length=c.ay.length:=by simp
  have hil:i<1000000:=by have:=hc.sl;omega
  cases hr:bo c s with
  | false=>
   rw [hr] at h1;refine ⟨some true,0,?_,by simp⟩;refine ab Lr F1 ?_;unfold bN df at*
   generalize aw c.ae=L1 at*
   generalize c.aA.map dm=L2 at*
   generalize c.ay.map bU=L3 at*
   simp (maxSteps:=9^9) (disch:=omega) [-List.map_replicate,-List.map_set,-List.getD_eq_getElem?_getD,-getElem?_pos,-getElem?_neg,om,H5,h1,h2,cC]
  | true=>
   rw [hr] at h1;have h3:=qu c hc s (tm hr);have hk:gf c=0:=by unfold bo at hr;simp at hr;exact hr.1
   have h4:=tc c.ay[i].fn c.ay[i].fz c.ay[i].facts hso.fz hso.fl none (ar c.ae s) (by have:=(fY hk).l2;rcases qy hc s with h | h <;> omega);refine ⟨none,3,?_,fun _=>rfl⟩;refine ab Lr F1 ?_;unfold bN df at*
   simp only [if_true];generalize c.ay[i]=x at*
   generalize aw c.ae=L1 at*
   generalize c.aA.map dm=L2 at*
   generalize c.ay.map bU=L3 at*
   generalize aw (ar c.ae s)=OA at*
   generalize (aD (ar c.ae s) x.facts).map fV=CA at*
   rw [hsz] at*
   simp (maxSteps:=9^9) (disch:=omega) [-List.map_replicate,-List.map_set,-List.getD_eq_getElem?_getD,-getElem?_pos,-getElem?_neg,om,H5,h1,h2,h3,h4,cC,hg,hEl,hi]
end Go.Proofs.YtfnkchadeaedlaaGreatDoor
