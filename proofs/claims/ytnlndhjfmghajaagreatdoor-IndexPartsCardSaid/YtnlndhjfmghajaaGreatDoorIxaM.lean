/- Strings and numbers as the machine's values; some that come in. -/
import Derived.Test.YtnlndhjfmghajaaGreatDoorIrs
import Derived.Test.YtnlndhjfmghajaaGreatDoorIxpM
import Derived.Test.YtnlndhjfmghajaaGreatDoorAmFrame
import Derived.Lib.Index
set_option linter.all false
namespace Go.Proofs.YtnlndhjfmghajaaGreatDoor
open Go.Am Go.ChangeShapes Go.WideShapes Go.RowKit
set_option maxRecDepth 10000
set_option maxHeartbeats 4000000
def intsA (l:List Int):List AV:=l.map (AV.int .i64)
def strA (l:List Str):List AV:=l.map .str
theorem get_map {α:Type} (f:α→AV) (l:List α) {i:Nat} (h:i<l.length):(l.map f)[i]?=some (f l[i]):=by simp [h]
theorem ne_of_lt {α:Type} {l:List α} {i:Nat} (h:i<l.length):l≠ []:=fun h0=>by rw [h0] at h;simp at h
@[simp] theorem intsA_len (l:List Int):(intsA l).length=l.length:=by simp [intsA]
@[simp] theorem strA_len (l:List Str):(strA l).length=l.length:=by simp [strA]
@[simp] theorem plain_intsA: ∀l:List Int,plainAll (intsA l)=true
 | []=>rfl
 | x::r=>by simp [intsA,plainAll,AV.plain];exact plain_intsA r
@[simp] theorem plain_strA: ∀l:List Str,plainAll (strA l)=true
 | []=>rfl
 | x::r=>by simp [strA,plainAll,AV.plain];exact plain_strA r
theorem args_int {ts:List TypeId} {xs:List AV} (h:ShpArgs Tryz.prog (3::ts) xs): ∃(i:Int) (r:List AV),xs= .int .i64 i::r∧ -9223372036854775808≤i∧i≤9223372036854775807∧ShpArgs Tryz.prog ts r:=by
 obtain ⟨n,cs,r,rfl,h1,h2⟩:=h
 obtain ⟨x,rfl,hx⟩:=h1.int (k:= .i64) (by kernel_rfl)
 simp [Lit.wf,IntKind.min,IntKind.max,IntKind.signed,IntKind.bits] at hx
 exact ⟨x,r,by rw [show Tryz.prog.underlying 3=some (.int .i64) by kernel_rfl];rfl,by omega,by omega,h2⟩
theorem args_strC {ts:List TypeId} {xs:List AV} (h:ShpArgs Tryz.prog (9::ts) xs): ∃(s:Str) (r:List AV),xs= .str s::r∧s.length≤maxLen∧ShpArgs Tryz.prog ts r:=by
 obtain ⟨n,cs,r,rfl,h1,h2⟩:=h
 obtain ⟨s,rfl,hs⟩:=h1.str (by kernel_rfl)
 exact ⟨s,r,by rw [show Tryz.prog.underlying 9=some .string by kernel_rfl];rfl,hs,h2⟩
def hgA (h:Hg):AV:= .agg [.int .i64 h.kind,.str h.text,.lst h.un h.uz (intsA h.units)]
def hgsA (l:List Hg):List AV:=l.map hgA
@[simp] theorem hgsA_len (l:List Hg):(hgsA l).length=l.length:=by simp [hgsA]
@[simp] theorem plain_hgsA: ∀l:List Hg,plainAll (hgsA l)=true
 | []=>rfl
 | x::r=>by simp [hgsA,hgA,plainAll,AV.plain];exact plain_hgsA r
theorem get_hgsA (L:List Hg) {i:Nat} (h:i<L.length):(hgsA L)[i]?=some (.agg [.int .i64 L[i].kind,.str L[i].text,.lst L[i].un L[i].uz (intsA L[i].units)]):=get_map _ _ h
structure Hg.inn (h:Hg):Prop where
 uz:h.units≠ []→h.uz=1
 ul:h.units.length≤maxLen
 tl:h.text.length≤maxLen
theorem shp_int {m:Nat} {cs:List AV} (h:Shp Tryz.prog m 3 cs): ∃n:Int,True∧elemOfCells (aggU (Tryz.prog.underlying 3)) cs=AV.int .i64 n:=by
 obtain ⟨x,rfl,_⟩:=h.int (k:= .i64) (by kernel_rfl)
 exact ⟨x,trivial,by rw [show Tryz.prog.underlying 3=some (.int .i64) by kernel_rfl];rfl⟩
theorem shp_hg {m:Nat} {cs:List AV} (h:Shp Tryz.prog m 26 cs): ∃n:Hg,n.inn∧elemOfCells (aggU (Tryz.prog.underlying 26)) cs=hgA n:=by
 have hfs:Tryz.prog.underlying 26=some (.struct (fieldsAt Tryz.prog 26)):=by kernel_rfl
 have hft:(fieldsAt Tryz.prog 26).toList.map (·.type)= [3,9,24]:=by kernel_rfl
 obtain ⟨m,hs⟩:=h.struct hfs
 rw [hft] at hs
 obtain ⟨a,r,rfl,ha,b,r2,rfl,hb,c,r3,rfl,hc,rfl⟩:=hs
 obtain ⟨x,rfl,_⟩:=ha.int (k:= .i64) (by kernel_rfl)
 obtain ⟨s,rfl,hsl⟩:=hb.str (by kernel_rfl)
 obtain ⟨n1,z1,l1,rfl,p1,q1,s1,_⟩:=hc.sliceMap (e:=3) (AV.int .i64) (fun _=>True) (by kernel_rfl) 1 (by kernel_rfl) (by decide) (fun m cs h=>shp_int h)
 exact ⟨⟨x,s,l1,some n1,z1⟩,⟨fun hl=>p1 0 (List.length_pos_iff.2 hl),s1,hsl⟩,by rw [hfs];rfl⟩
theorem args_hgs {ts:List TypeId} {xs:List AV} (h:ShpArgs Tryz.prog (38::ts) xs): ∃(nl:Bool) (z:Nat) (l:List Hg) (r:List AV),xs= .lst (some nl) z (hgsA l)::r∧(l≠ []→z=3)∧(∀h∈l,h.inn)∧l.length≤maxLen∧ShpArgs Tryz.prog ts r:=by
 obtain ⟨n,cs,r,rfl,h1,h2⟩:=h
 obtain ⟨n1,z1,l1,rfl,p1,q1,s1,t1⟩:=h1.sliceMap (e:=26) hgA Hg.inn (by kernel_rfl) 3 (by kernel_rfl) (by decide) (fun m cs h=>shp_hg h)
 exact ⟨n1,z1,l1,r,by rw [show Tryz.prog.underlying 38=some (.slice 26) by kernel_rfl];rfl,fun hl=>p1 0 (List.length_pos_iff.2 hl),t1,s1,h2⟩
open Go.Am
theorem index_one (c:UInt8): ∀s:Str,Lib.index s [c]=Lib.indexByte s c
 | []=>rfl
 | b::l=>by
  simp only [Lib.index,Lib.indexByte,index_one c l,List.isPrefixOf,Bool.and_true]
  by_cases h:b=c
  ·subst h;simp
  ·simp [h,Ne.symm h]
theorem ansIndexB (s:Str) (c:UInt8) (h2:s.length<100000000):ansF cfg 82 [.str s,.str [c]] []=some (.int .i64 (Lib.indexByte s c), []):=by
 have hi:s.length<4294967281:=by omega
 refine ans_of_wp fn82 low82 ?_
 simp (maxSteps:=9^9) (disch:=omega) [-List.map_replicate,-List.map_set,-List.getD_eq_getElem?_getD,-getElem?_pos,-getElem?_neg,om,ir82,findG,hi,index_one]
theorem ansCountB (s:Str) (c:UInt8):ansF cfg 117 [.str s,.str [c]] []=some (.int .i64 (s.count c), []):=by
 refine ans_of_wp fn117 low117 ?_
 simp (maxSteps:=9^9) (disch:=omega) [-List.map_replicate,-List.map_set,-List.getD_eq_getElem?_getD,-getElem?_pos,-getElem?_neg,om,ir117,countG,Lib.countByte]
theorem index_app {c:UInt8}: ∀{p:List UInt8} (r:List UInt8),c∉p→Lib.indexByte (p++c::r) c=(p.length:Int)
 | [],r,_=>by simp [Lib.indexByte]
 | x::p,r,h=>by
  simp only [List.mem_cons,not_or] at h
  have ih:=index_app r h.2
  have hx:(x==c)=false:=by simpa using Ne.symm h.1
  have hne:(((p.length:Int))== -1)=false:=by
   rw [beq_eq_false_iff_ne];omega
  simp only [List.cons_append,Lib.indexByte,hx,Bool.false_eq_true,if_false,ih,hne,List.length_cons]
  omega
theorem splitB_two {c:UInt8}: ∀{r:List UInt8},2≤(splitB c r).length→ ∃p q,r=p++c::q∧c∉p
 | [],h=>by simp [splitB] at h
 | x::r,h=>by
  by_cases hx:x=c
  ·exact ⟨[],r,by simp [hx],by simp⟩
  ·have h2:2≤(splitB c r).length:=by
    simp only [splitB,if_neg hx] at h
    split at h
    ·rename_i e;rw [e];simpa using h
    ·simp at h
   obtain ⟨p,q,h3,h4⟩:=splitB_two h2
   exact ⟨x::p,q,by rw [h3];rfl,by simp [Ne.symm hx,h4]⟩
theorem splitB_one {c:UInt8} {r:List UInt8} (h:(splitB c r).length=1):splitB c r= [r]:=by
 apply splitB_no
 intro hm
 obtain ⟨p,q,rfl⟩:=List.append_of_mem hm
 rw [splitB_count] at h
 simp at h
theorem strs_set (P:List (List UInt8)) (k:Nat) (x:List UInt8):(P.map AV.str++List.replicate (k+1) (AV.str [])).set P.length (.str x)=(P++ [x]).map AV.str++List.replicate k (AV.str []):=by
 rw [List.replicate_succ,List.set_append_right _ _ (by simp)]
 simp
theorem ansSplitB (s:List UInt8) (c:UInt8) (hs:s.length<100000000):ansF cfg 50 [.str s,.str [c]] []=some (.lst none 1 ((splitB c s).map AV.str), []):=by
 have h1:ansF cfg 87 [.str s,.str [c],.int .i64 0,.int .i64 (-1)] []=some (.lst none 1 ((splitB c s).map AV.str), []):=by
  refine ans_of_wp fn87 low87 ?_
  have hc:=ansCountB s c
  have hN:=splitB_count c s
  have hle:s.count c≤s.length:=List.count_le_length
  generalize s.count c=N at*
  have hmin:((N:Int)+1≤(s.length:Int)+1):=by omega
  simp (maxSteps:=9^9) (disch:=omega) [-List.map_replicate,-List.map_set,-List.getD_eq_getElem?_getD,-getElem?_pos,-getElem?_neg,om,ir87,hc]
  refine Wp.loopM (fun (a:List (List UInt8)×List UInt8)=>N-a.1.length) (fun a=> [some (.str a.2),some (.str [c]),some (.int .i64 0),some (.int .i64 N),none,some (.osl 0 (N+1)),some (.int .i64 a.1.length),none,none,none,none,none,none,none,none,none,none,none,none])
   (fun a=> [.sl ⟨false,some 9,none⟩ 1 (a.1.map AV.str++List.replicate (N+1-a.1.length) (AV.str []))])
   (fun a=>a.1.length≤N∧splitB c s=a.1++splitB c a.2∧a.2.length≤s.length) ?_ ([],s) ⟨by simp,rfl,Nat.le_refl _⟩ (by simp) (by simp)
  rintro ⟨P,r⟩ ⟨hP,hsp,hrl⟩
  simp only at hP hsp hrl⊢
  have hr:(splitB c r).length=N+1-P.length:=by
   have:=congrArg List.length hsp
   rw [List.length_append] at this
   omega
  by_cases hlt:P.length<N
  ·obtain ⟨p,q,rfl,hp⟩:=splitB_two (by rw [hr];omega)
   have hi:=ansIndexB (p++c::q) c (by omega)
   rw [index_app q hp] at hi
   rw [splitB_app q hp] at hsp
   have hk:N+1-P.length=(N-P.length)+1:=by omega
   have hlen:(P.map AV.str++List.replicate (N+1-P.length) (AV.str [])).length=N+1:=by simp;omega
   have hget:(P.map AV.str++List.replicate (N+1-P.length) (AV.str []))[P.length]?=some (.str []):=by
    rw [List.getElem?_append_right (by simp),List.getElem?_replicate,if_pos (by simp;omega)]
   have hset:=strs_set P (N-P.length) p
   rw [←hk] at hset
   have ht:(p++c::q).take p.length=p:=List.take_left' rfl
   have hd:((p++c::q).take (p++c::q).length).drop (p.length+1)=q:=by
    rw [List.take_length,List.drop_append,List.drop_of_length_le (by omega)]
    simp
   have hl:(p++c::q).length=p.length+1+q.length:=by simp;omega
   have hp2:p.length+1≤s.length:=by omega
   generalize P.map AV.str++List.replicate (N+1-P.length) (AV.str [])=L at*
   generalize hR:p++c::q=R at*
   rw [hl] at hd
   simp (maxSteps:=9^9) (disch:=omega) [-List.map_replicate,-List.map_set,-List.getD_eq_getElem?_getD,-getElem?_pos,-getElem?_neg,om,hi,hlen,hget,hset,ht,hd,hl]
   refine ⟨P++ [p],q,⟨by simp;omega,by rw [hsp];simp,by omega⟩,by simp;omega,⟨rfl,by simp⟩,?_⟩
   have e:N+1-(P++ [p]).length=N-P.length:=by simp
   rw [e]
   simp
  ·obtain rfl:P.length=N:=by omega
   have h1:=splitB_one (c:=c) (r:=r) (by rw [hr];omega)
   rw [h1] at hsp
   have hset:=strs_set P 0 r
   have e:P.length+1-P.length=0+1:=by omega
   rw [e,hsp]
   have hlen:(P.map AV.str++List.replicate (0+1) (AV.str [])).length=P.length+1:=by simp
   have hget:(P.map AV.str++List.replicate (0+1) (AV.str []))[P.length]?=some (.str []):=by
    rw [List.getElem?_append_right (by simp),List.getElem?_replicate,if_pos (by simp)]
   generalize P.map AV.str++List.replicate (0+1) (AV.str [])=L at*
   rw [List.replicate_zero,List.append_nil] at hset
   simp (maxSteps:=9^9) (disch:=omega) [-List.map_replicate,-List.map_set,-List.getD_eq_getElem?_getD,-getElem?_pos,-getElem?_neg,om,hlen,hget,hset]
   try exact List.take_of_length_le (by simp)
 refine ans_of_wp fn50 low50 ?_
 simp (config:={maxSteps:=1000000}) (disch:=omega) [-List.map_replicate,-List.map_set,-List.getD_eq_getElem?_getD,-getElem?_pos,-getElem?_neg,wrap_i64,le_strLim,le_sliceLim,le_buildLim,le_sliceLimI,ir50,h1]
theorem ne32 {x:UInt8} (h:x≠32):x.toNat≠32:=fun h'=>h (UInt8.toNat_inj.1 h')
theorem ansTrimRB (s:Str) (hs:s.length<1000000):ansF cfg 89 [.str s,.int .u8 32] []=some (.str (trimR s), []):=by
 refine ans_of_wp fn89 low89 ?_
 simp (maxSteps:=9^9) (disch:=omega) [-List.map_replicate,-List.map_set,-List.getD_eq_getElem?_getD,-getElem?_pos,-getElem?_neg,om,ir89]
 refine Wp.loopM (fun (a:Str)=>a.length) (fun a=> [some (.str a),some (.int .u8 32),none,none]) (fun _=> []) (fun a=>trimR s=trimR a∧a.length≤s.length) ?_ s ⟨rfl,Nat.le_refl _⟩ (by simp) rfl
 rintro a ⟨h1,h2⟩
 rw [h1]
 rcases List.eq_nil_or_concat a with rfl | ⟨u,x,rfl⟩
 ·simp (maxSteps:=9^9) (disch:=omega) [-List.map_replicate,-List.map_set,-List.getD_eq_getElem?_getD,-getElem?_pos,-getElem?_neg,om,trimR]
 ·rw [List.concat_eq_append] at*
  have hl:(u++ [x]).length=u.length+1:=by simp
  have hg:(u++ [x])[u.length]?=some x:=by simp
  have e1:((u.length:Int)+1-1).toNat=u.length:=by omega
  have ht:(u++ [x]).take u.length=u:=List.take_left' rfl
  by_cases hx:x=32
  ·subst hx
   rw [trimR_snoc] at h1⊢
   generalize u++ [(32:UInt8)]=w at*
   simp (maxSteps:=9^9) (disch:=omega) [-List.map_replicate,-List.map_set,-List.getD_eq_getElem?_getD,-getElem?_pos,-getElem?_neg,om,hl,hg,e1,ht]
  ·have hx2:=ne32 hx
   rw [trimR_keep hx]
   clear h1
   generalize u++ [x]=w at*
   simp (maxSteps:=9^9) (disch:=omega) [-List.map_replicate,-List.map_set,-List.getD_eq_getElem?_getD,-getElem?_pos,-getElem?_neg,om,hl,hg,e1,ht,hx2]
theorem ansTrimLB (s:Str) (hs:s.length<1000000):ansF cfg 88 [.str s,.int .u8 32] []=some (.str (trimL s), []):=by
 refine ans_of_wp fn88 low88 ?_
 simp (maxSteps:=9^9) (disch:=omega) [-List.map_replicate,-List.map_set,-List.getD_eq_getElem?_getD,-getElem?_pos,-getElem?_neg,om,ir88]
 refine Wp.loopM (fun (a:Str)=>a.length) (fun a=> [some (.str a),some (.int .u8 32),none,none]) (fun _=> []) (fun a=>trimL s=trimL a∧a.length≤s.length) ?_ s ⟨rfl,Nat.le_refl _⟩ (by simp) rfl
 rintro a ⟨h1,h2⟩
 rw [h1]
 cases a with
 | nil=>simp (maxSteps:=9^9) (disch:=omega) [-List.map_replicate,-List.map_set,-List.getD_eq_getElem?_getD,-getElem?_pos,-getElem?_neg,om,trimL]
 | cons x u=>
  by_cases hx:x=32
  ·subst hx
   rw [trimL_hit] at h1⊢
   simp (maxSteps:=9^9) (disch:=omega) [-List.map_replicate,-List.map_set,-List.getD_eq_getElem?_getD,-getElem?_pos,-getElem?_neg,om]
   simp at h2;omega
  ·have hx2:=ne32 hx
   rw [trimL_keep hx]
   clear h1
   simp (maxSteps:=9^9) (disch:=omega) [-List.map_replicate,-List.map_set,-List.getD_eq_getElem?_getD,-getElem?_pos,-getElem?_neg,om,hx2]
theorem ansTrim (s:Str) (hs:s.length<1000000):ansF cfg 51 [.str s,.str [32]] []=some (.str (trimB s), []):=by
 refine ans_of_wp fn51 low51 ?_
 have h1:=ansTrimRB s hs
 have h2:=ansTrimLB (trimR s) (by have:=trimR_len s;omega)
 unfold trimB
 by_cases h:s= []
 ·subst h
  simp (maxSteps:=9^9) (disch:=omega) [-List.map_replicate,-List.map_set,-List.getD_eq_getElem?_getD,-getElem?_pos,-getElem?_neg,om,ir51,trimR,trimL]
 ·generalize trimL (trimR s)=r at*
  simp (maxSteps:=9^9) (disch:=omega) [-List.map_replicate,-List.map_set,-List.getD_eq_getElem?_getD,-getElem?_pos,-getElem?_neg,om,ir51,h,h1,h2]
def partF (P:List Str):List Str:=(P.map trimB).filter fun s=>decide (s≠ [])
theorem partsP_F (t:Str):partsP t=partF (splitB 59 t):=rfl
theorem partF_snoc (l:List Str) (p:Str):partF (l++ [p])=partF l++if trimB p= [] then [] else [trimB p]:=by
 unfold partF
 rw [List.map_append,List.filter_append]
 congr 1
 by_cases h:trimB p= [] <;> simp [h]
theorem partF_len (l:List Str):(partF l).length≤l.length:=by
 unfold partF
 refine Nat.le_trans (List.length_filter_le _ _) ?_
 rw [List.length_map];exact Nat.le_refl _
theorem ansParts (t:Str) (ht:t.length<1000000):ansF cfg 13 [.str t] []=some (.lst none 1 (strA (partsP t)), []):=by
 refine ans_of_wp fn13 low13 ?_
 have hsp:=ansSplitB t 59 (by omega)
 have hpc:=fun p hp=>(splitB_pieces (c:=59) t p hp).2
 have hL:=splitB_length 59 t
 rw [partsP_F]
 generalize splitB 59 t=P at*
 have hPl:(P.map AV.str).length=P.length:=by simp
 have hE: ∀k (h:k<P.length),(P.map AV.str)[k]?=some (.str P[k]):=fun k h=>get_map _ _ h
 generalize P.map AV.str=A at*
 obtain ⟨OUT,hO⟩: ∃O,O=partF P:=⟨_,rfl⟩
 rw [←hO]
 simp (maxSteps:=9^9) (disch:=omega) [-List.map_replicate,-List.map_set,-List.getD_eq_getElem?_getD,-getElem?_pos,-getElem?_neg,om,ir13,hsp,hPl]
 refine Wp.loopM (fun (i:Nat)=>P.length-i) (fun i=> [none,none,some (.osl 0 (partF (P.take i)).length),none,some (.lst none 1 A),some (.int .i64 P.length),some (.int .i64 i),none,none,none,none,none]) (fun i=> [.sl ⟨false,some 9,none⟩ 1 (strA (partF (P.take i)))]) (fun i=>i≤P.length) ?_ 0 (by omega) (by simp [partF]) (by simp [partF,strA])
 intro i hi
 by_cases h1:i<P.length
 ·have hg:=hE i h1
  have hp:=hpc _ (List.getElem_mem h1)
  have hs:=partF_snoc (P.take i) P[i]
  rw [←List.take_succ_eq_append_getElem h1] at hs
  have hq:=ansTrim P[i] (by omega)
  have hl:(strA (partF (P.take i))).length=(partF (P.take i)).length:=strA_len _
  have hll:=partF_len (P.take i)
  have hsl:=congrArg List.length hs
  have hsA:=congrArg strA hs
  have htl:(P.take i).length≤i:=by simp;omega
  generalize P[i]=p at*
  generalize trimB p=q at*
  clear hE hpc
  by_cases hz:q= []
  ·subst hz
   simp only [if_true,List.append_nil] at hs hsl hsA
   have hY:partF (P.take (i+1))=partF (P.take i):=hs
   clear hs hsA hsl
   generalize partF (P.take i)=Z at*
   generalize hD:strA Z=D at*
   simp (maxSteps:=9^9) (disch:=omega) [-List.map_replicate,-List.map_set,-List.getD_eq_getElem?_getD,-getElem?_pos,-getElem?_neg,om,h1,hg,hq,hl]
   exact ⟨i+1,by omega,by omega,⟨by rw [hY],by simp⟩,by rw [hY,hD]⟩
  ·rw [if_neg hz] at hs hsl hsA
   simp only [List.length_append,List.length_cons,List.length_nil] at hsl
   have e:strA (partF (P.take i)++ [q])=strA (partF (P.take i))++ [.str q]:=by simp [strA]
   rw [e] at hsA
   generalize hY:partF (P.take (i+1))=Y at*
   generalize partF (P.take i)=Z at*
   generalize strA Z=D at*
   simp (maxSteps:=9^9) (disch:=omega) [-List.map_replicate,-List.map_set,-List.getD_eq_getElem?_getD,-getElem?_pos,-getElem?_neg,om,h1,hg,hq,hl,hz]
   refine ⟨i+1,by omega,by omega,?_⟩
   rw [hY]
   exact ⟨⟨by omega,by simp⟩,hsA.symm⟩
 ·obtain rfl:i=P.length:=by omega
  rw [List.take_length,←hO]
  have hl:(strA OUT).length=OUT.length:=strA_len _
  have hpl:=plain_strA OUT
  clear hE
  generalize strA OUT=D at*
  simp (maxSteps:=9^9) (disch:=omega) [-List.map_replicate,-List.map_set,-List.getD_eq_getElem?_getD,-getElem?_pos,-getElem?_neg,om,hl,hpl]
theorem ansTrimR (s:Str) (hs:s.length<1000000):ansF cfg 52 [.str s] []=some (.str (trimB s), []):=by
 refine ans_of_wp fn52 low52 ?_
 unfold trimB
 rw [←trim_swap]
 simp (maxSteps:=9^9) (disch:=omega) [-List.map_replicate,-List.map_set,-List.getD_eq_getElem?_getD,-getElem?_pos,-getElem?_neg,om,ir52]
 refine Wp.loopM (fun (a:Str)=>a.length) (fun a=> [some (.str a),none,none,none]) (fun _=> []) (fun a=>trimL s=trimL a∧a.length≤s.length) ?_ s ⟨rfl,Nat.le_refl _⟩ (by simp) rfl
 rintro a ⟨h1,h2⟩
 rw [h1]
 cases a with
 | nil=>
  simp (maxSteps:=9^9) (disch:=omega) [-List.map_replicate,-List.map_set,-List.getD_eq_getElem?_getD,-getElem?_pos,-getElem?_neg,om,trimL]
  refine Wp.loopM (fun (a:Str)=>a.length) (fun a=> [some (.str a),none,none,none]) (fun _=> []) (fun a=>trimR ([])=trimR a∧a.length≤([]).length) ?_ ([]) ⟨rfl,Nat.le_refl _⟩ (by simp) rfl
  rintro w ⟨k1,k2⟩
  rw [k1]
  rcases List.eq_nil_or_concat w with rfl | ⟨v,y,rfl⟩
  ·simp (maxSteps:=9^9) (disch:=omega) [-List.map_replicate,-List.map_set,-List.getD_eq_getElem?_getD,-getElem?_pos,-getElem?_neg,om,trimR]
  ·rw [List.concat_eq_append] at*
   have hl:(v++ [y]).length=v.length+1:=by simp
   have hg:(v++ [y])[v.length]?=some y:=by simp
   have e1:((v.length:Int)+1-1).toNat=v.length:=by omega
   have ht:(v++ [y]).take v.length=v:=List.take_left' rfl
   have hne:v++ [y]≠ []:=by simp
   by_cases hy:y=32
   ·subst hy
    rw [trimR_snoc] at k1⊢
    generalize v++ [(32:UInt8)]=w at*
    simp (maxSteps:=9^9) (disch:=omega) [-List.map_replicate,-List.map_set,-List.getD_eq_getElem?_getD,-getElem?_pos,-getElem?_neg,om,hl,hg,e1,ht,hne]
    all_goals (simp only [List.length_nil,List.length_cons] at k2;omega)
   ·have hy2:=ne32 hy
    rw [trimR_keep hy]
    clear k1
    generalize v++ [y]=w at*
    simp (maxSteps:=9^9) (disch:=omega) [-List.map_replicate,-List.map_set,-List.getD_eq_getElem?_getD,-getElem?_pos,-getElem?_neg,om,hl,hg,e1,ht,hy2,hne]
 | cons x u=>
  by_cases hx:x=32
  ·subst hx
   rw [trimL_hit] at h1⊢
   simp (maxSteps:=9^9) (disch:=omega) [-List.map_replicate,-List.map_set,-List.getD_eq_getElem?_getD,-getElem?_pos,-getElem?_neg,om]
   simp at h2;omega
  ·have hx2:=ne32 hx
   rw [trimL_keep hx]
   clear h1
   simp (maxSteps:=9^9) (disch:=omega) [-List.map_replicate,-List.map_set,-List.getD_eq_getElem?_getD,-getElem?_pos,-getElem?_neg,om,hx2]
   clear hx hx2
   refine Wp.loopM (fun (a:Str)=>a.length) (fun a=> [some (.str a),none,none,none]) (fun _=> []) (fun a=>trimR (x::u)=trimR a∧a.length≤(x::u).length) ?_ (x::u) ⟨rfl,Nat.le_refl _⟩ (by simp) rfl
   rintro w ⟨k1,k2⟩
   rw [k1]
   rcases List.eq_nil_or_concat w with rfl | ⟨v,y,rfl⟩
   ·simp (maxSteps:=9^9) (disch:=omega) [-List.map_replicate,-List.map_set,-List.getD_eq_getElem?_getD,-getElem?_pos,-getElem?_neg,om,trimR]
   ·rw [List.concat_eq_append] at*
    have hl:(v++ [y]).length=v.length+1:=by simp
    have hg:(v++ [y])[v.length]?=some y:=by simp
    have e1:((v.length:Int)+1-1).toNat=v.length:=by omega
    have ht:(v++ [y]).take v.length=v:=List.take_left' rfl
    have hne:v++ [y]≠ []:=by simp
    by_cases hy:y=32
    ·subst hy
     rw [trimR_snoc] at k1⊢
     generalize v++ [(32:UInt8)]=w at*
     simp (maxSteps:=9^9) (disch:=omega) [-List.map_replicate,-List.map_set,-List.getD_eq_getElem?_getD,-getElem?_pos,-getElem?_neg,om,hl,hg,e1,ht,hne]
     all_goals (simp only [List.length_nil,List.length_cons] at k2;omega)
    ·have hy2:=ne32 hy
     rw [trimR_keep hy]
     clear k1
     generalize v++ [y]=w at*
     simp (maxSteps:=9^9) (disch:=omega) [-List.map_replicate,-List.map_set,-List.getD_eq_getElem?_getD,-getElem?_pos,-getElem?_neg,om,hl,hg,e1,ht,hy2,hne]
theorem ansPartsR (t:Str) (ht:t.length<1000000):ansF cfg 14 [.str t] []=some (.lst none 1 (strA (partsP t)), []):=by
 refine ans_of_wp fn14 low14 ?_
 have hlen:=partsP_len t
 obtain ⟨OUT,hO⟩: ∃O,O=partsP t:=⟨_,rfl⟩
 rw [←hO] at hlen⊢
 simp (maxSteps:=9^9) (disch:=omega) [-List.map_replicate,-List.map_set,-List.getD_eq_getElem?_getD,-getElem?_pos,-getElem?_neg,om,ir14]
 refine Wp.loopM (fun (a:Nat×Nat×List Str)=>t.length+1-a.1) (fun a=> [some (.str t),none,some (.osl 0 a.2.2.length),some (.int .i64 a.2.1),some (.int .i64 a.1),none,none,none,none,none,none,none]) (fun a=> [.sl ⟨false,some 9,none⟩ 1 (strA a.2.2)])
  (fun a=>a.2.1≤a.1∧a.1≤t.length+1∧OUT=a.2.2++partsP (t.drop a.2.1)∧(a.1≤t.length→(59:UInt8)∉(t.take a.1).drop a.2.1)∧(a.1=t.length+1→a.2.1=t.length+1)) ?_ (0,0, []) ⟨Nat.le_refl _,by omega,by simpa using hO,by simp,by omega⟩ (by simp) (by simp [strA])
 rintro ⟨i,f,L⟩ ⟨h1,h2,h3,h4,h5⟩
 simp only at h1 h2 h3 h4 h5⊢
 have hLl:=congrArg List.length h3
 rw [List.length_append] at hLl
 have hA:(strA L).length=L.length:=strA_len L
 by_cases h6:i≤t.length
 ·have h4:=h4 h6
  clear h5
  by_cases h7: ∃h:i<t.length,t[i]≠59
  ·obtain ⟨h8,h9⟩:=h7
   have hg:t[i]?=some t[i]:=List.getElem?_eq_getElem h8
   have hn:=nope_step h1 h8 h4 h9
   have h9':t[i].toNat≠59:=fun h=>h9 (UInt8.toNat_inj.1 h)
   generalize t[i]=c at*
   generalize hD:strA L=D at*
   simp (maxSteps:=9^9) (disch:=omega) [-List.map_replicate,-List.map_set,-List.getD_eq_getElem?_getD,-getElem?_pos,-getElem?_neg,om,h6,h8,hg,h9']
   exact ⟨i+1,f,L,⟨by omega,by omega,h3,fun _=>hn,fun h=>by omega⟩,by omega,⟨rfl,rfl,by simp⟩,hD.symm⟩
  ·have he: ∀h:i<t.length,t[i]=59:=fun h=>Classical.byContradiction fun hne=>h7 ⟨h,hne⟩
   have hst:=parts_step h1 h6 h4 he
   have hp:=ansTrimR ((t.take i).drop f) (by simp;omega)
   rw [hst] at h3
   clear hst h7 h4
   generalize trimB ((t.take i).drop f)=q at*
   generalize hpp:(t.take i).drop f=p at*
   have hn: ∀n,(59:UInt8)∉(t.take n).drop n:=fun n=>by rw [List.drop_eq_nil_of_le (by simp;omega)];simp
   by_cases h8:i<t.length
   ·have hg:t[i]?=some 59:=by rw [List.getElem?_eq_getElem h8,he h8]
    clear he
    by_cases hz:q= []
    ·subst hz
     rw [if_pos rfl,List.nil_append] at h3
     generalize hD:strA L=D at*
     simp (maxSteps:=9^9) (disch:=omega) [-List.map_replicate,-List.map_set,-List.getD_eq_getElem?_getD,-getElem?_pos,-getElem?_neg,om,h6,h8,hpp,hp,hA,hg]
     exact ⟨i+1,i+1,L,⟨by omega,by omega,h3,fun h=>by rw [List.drop_eq_nil_of_le (by simp;omega)];simp,fun h=>by omega⟩,by omega,⟨rfl,by simp,by simp⟩,hD.symm⟩
    ·rw [if_neg hz] at h3
     generalize hD:strA L=D at*
     simp (maxSteps:=9^9) (disch:=omega) [-List.map_replicate,-List.map_set,-List.getD_eq_getElem?_getD,-getElem?_pos,-getElem?_neg,om,h6,h8,hpp,hp,hA,hg,hz]
     exact ⟨i+1,i+1,L++ [q],⟨by omega,by omega,by rw [h3];simp,fun h=>by rw [List.drop_eq_nil_of_le (by simp;omega)];simp,fun h=>by omega⟩,by omega,⟨by simp,by simp,by simp⟩,by rw [←hD];simp [strA]⟩
   ·clear he
    by_cases hz:q= []
    ·subst hz
     rw [if_pos rfl,List.nil_append] at h3
     generalize hD:strA L=D at*
     simp (maxSteps:=9^9) (disch:=omega) [-List.map_replicate,-List.map_set,-List.getD_eq_getElem?_getD,-getElem?_pos,-getElem?_neg,om,h6,h8,hpp,hp,hA]
     exact ⟨i+1,i+1,L,⟨by omega,by omega,h3,fun h=>by rw [List.drop_eq_nil_of_le (by simp;omega)];simp,fun h=>by omega⟩,by omega,⟨rfl,by simp,by simp⟩,hD.symm⟩
    ·rw [if_neg hz] at h3
     generalize hD:strA L=D at*
     simp (maxSteps:=9^9) (disch:=omega) [-List.map_replicate,-List.map_set,-List.getD_eq_getElem?_getD,-getElem?_pos,-getElem?_neg,om,h6,h8,hpp,hp,hA,hz]
     exact ⟨i+1,i+1,L++ [q],⟨by omega,by omega,by rw [h3];simp,fun h=>by rw [List.drop_eq_nil_of_le (by simp;omega)];simp,fun h=>by omega⟩,by omega,⟨by simp,by simp,by simp⟩,by rw [←hD];simp [strA]⟩
 ·obtain rfl:i=t.length+1:=by omega
  obtain rfl:=h5 rfl
  have e:t.drop (t.length+1)= []:=List.drop_eq_nil_of_le (by omega)
  have e2:partsP []= []:=by simp [partsP,splitB,trimB,trimR,trimL]
  rw [e,e2,List.append_nil] at h3
  have hpl:=plain_strA L
  subst h3
  generalize strA OUT=D at*
  simp (maxSteps:=9^9) (disch:=omega) [-List.map_replicate,-List.map_set,-List.getD_eq_getElem?_getD,-getElem?_pos,-getElem?_neg,om,hA,hpl]
theorem lowB_big {c:UInt8} (h1:65≤c.toNat) (h2:c.toNat≤90):lowB c=some (c+32)∧(c+32).toNat=c.toNat+32:=by
 unfold lowB
 rw [if_pos ⟨h1,h2⟩]
 refine ⟨rfl,?_⟩
 rw [UInt8.toNat_add]
 show (c.toNat+32)%256=_
 omega
theorem low_int {c:UInt8} (h1:65≤c.toNat) (h2:c.toNat≤90):AV.int .u8 ((c.toNat:Int)-65+97)=ofByte (c+32):=by
 unfold ofByte
 rw [(lowB_big h1 h2).2]
 congr 1;omega
theorem lowB_same {c:UInt8} (h: ¬(65≤c.toNat∧c.toNat≤90)):lowB c=if (97≤c.toNat∧c.toNat≤122)∨(48≤c.toNat∧c.toNat≤57) then some c else none:=by
 unfold lowB
 rw [if_neg h]
theorem bytes_one (c:UInt8):bytesOf [ofByte c]=some [c]:=by
 have:=bytesOf_ofByte (l:= [c])
 simpa using this
theorem ansKey (t:Str) (ht:t.length<1000000):ansF cfg 15 [.str t] []=some (.str (keyP t), []):=by
 refine ans_of_wp fn15 low15 ?_
 obtain ⟨OUT,hO⟩: ∃O,O=keyP t:=⟨_,rfl⟩
 rw [←hO]
 simp (maxSteps:=9^9) (disch:=omega) [-List.map_replicate,-List.map_set,-List.getD_eq_getElem?_getD,-getElem?_pos,-getElem?_neg,om,ir15]
 refine Wp.loopM (fun (i:Nat)=>t.length-i) (fun i=> [some (.str t),none,some (.osl 0 (keyP (t.take i)).length),none,none,some (.int .i64 t.length),some (.int .i64 i),none,none,none,none,none,none,none]) (fun i=> [.sl ⟨false,some 5,none⟩ 1 ((keyP (t.take i)).map ofByte)]) (fun i=>i≤t.length) ?_ 0 (by omega) (by simp [keyP]) (by simp [keyP])
 intro i hi
 by_cases h1:i<t.length
 ·have hg:t[i]?=some t[i]:=List.getElem?_eq_getElem h1
  have hk:=keyP_snoc (t.take i) t[i]
  rw [←List.take_succ_eq_append_getElem h1] at hk
  have hl:((keyP (t.take i)).map ofByte).length=(keyP (t.take i)).length:=by simp
  have hll:=keyP_len (t.take i)
  have htl:(t.take i).length≤i:=by simp;omega
  generalize t[i]=c at*
  generalize hY:keyP (t.take (i+1))=Y at*
  generalize keyP (t.take i)=Z at*
  have hc:=c.toNat_lt
  by_cases h2:65≤c.toNat∧c.toNat≤90
  ·rw [(lowB_big h2.1 h2.2).1] at hk
   obtain ⟨h3,h4⟩:=h2
   have e3:=low_int h3 h4
   generalize hD:Z.map ofByte=D at*
   simp (maxSteps:=9^9) (disch:=omega) [-List.map_replicate,-List.map_set,-List.getD_eq_getElem?_getD,-getElem?_pos,-getElem?_neg,om,h1,hg,hl,h3,h4,wrap_u8]
   refine ⟨i+1,by omega,by omega,⟨?_,by simp⟩,?_⟩
   ·rw [hY,hk];simp
   ·rw [hY,hk,e3,←hD];simp
  ·rw [lowB_same h2] at hk
   by_cases h3:(97≤c.toNat∧c.toNat≤122)∨(48≤c.toNat∧c.toNat≤57)
   ·rw [if_pos h3] at hk
    have a1:(decide (65≤(c.toNat:Int))&&decide ((c.toNat:Int)≤90))=false:=by simp;omega
    have a2:((decide (97≤(c.toNat:Int))&&decide ((c.toNat:Int)≤122)) || (decide (48≤(c.toNat:Int))&&decide ((c.toNat:Int)≤57)))=true:=by simp;omega
    clear h2 h3
    generalize hD:Z.map ofByte=D at*
    simp (maxSteps:=9^9) (disch:=omega) [-List.map_replicate,-List.map_set,-List.getD_eq_getElem?_getD,-getElem?_pos,-getElem?_neg,om,h1,hg,hl,a1,a2,wrap_u8]
    refine ⟨i+1,by omega,by omega,⟨?_,by simp⟩,?_⟩
    ·rw [hY,hk];simp
    ·rw [hY,hk,←hD];simp;rfl
   ·rw [if_neg h3] at hk
    have a1:(decide (65≤(c.toNat:Int))&&decide ((c.toNat:Int)≤90))=false:=by simp;omega
    have a2:((decide (97≤(c.toNat:Int))&&decide ((c.toNat:Int)≤122)) || (decide (48≤(c.toNat:Int))&&decide ((c.toNat:Int)≤57)))=false:=by simp;omega
    clear h2 h3
    generalize hD:Z.map ofByte=D at*
    simp (maxSteps:=9^9) (disch:=omega) [-List.map_replicate,-List.map_set,-List.getD_eq_getElem?_getD,-getElem?_pos,-getElem?_neg,om,h1,hg,hl,a1,a2,wrap_u8]
    refine ⟨i+1,by omega,by omega,⟨?_,by simp⟩,?_⟩
    ·rw [hY,hk];simp
    ·rw [hY,hk,←hD];simp
 ·obtain rfl:i=t.length:=by omega
  rw [List.take_length,←hO]
  simp (maxSteps:=9^9) (disch:=omega) [-List.map_replicate,-List.map_set,-List.getD_eq_getElem?_getD,-getElem?_pos,-getElem?_neg,om,Cfg.descOf]
theorem ansKeyR (t:Str) (ht:t.length<1000000):ansF cfg 16 [.str t] []=some (.str (keyP t), []):=by
 refine ans_of_wp fn16 low16 ?_
 obtain ⟨OUT,hO⟩: ∃O,O=keyP t:=⟨_,rfl⟩
 rw [←hO]
 simp (maxSteps:=9^9) (disch:=omega) [-List.map_replicate,-List.map_set,-List.getD_eq_getElem?_getD,-getElem?_pos,-getElem?_neg,om,ir16]
 refine Wp.loopM (fun (i:Nat)=>t.length-i) (fun i=> [some (.str t),none,some (.str (keyP (t.take i))),some (.int .i64 i),none,none,none,none,none]) (fun i=> []) (fun i=>i≤t.length) ?_ 0 (by omega) (by simp [keyP]) rfl
 intro i hi
 by_cases h1:i<t.length
 ·have hg:t[i]?=some t[i]:=List.getElem?_eq_getElem h1
  have hk:=keyP_snoc (t.take i) t[i]
  rw [←List.take_succ_eq_append_getElem h1] at hk
  have hll:=keyP_len (t.take i)
  have htl:(t.take i).length≤i:=by simp;omega
  generalize t[i]=c at*
  generalize hY:keyP (t.take (i+1))=Y at*
  generalize keyP (t.take i)=Z at*
  have hc:=c.toNat_lt
  by_cases h2:65≤c.toNat∧c.toNat≤90
  ·rw [(lowB_big h2.1 h2.2).1] at hk
   obtain ⟨h3,h4⟩:=h2
   have hU:UInt8.ofNat ((c.toNat:Int)-65+97).toNat=c+32:=by
    apply UInt8.toNat_inj.1
    rw [(lowB_big h3 h4).2,UInt8.toNat_ofNat']
    omega
   simp (maxSteps:=9^9) (disch:=omega) [-List.map_replicate,-List.map_set,-List.getD_eq_getElem?_getD,-getElem?_pos,-getElem?_neg,om,h1,hg,h3,h4,wrap_u8,Cfg.descOf]
   exact ⟨i+1,by omega,by omega,by rw [hY,hk,hU];simp,by simp⟩
  ·rw [lowB_same h2] at hk
   by_cases h3:(97≤c.toNat∧c.toNat≤122)∨(48≤c.toNat∧c.toNat≤57)
   ·rw [if_pos h3] at hk
    have a1:(decide (65≤(c.toNat:Int))&&decide ((c.toNat:Int)≤90))=false:=by simp;omega
    have a2:((decide (97≤(c.toNat:Int))&&decide ((c.toNat:Int)≤122)) || (decide (48≤(c.toNat:Int))&&decide ((c.toNat:Int)≤57)))=true:=by simp;omega
    clear h2 h3
    have hU:UInt8.ofNat ((c.toNat:Int)).toNat=c:=by simp
    simp (maxSteps:=9^9) (disch:=omega) [-List.map_replicate,-List.map_set,-List.getD_eq_getElem?_getD,-getElem?_pos,-getElem?_neg,om,h1,hg,a1,a2,wrap_u8,Cfg.descOf]
    exact ⟨i+1,by omega,by omega,by rw [hY,hk];simp,by simp⟩
   ·rw [if_neg h3] at hk
    have a1:(decide (65≤(c.toNat:Int))&&decide ((c.toNat:Int)≤90))=false:=by simp;omega
    have a2:((decide (97≤(c.toNat:Int))&&decide ((c.toNat:Int)≤122)) || (decide (48≤(c.toNat:Int))&&decide ((c.toNat:Int)≤57)))=false:=by simp;omega
    clear h2 h3
    simp (maxSteps:=9^9) (disch:=omega) [-List.map_replicate,-List.map_set,-List.getD_eq_getElem?_getD,-getElem?_pos,-getElem?_neg,om,h1,hg,a1,a2,wrap_u8,Cfg.descOf]
    exact ⟨i+1,by omega,by omega,by rw [hY,hk];simp,by simp⟩
 ·obtain rfl:i=t.length:=by omega
  rw [List.take_length,←hO]
  simp (maxSteps:=9^9) (disch:=omega) [-List.map_replicate,-List.map_set,-List.getD_eq_getElem?_getD,-getElem?_pos,-getElem?_neg,om]
def cmpI (a b:Int):Int:=if a<b then -1 else if a=b then 0 else 1
theorem ansNanI (a:Int):ansF cfg 132 [.int .i64 a] []=some (.bool false, []):=by
 refine ans_of_wp fn132 low132 ?_
 simp (maxSteps:=9^9) (disch:=omega) [-List.map_replicate,-List.map_set,-List.getD_eq_getElem?_getD,-getElem?_pos,-getElem?_neg,om,ir132]
theorem ansCmpI (a b:Int):ansF cfg 96 [.int .i64 a,.int .i64 b] []=some (.int .i64 (cmpI a b), []):=by
 refine ans_of_wp fn96 low96 ?_
 have h1:=ansNanI a
 have h2:=ansNanI b
 unfold cmpI
 by_cases h3:a<b
 ·simp (maxSteps:=9^9) (disch:=omega) [-List.map_replicate,-List.map_set,-List.getD_eq_getElem?_getD,-getElem?_pos,-getElem?_neg,om,ir96,h1,h2,h3]
 ·by_cases h4:a=b
  ·subst h4
   simp (maxSteps:=9^9) (disch:=omega) [-List.map_replicate,-List.map_set,-List.getD_eq_getElem?_getD,-getElem?_pos,-getElem?_neg,om,ir96,h1]
  ·have h5:b<a:=by omega
   simp (maxSteps:=9^9) (disch:=omega) [-List.map_replicate,-List.map_set,-List.getD_eq_getElem?_getD,-getElem?_pos,-getElem?_neg,om,ir96,h1,h2,h3,h4,h5]
theorem ansNanS (a:Str):ansF cfg 133 [.str a] []=some (.bool false, []):=by
 refine ans_of_wp fn133 low133 ?_
 simp (maxSteps:=9^9) (disch:=omega) [-List.map_replicate,-List.map_set,-List.getD_eq_getElem?_getD,-getElem?_pos,-getElem?_neg,om,ir133]
theorem ansCmpS (a b:Str):ansF cfg 97 [.str a,.str b] []=some (.int .i64 (Lib.compareBytes a b), []):=by
 refine ans_of_wp fn97 low97 ?_
 have h1:=ansNanS a
 have h2:=ansNanS b
 obtain ⟨k1,k2,k3⟩:=cb_facts a b
 obtain ⟨l1,l2,l3⟩:=cb_facts b a
 have sw:=cb_swap a b
 have k4:=cb_eq a b
 rw [sw] at l1
 generalize Lib.compareBytes a b=c at*
 rcases k3 with rfl | rfl | rfl
 ·simp (maxSteps:=9^9) (disch:=omega) [-List.map_replicate,-List.map_set,-List.getD_eq_getElem?_getD,-getElem?_pos,-getElem?_neg,om,ir97,h1,h2,k1]
 ·simp (maxSteps:=9^9) (disch:=omega) [-List.map_replicate,-List.map_set,-List.getD_eq_getElem?_getD,-getElem?_pos,-getElem?_neg,om,ir97,h1,h2,k1,l1,k4]
 ·simp (maxSteps:=9^9) (disch:=omega) [-List.map_replicate,-List.map_set,-List.getD_eq_getElem?_getD,-getElem?_pos,-getElem?_neg,om,ir97,h1,h2,k1,l1,k4]
theorem ansOr3 (nl:Option Bool) (a b c:Int):ansF cfg 95 [.lst nl 1 [.int .i64 a,.int .i64 b,.int .i64 c]] []=some (.int .i64 (if a=0 then (if b=0 then c else b) else a), []):=by
 refine ans_of_wp fn95 low95 ?_
 simp (maxSteps:=9^9) (disch:=omega) [-List.map_replicate,-List.map_set,-List.getD_eq_getElem?_getD,-getElem?_pos,-getElem?_neg,om,ir95]
 refine Wp.loopM (fun (i:Nat)=>3-i) (fun i=> [none,none,some (.int .i64 0),none,some (.lst nl 1 [.int .i64 a,.int .i64 b,.int .i64 c]),some (.int .i64 3),some (.int .i64 i),none,none]) (fun _=> []) (fun i=>i≤3∧(1≤i→a=0)∧(2≤i→b=0)∧(3≤i→c=0)) ?_ 0 (by omega) (by simp) rfl
 rintro i ⟨h0,h1,h2,h3⟩
 match i,h0,h1,h2,h3 with
 | 0,_,_,_,_=>
  by_cases h:a=0
  ·simp (maxSteps:=9^9) (disch:=omega) [-List.map_replicate,-List.map_set,-List.getD_eq_getElem?_getD,-getElem?_pos,-getElem?_neg,om,h]
   exact ⟨1,⟨by omega,fun h=>by omega,fun h=>by omega⟩,by omega,by simp⟩
  ·simp (maxSteps:=9^9) (disch:=omega) [-List.map_replicate,-List.map_set,-List.getD_eq_getElem?_getD,-getElem?_pos,-getElem?_neg,om,h]
 | 1,_,h1,_,_=>
  have ha:=h1 (by omega)
  by_cases h:b=0
  ·simp (maxSteps:=9^9) (disch:=omega) [-List.map_replicate,-List.map_set,-List.getD_eq_getElem?_getD,-getElem?_pos,-getElem?_neg,om,ha,h]
   exact ⟨2,⟨by omega,fun h=>by omega⟩,by omega,by simp⟩
  ·simp (maxSteps:=9^9) (disch:=omega) [-List.map_replicate,-List.map_set,-List.getD_eq_getElem?_getD,-getElem?_pos,-getElem?_neg,om,ha,h]
 | 2,_,h1,h2,_=>
  have ha:=h1 (by omega)
  have hb:=h2 (by omega)
  by_cases h:c=0
  ·simp (maxSteps:=9^9) (disch:=omega) [-List.map_replicate,-List.map_set,-List.getD_eq_getElem?_getD,-getElem?_pos,-getElem?_neg,om,ha,hb,h]
   exact ⟨3,by omega,by omega,by simp⟩
  ·simp (maxSteps:=9^9) (disch:=omega) [-List.map_replicate,-List.map_set,-List.getD_eq_getElem?_getD,-getElem?_pos,-getElem?_neg,om,ha,hb,h]
 | 3,_,h1,h2,h3=>
  have ha:=h1 (by omega)
  have hb:=h2 (by omega)
  have hc:=h3 (by omega)
  simp (maxSteps:=9^9) (disch:=omega) [-List.map_replicate,-List.map_set,-List.getD_eq_getElem?_getD,-getElem?_pos,-getElem?_neg,om,ha,hb,hc]
theorem cmpH_or (k:Int) (s:Str) (l:Int) (t:Str):(if cmpI k l=0 then (if Lib.compareBytes (keyP s) (keyP t)=0 then Lib.compareBytes s t else Lib.compareBytes (keyP s) (keyP t)) else cmpI k l)=cmpH k s l t:=by
 unfold cmpI cmpH
 by_cases h1:k<l
 ·simp [h1]
 ·by_cases h2:k=l
  ·subst h2;simp
  ·have h3:l<k:=by omega
   simp [h1,h2,h3]
theorem ansCmpE (k:Int) (s:Str) (l:Int) (t:Str) (hs:s.length<1000000) (ht:t.length<1000000):ansF cfg 53 [.agg [.int .i64 k,.str s],.agg [.int .i64 l,.str t]] []=some (.int .i64 (cmpH k s l t), []):=by
 refine ans_of_wp fn53 low53 ?_
 have w1:=ansCmpI k l
 have w2:=ansKey s hs
 have w3:=ansKey t ht
 have w4:=ansCmpS (keyP s) (keyP t)
 have w5:=ansCmpS s t
 have w6:=ansOr3 none (cmpI k l) (Lib.compareBytes (keyP s) (keyP t)) (Lib.compareBytes s t)
 rw [cmpH_or] at w6
 generalize cmpH k s l t=r at*
 generalize cmpI k l=c1 at*
 generalize Lib.compareBytes (keyP s) (keyP t)=c2 at*
 generalize Lib.compareBytes s t=c3 at*
 generalize keyP s=ks at*
 generalize keyP t=kt at*
 simp (maxSteps:=9^9) (disch:=omega) [-List.map_replicate,-List.map_set,-List.getD_eq_getElem?_getD,-getElem?_pos,-getElem?_neg,om,ir53,w1,w2,w3,w4,w5,w6,splice]
theorem ansOf (h:Hg):ansF cfg 54 [hgA h] []=some (.agg [.int .i64 h.kind,.str h.text], []):=by
 refine ans_of_wp fn54 low54 ?_
 simp (maxSteps:=9^9) (disch:=omega) [-List.map_replicate,-List.map_set,-List.getD_eq_getElem?_getD,-getElem?_pos,-getElem?_neg,om,ir54,hgA,splice]
theorem ansCmp (a b:Hg) (ha:a.text.length<1000000) (hb:b.text.length<1000000):ansF cfg 17 [hgA a,hgA b] []=some (.int .i64 (cmpH a.kind a.text b.kind b.text), []):=by
 refine ans_of_wp fn17 low17 ?_
 have w1:=ansOf a
 have w2:=ansOf b
 have w3:=ansCmpE a.kind a.text b.kind b.text ha hb
 have p1:=plain_intsA a.units
 have p2:=plain_intsA b.units
 unfold hgA at*
 simp (maxSteps:=9^9) (disch:=omega) [-List.map_replicate,-List.map_set,-List.getD_eq_getElem?_getD,-getElem?_pos,-getElem?_neg,om,ir17,w1,w2,w3,splice,p1,p2]
theorem ansCmpRR (a b:Hg) (ha:a.text.length<1000000) (hb:b.text.length<1000000):ansF cfg 18 [hgA a,hgA b] []=some (.int .i64 (cmpH a.kind a.text b.kind b.text), []):=by
 refine ans_of_wp fn18 low18 ?_
 have w1:=ansKeyR a.text ha
 have w2:=ansKeyR b.text hb
 rw [←cmpR_same]
 unfold cmpR
 have p1:=plain_intsA a.units
 have p2:=plain_intsA b.units
 unfold hgA
 by_cases h1:a.kind=b.kind
 ·rw [if_neg (fun h=>h h1)]
  by_cases h2:keyP a.text=keyP b.text
  ·obtain ⟨k1,_,_⟩:=cb_facts a.text b.text
   obtain ⟨k2,_,_⟩:=cb_facts b.text a.text
   simp only [if_pos h2]
   rw [h2] at w1
   generalize keyP b.text=kt at*
   by_cases h3:Lib.compareBytes a.text b.text= -1
   ·rw [decide_eq_true h3] at k1
    simp (maxSteps:=9^9) (disch:=omega) [-List.map_replicate,-List.map_set,-List.getD_eq_getElem?_getD,-getElem?_pos,-getElem?_neg,om,ir18,w1,w2,h1,h3,splice,k1]
   ·rw [decide_eq_false h3] at k1
    by_cases h4:Lib.compareBytes b.text a.text= -1
    ·rw [decide_eq_true h4] at k2
     have h5: ¬a.text=b.text:=fun h=>by rw [h,cb_self] at h4;exact absurd h4 (by decide)
     simp (maxSteps:=9^9) (disch:=omega) [-List.map_replicate,-List.map_set,-List.getD_eq_getElem?_getD,-getElem?_pos,-getElem?_neg,om,ir18,w1,w2,h1,h3,h4,h5,splice,k1,k2]
    ·rw [decide_eq_false h4] at k2
     have h5:a.text=b.text:=cb_zero (by
      have:=cb_one a.text b.text
      have:=cb_swap a.text b.text
      omega)
     have h6:=k1
     rw [h5] at h6
     simp (maxSteps:=9^9) (disch:=omega) [-List.map_replicate,-List.map_set,-List.getD_eq_getElem?_getD,-getElem?_pos,-getElem?_neg,om,ir18,w1,w2,h1,h3,h4,h5,h6,splice,k1,k2,cb_self]
  ·obtain ⟨k1,_,_⟩:=cb_facts (keyP a.text) (keyP b.text)
   obtain ⟨k2,_,_⟩:=cb_facts (keyP b.text) (keyP a.text)
   simp only [if_neg h2]
   generalize keyP a.text=ks at*
   generalize keyP b.text=kt at*
   by_cases h3:Lib.compareBytes ks kt= -1
   ·rw [decide_eq_true h3] at k1
    simp (maxSteps:=9^9) (disch:=omega) [-List.map_replicate,-List.map_set,-List.getD_eq_getElem?_getD,-getElem?_pos,-getElem?_neg,om,ir18,w1,w2,h1,h2,h3,splice,k1]
   ·rw [decide_eq_false h3] at k1
    by_cases h4:Lib.compareBytes kt ks= -1
    ·rw [decide_eq_true h4] at k2
     simp (maxSteps:=9^9) (disch:=omega) [-List.map_replicate,-List.map_set,-List.getD_eq_getElem?_getD,-getElem?_pos,-getElem?_neg,om,ir18,w1,w2,h1,h2,h3,h4,splice,k1,k2]
    ·exact absurd (cb_zero (by
      have:=cb_one ks kt
      have:=cb_swap ks kt
      omega)) h2
 ·rw [if_pos h1]
  by_cases h2:a.kind<b.kind
  ·simp (maxSteps:=9^9) (disch:=omega) [-List.map_replicate,-List.map_set,-List.getD_eq_getElem?_getD,-getElem?_pos,-getElem?_neg,om,ir18,h1,h2,splice]
  ·simp (maxSteps:=9^9) (disch:=omega) [-List.map_replicate,-List.map_set,-List.getD_eq_getElem?_getD,-getElem?_pos,-getElem?_neg,om,ir18,h1,h2,splice]
end Go.Proofs.YtnlndhjfmghajaaGreatDoor
