/-
 Catalogs as plain values: their faults, the way to a sheet, the numbers of sections: the program's way and the reference's are one. No program. Catalogs as plain values: preferences, chosen facts, labels: the program's way and the reference's are one. No program. What a catalog without a fault is. No program. The piece of a text with the number of a unit: the program's way and the reference's are one. No program. Citations, expanded texts, sections, the number of a unit's section, finding aids: in plain words, the program's way and the reference's are one. No program. The text of a unit, read by the program's way and by the reference's: the fact of a line. No program. Texts split at a byte. No program. The text of a unit, read by the program's way and by the reference's. No program. The text of a unit is read back. No program. The reads of a section, and the section from its reads: it is that of the finding aid. No program. Reads that are not stale: the other catalog's section is the same. No program. Values of the cells that a section reads are there; stale reads and differences. No program. The section from reads of any kind: the program notes that a read is missing and goes on, the reference stops. No program. What the functions of packages aid and depend answer, as plain functions; the reference's way is the program's. No program. The laws of package depend, as plain facts. No program. How a catalog's slices came in does not matter for any answer. No program.
-/
import Derived.Test.YtfnkchadeaedlaaGreatDoorStrM
set_option linter.all false
namespace Go.Proofs.YtfnkchadeaedlaaGreatDoor
def befB (e:Int) (s:Str) (f:Int) (t:Str):Bool:=decide (e<f∨e=f∧Lib.compareBytes s t<0)
structure Lb where
 el:Int
 lang:Str
 text:Str
 ix:Int
structure Fc where
 el:Int
 lang:Str
 text:Str
structure Sh where
 unit:Int
 par:Int
 level:Int
 mark:Str
 title:Str
 facts:List Fc
 fn:Option Bool
 fz:Nat
structure Ct where
 langs:List Str
 labs:List Lb
 shs:List Sh
 ln:Option Bool
 lz:Nat
 bn:Option Bool
 bz:Nat
 sn:Option Bool
 sz:Nat
def twoB (s:Str):Bool:=decide (s.length=2)&&(decide (97≤(s.getD 0 0).toNat∧(s.getD 0 0).toNat≤122)&&decide (97≤(s.getD 1 0).toNat∧(s.getD 1 0).toNat≤122))
def hasS (l:List Str) (s:Str):Bool:=l.any (s== ·)
def langsGo:List Str→List Str→Int
 | _, []=>0
 | pre,s::r=>if twoB s=false then 4 else if hasS pre s=true then 6 else langsGo (pre++ [s]) r
def langsE (l:List Str):Int:=if l.length<1∨8<l.length then 2 else langsGo [] l
def labE (langs:List Str) (p:Option Lb) (l:Lb):Int:=
 if l.el<1∨64<l.el∨l.ix<0∨3<l.ix then 2 else if hasS langs l.lang=false then 7 else if l.text.length<1∨64<l.text.length then 4 else
 match p with
 | none=>0
 | some p=>if befB p.el p.lang l.el l.lang=false then 5 else if p.el=l.el∧p.ix≠l.ix then 10 else 0
def labsGo (langs:List Str):Option Lb→List Lb→Int
 | _, []=>0
 | p,l::r=>if labE langs p l=0 then labsGo langs (some l) r else labE langs p l
def labsE (langs:List Str) (l:List Lb):Int:=if 256<l.length then 8 else labsGo langs none l
def facE (langs:List Str) (p:Option Fc) (f:Fc):Int:=
 if f.el<1∨64<f.el then 2 else if hasS langs f.lang=false then 7 else if f.text.length<1∨4096<f.text.length then 4 else
 match p with
 | none=>0
 | some p=>if befB p.el p.lang f.el f.lang=false then 5 else 0
def facsGo (langs:List Str):Option Fc→List Fc→Int
 | _, []=>0
 | p,f::r=>if facE langs p f=0 then facsGo langs (some f) r else facE langs p f
def facsE (langs:List Str) (l:List Fc):Int:=if 32<l.length then 8 else facsGo langs none l
def idxU:List Sh→Int→Option Nat
 | [],_=>none
 | s::r,u=>if s.unit=u then some 0 else (idxU r u).map (· +1)
def idxI:List Int→Int→Option Nat
 | [],_=>none
 | x::r,u=>if x=u then some 0 else (idxI r u).map (· +1)
def numOpt (o:Option Nat):Int:=match o with | some n=>n | none=> -1
def shE1 (pre:List Sh) (s:Sh):Int:=
 if s.unit<1∨1073741824<s.unit∨s.level<1∨4<s.level then 2 else
 if 64<s.mark.length∨s.title.length<1∨64<s.title.length then 4 else if (idxU pre s.unit).isSome=true then 6 else 0
def placeP (path:List Int) (s:Sh):Option Nat:=if s.par=0 then some 0 else (idxI path s.par).map (· +1)
def shsGo (langs:List Str):List Sh→List Int→List Sh→Int
 | _,_, []=>0
 | pre,path,s::r=>if shE1 pre s=0 then
   (match placeP path s with
   | none=>7
   | some k=>if 12≤k then 15 else if facsE langs s.facts=0 then shsGo langs (pre++ [s]) (path.take k++ [s.unit]) r else facsE langs s.facts)
  else shE1 pre s
def shsE (langs:List Str) (l:List Sh):Int:=if 256<l.length then 8 else shsGo langs [] [] l
def chkC (c:Ct):Int:=if langsE c.langs=0 then (if labsE c.langs c.labs=0 then shsE c.langs c.shs else labsE c.langs c.labs) else langsE c.langs
theorem idxU_lt: ∀{l:List Sh} {u:Int} {k:Nat},idxU l u=some k→k<l.length
 | s::r,u,k,h=>by
  unfold idxU at h
  split at h
  ·cases h;simp
  ·cases hr:idxU r u with
   | none=>rw [hr] at h;cases h
   | some j=>
    rw [hr] at h
    simp only [Option.map_some,Option.some.injEq] at h
    have:=idxU_lt hr
    simp only [List.length_cons];omega
def chain (l:List Sh) (i:Nat):List Int:=
 match h:l[i]? with
 | none=> []
 | some s=>s.unit::(if s.par=0 then [] else
  match hj:idxU (l.take i) s.par with
  | some j=>chain l j
  | none=> [])
termination_by i
decreasing_by
 have:=idxU_lt hj
 simp only [List.length_take] at this
 omega
def placeR (l:List Sh) (i:Nat) (s:Sh):Option Nat:=
 if s.par=0 then some 0 else if i=0 then none else if (chain l (i-1)).contains s.par=true then
  some (match idxU (l.take i) s.par with | some j=>(chain l j).length | none=>0) else none
def shErr (langs:List Str) (l:List Sh) (i:Nat) (s:Sh):Int:=
 if shE1 (l.take i) s=0 then
  (match placeR l i s with
  | none=>7
  | some k=>if 12≤k then 15 else facsE langs s.facts)
 else shE1 (l.take i) s
def shsGoR (langs:List Str) (l:List Sh):Nat→List Sh→Int
 | _, []=>0
 | i,s::r=>if shErr langs l i s=0 then shsGoR langs l (i+1) r else shErr langs l i s
def shsR (langs:List Str) (l:List Sh):Int:=if 256<l.length then 8 else shsGoR langs l 0 l
theorem chain_some {l:List Sh} {i:Nat} {s:Sh} (h:l[i]?=some s):chain l i=s.unit::(if s.par=0 then [] else match idxU (l.take i) s.par with | some j=>chain l j | none=> []):=by
 rw [chain]
 split
 ·rename_i h';rw [h'] at h;cases h
 ·rename_i s' h'
  rw [h'] at h;cases h
  congr 1
  split
  ·rfl
  ·split
   ·rename_i h1;rw [h1]
   ·rename_i h1;rw [h1]
theorem idxU_get: ∀{l:List Sh} {u:Int} {k:Nat},idxU l u=some k→ ∃s,l[k]?=some s∧s.unit=u
 | s::r,u,k,h=>by
  unfold idxU at h
  split at h
  ·cases h;exact ⟨s,rfl,by assumption⟩
  ·cases hr:idxU r u with
   | none=>rw [hr] at h;cases h
   | some j=>
    rw [hr] at h
    simp only [Option.map_some,Option.some.injEq] at h
    subst h
    obtain ⟨x,h1,h2⟩:=idxU_get hr
    exact ⟨x,by simpa using h1,h2⟩
def Uniq (l:List Sh):Prop:= ∀(i:Nat) (s:Sh),l[i]?=some s→idxU (l.take i) s.unit=none
theorem idxU_uniq: ∀{l:List Sh} {j:Nat} {s:Sh},l[j]?=some s→idxU (l.take j) s.unit=none→idxU l s.unit=some j
 | x::r,0,s,h,_=>by cases h;simp [idxU]
 | x::r,j+1,s,h,hn=>by
  simp only [List.take_succ_cons,idxU] at hn
  split at hn
  ·cases hn
  ·rename_i hx
   rw [idxU,if_neg hx,idxU_uniq (l:=r) (j:=j) h (by
    cases hr:idxU (r.take j) s.unit with
    | none=>rfl
    | some k=>rw [hr] at hn;cases hn)]
   rfl
theorem chain_tail {l:List Sh}: ∀(i:Nat) (u:Int),u∈chain l i→ ∃(p:List Int) (j:Nat) (s:Sh),j≤i∧l[j]?=some s∧s.unit=u∧chain l i=p++chain l j∧u∉p:=by
 intro i
 induction i using Nat.strongRecOn with
 | _ i ih=>
  intro u hu
  cases hs:l[i]? with
  | none=>
   rw [chain] at hu
   split at hu
   ·cases hu
   ·rename_i h;rw [hs] at h;cases h
  | some s=>
   by_cases hsu:s.unit=u
   ·exact ⟨[],i,s,Nat.le_refl _,hs,hsu,rfl,by simp⟩
   ·rw [chain_some hs] at hu⊢
    rcases List.mem_cons.1 hu with rfl | hu
    ·exact absurd rfl hsu
    ·split at hu
     ·cases hu
     ·rename_i hp
      rw [if_neg hp]
      split at hu
      ·rename_i j hj
       have hlt:=idxU_lt hj
       simp only [List.length_take] at hlt
       obtain ⟨p,k,t,h1,h2,h3,h4,h5⟩:=ih j (by omega) u hu
       refine ⟨s.unit::p,k,t,by omega,h2,h3,by rw [h4];rfl,?_⟩
       simp only [List.mem_cons,not_or]
       exact ⟨fun h=>hsu h.symm,h5⟩
      ·cases hu
theorem chain_units {l:List Sh} (i:Nat) (u:Int) (h:u∈chain l i): ∃(j:Nat) (s:Sh),j≤i∧l[j]?=some s∧s.unit=u:=by
 obtain ⟨_,j,s,h1,h2,h3,_⟩:=chain_tail i u h
 exact ⟨j,s,h1,h2,h3⟩
theorem chain_head {l:List Sh} {j:Nat} {s:Sh} (h:l[j]?=some s): ∃t,chain l j=s.unit::t:=⟨_,chain_some h⟩
theorem uniq_same {l:List Sh} (hu:Uniq l) {i j:Nat} {s t:Sh} (h1:l[i]?=some s) (h2:l[j]?=some t) (h:s.unit=t.unit):i=j:=by
 have e1:=idxU_uniq h1 (hu i s h1)
 have e2:=idxU_uniq h2 (hu j t h2)
 rw [h] at e1
 rw [e1] at e2
 exact Option.some.inj e2
theorem chain_nodup {l:List Sh} (hu:Uniq l): ∀i,(chain l i).Nodup:=by
 intro i
 induction i using Nat.strongRecOn with
 | _ i ih=>
  cases hs:l[i]? with
  | none=>
   rw [chain]
   split
   ·exact List.nodup_nil
   ·rename_i h;rw [hs] at h;cases h
  | some s=>
   rw [chain_some hs]
   split
   ·simp
   ·split
    ·rename_i j hj
     have hlt:=idxU_lt hj
     simp only [List.length_take] at hlt
     refine List.nodup_cons.2 ⟨fun hm=> ?_,ih j (by omega)⟩
     obtain ⟨k,t,h1,h2,h3⟩:=chain_units j _ hm
     have:=uniq_same hu h2 hs h3
     omega
    ·simp
theorem idxI_app: ∀(a:List Int) (u:Int) (b:List Int),u∉a→idxI (a++u::b) u=some a.length
 | [],u,b,_=>by simp [idxI]
 | x::a,u,b,h=>by
  simp only [List.mem_cons,not_or] at h
  rw [List.cons_append,idxI,if_neg (fun hx=>h.1 hx.symm),idxI_app a u b h.2]
  rfl
theorem idxI_none: ∀(a:List Int) (u:Int),u∉a→idxI a u=none
 | [],u,_=>rfl
 | x::a,u,h=>by
  simp only [List.mem_cons,not_or] at h
  rw [idxI,if_neg (fun hx=>h.1 hx.symm),idxI_none a u h.2]
  rfl
theorem take_idxU {l:List Sh} (hu:Uniq l) {i j:Nat} {s:Sh} (hj:l[j]?=some s) (hji:j<i):idxU (l.take i) s.unit=some j:=by
 refine idxU_uniq (l:=l.take i) (by rw [List.getElem?_take,if_pos hji];exact hj) ?_
 rw [List.take_take,Nat.min_eq_left (by omega)]
 exact hu j s hj
def pathTo (l:List Sh) (i:Nat):List Int:=if i=0 then [] else (chain l (i-1)).reverse
theorem place_same {l:List Sh} (hu:Uniq l) (i:Nat) (s:Sh) (hs:l[i]?=some s):
  placeP (pathTo l i) s=placeR l i s∧ ∀k,placeP (pathTo l i) s=some k→(pathTo l i).take k++ [s.unit]=(chain l i).reverse:=by
 unfold placeP placeR pathTo
 by_cases hp:s.par=0
 ·rw [if_pos hp,if_pos hp]
  refine ⟨rfl,fun k hk=> ?_⟩
  cases hk
  rw [chain_some hs,if_pos hp]
  simp
 ·rw [if_neg hp,if_neg hp]
  by_cases h0:i=0
  ·rw [if_pos h0,if_pos h0]
   exact ⟨rfl,fun k hk=>by cases hk⟩
  ·rw [if_neg h0,if_neg h0]
   by_cases hm:s.par∈chain l (i-1)
   ·obtain ⟨p,j,t,h1,h2,h3,h4,h5⟩:=chain_tail (i-1) s.par hm
    obtain ⟨r,hr⟩:=chain_head h2
    have hnd:=chain_nodup hu (i-1)
    have e1:(chain l (i-1)).reverse=r.reverse++s.par::p.reverse:=by
     rw [h4,hr,h3];simp
    have hnr:s.par∉r.reverse:=by
     rw [h4,hr,h3] at hnd
     have:=(List.nodup_append.1 hnd).2.1
     exact fun h=>(List.nodup_cons.1 this).1 (List.mem_reverse.1 h)
    have e2:idxI ((chain l (i-1)).reverse) s.par=some r.length:=by
     rw [e1,idxI_app _ _ _ hnr,List.length_reverse]
    have e3:idxU (l.take i) s.par=some j:=by
     rw [←h3];exact take_idxU hu h2 (by omega)
    rw [e2,if_pos (by simpa using hm),e3]
    refine ⟨by simp [hr],fun k hk=> ?_⟩
    simp only [Option.map_some,Option.some.injEq] at hk
    subst hk
    rw [chain_some hs,if_neg hp,e3,e1]
    simp only [hr,h3]
    simp [List.take_append]
    rw [List.take_of_length_le (by simp)]
   ·rw [idxI_none _ _ (fun h=>hm (List.mem_reverse.1 h)),if_neg (by simpa using hm)]
    exact ⟨rfl,fun k hk=>by cases hk⟩
theorem chain_take {l:List Sh} {n:Nat}: ∀i,i<n→chain (l.take n) i=chain l i:=by
 intro i
 induction i using Nat.strongRecOn with
 | _ i ih=>
  intro hi
  have hg:(l.take n)[i]?=l[i]?:=by rw [List.getElem?_take,if_pos hi]
  cases hs:l[i]? with
  | none=>
   rw [chain,chain]
   split
   ·split
    ·rfl
    ·rename_i h;rw [hs] at h;cases h
   ·rename_i h;rw [hg,hs] at h;cases h
  | some s=>
   rw [chain_some hs,chain_some (hg.trans hs),List.take_take,Nat.min_eq_left (by omega)]
   congr 1
   split
   ·rfl
   ·split
    ·rename_i j hj
     have hlt:=idxU_lt hj
     simp only [List.length_take] at hlt
     exact ih j (by omega) (by omega)
    ·rfl
theorem placeR_take {l:List Sh} {n i:Nat} (h:i<n) (s:Sh):placeR (l.take n) i s=placeR l i s:=by
 unfold placeR
 by_cases h0:i=0
 ·subst h0;rfl
 ·rw [List.take_take,Nat.min_eq_left (by omega),chain_take (i-1) (by omega)]
  congr 3
  split
  ·rename_i j hj
   have hlt:=idxU_lt hj
   simp only [List.length_take] at hlt
   rw [chain_take j (by omega)]
  ·rfl
theorem shs_same_go (langs:List Str) (l:List Sh): ∀(r pre:List Sh),l=pre++r→Uniq pre→shsGo langs pre (pathTo l pre.length) r=shsGoR langs l pre.length r
 | [],_,_,_=>rfl
 | s::r,pre,hl,hu=>by
  have hs:l[pre.length]?=some s:=by rw [hl];simp
  have ht:l.take pre.length=pre:=by rw [hl];simp
  unfold shsGo shsGoR shErr
  rw [ht]
  by_cases h1:shE1 pre s=0
  ·have hn:idxU pre s.unit=none:=by
    unfold shE1 at h1
    split at h1
    ·cases h1
    ·split at h1
     ·cases h1
     ·split at h1
      ·cases h1
      ·rename_i h;simpa using h
   have hu':Uniq (pre++ [s]):=fun i t hi=>by
    rcases Nat.lt_trichotomy i pre.length with h | h | h
    ·rw [List.getElem?_append_left h] at hi
     rw [List.take_append_of_le_length (by omega)]
     exact hu i t hi
    ·subst h
     simp at hi
     subst hi
     simp [hn]
    ·rw [List.getElem?_eq_none (by simp;omega)] at hi;cases hi
   have hpl: ∀m,placeP (pathTo l pre.length) s=m→placeR l pre.length s=m∧ ∀k,m=some k→(pathTo l pre.length).take k++ [s.unit]=pathTo l (pre++ [s]).length:=fun m hm=>by
    have hw:l.take (pre.length+1)=pre++ [s]:=by rw [hl];simp [List.take_append];rw [List.take_of_length_le (by omega)]
    have key:=place_same (l:=pre++ [s]) hu' pre.length s (by simp)
    rw [←hw,placeR_take (by omega),chain_take _ (by omega)] at key
    have hp:pathTo (l.take (pre.length+1)) pre.length=pathTo l pre.length:=by
     unfold pathTo
     split
     ·rfl
     ·rw [chain_take _ (by omega)]
    rw [hp,hm] at key
    refine ⟨key.1.symm,fun k hk=> ?_⟩
    rw [key.2 k hk]
    unfold pathTo
    simp
   rw [if_pos h1,if_pos h1]
   cases hm:placeP (pathTo l pre.length) s with
   | none=>rw [(hpl _ hm).1];rfl
   | some k=>
    obtain ⟨e1,e2⟩:=hpl _ hm
    rw [e1]
    simp only
    by_cases hk:12≤k
    ·rw [if_pos hk,if_pos hk];rfl
    ·rw [if_neg hk,if_neg hk]
     by_cases hf:facsE langs s.facts=0
     ·rw [if_pos hf,if_pos hf,e2 k rfl]
      have:=shs_same_go langs l r (pre++ [s]) (by rw [hl];simp) hu'
      rw [this]
      simp
     ·rw [if_neg hf,if_neg hf]
  ·rw [if_neg h1,if_neg h1,if_neg h1]
theorem shs_same (langs:List Str) (l:List Sh):shsE langs l=shsR langs l:=by
 unfold shsE shsR
 split
 ·rfl
 ·have:=shs_same_go langs l l [] rfl (fun i s h=>by simp at h)
  exact this
variable (it:Int→Str)
def lookI {α:Type}:List (Int×α)→Int→Option α
 | [],_=>none
 | (x,v)::r,u=>if x=u then some v else lookI r u
def putI {α:Type}:List (Int×α)→Int→α→List (Int×α)
 | [],u,v=> [(u,v)]
 | (x,w)::r,u,v=>if x=u then (x,v)::r else (x,w)::putI r u v
theorem look_put {α:Type}: ∀(l:List (Int×α)) (u:Int) (v:α) (t:Int),lookI (putI l u v) t=if u=t then some v else lookI l t
 | [],u,v,t=>by simp [putI,lookI]
 | (x,w)::r,u,v,t=>by
  unfold putI
  by_cases h:x=u
  ·subst h
   rw [if_pos rfl]
   simp only [lookI]
   split <;> rfl
  ·rw [if_neg h]
   simp only [lookI,look_put r u v t]
   by_cases h2:x=t
   ·rw [if_pos h2,if_pos h2,if_neg (fun h3=>h (h2.trans h3.symm))]
   ·rw [if_neg h2,if_neg h2]
structure NS where
 nums:List (Int×Str)
 kids:List (Int×Int)
def numStep (root:Int) (st:NS) (s:Sh):NS:=
 if s.unit=root then ⟨putI st.nums s.unit [49],st.kids⟩ else
 match lookI st.nums s.par with
 | some above=>⟨putI st.nums s.unit (above++ [46]++it ((lookI st.kids s.par).getD 0+1)),putI st.kids s.par ((lookI st.kids s.par).getD 0+1)⟩
 | none=>st
def numRun (root:Int):NS→List Sh→List (Sh×Str)
 | _, []=> []
 | st,s::r=>match lookI (numStep it root st s).nums s.unit with
  | some n=>(s,n)::numRun root (numStep it root st s) r
  | none=>numRun root (numStep it root st s) r
def cnt (p:Nat→Bool):Nat→Nat
 | 0=>0
 | n+1=>cnt p n+if p n=true then 1 else 0
theorem cnt_congr {p q:Nat→Bool}: ∀n,(∀k,k<n→p k=q k)→cnt p n=cnt q n
 | 0,_=>rfl
 | n+1,h=>by rw [cnt,cnt,cnt_congr n (fun k hk=>h k (by omega)),h n (by omega)]
def parB (l:List Sh) (u:Int) (k:Nat):Bool:=match l[k]? with | some s=>decide (s.par=u) | none=>false
def numR (l:List Sh) (root:Int) (i:Nat):Str:=
 match l[i]? with
 | none=> []
 | some s=>if s.unit=root then [49] else
  (match hj:idxU (l.take i) s.par with
  | some j=>numR l root j
  | none=> [])++ [46]++it (cnt (parB l s.par) (i+1))
termination_by i
decreasing_by
 have:=idxU_lt hj
 simp only [List.length_take] at this
 omega
theorem numR_some {l:List Sh} {root:Int} {i:Nat} {s:Sh} (h:l[i]?=some s):numR it l root i=if s.unit=root then [49] else (match idxU (l.take i) s.par with | some j=>numR it l root j | none=> [])++ [46]++it (cnt (parB l s.par) (i+1)):=by
 rw [numR,h]
 simp only
 split
 ·rfl
 ·congr 2
  split
  ·rename_i h1;rw [h1]
  ·rename_i h1;rw [h1]
structure Valid (l:List Sh):Prop where
 uniq:Uniq l
 par: ∀(i:Nat) (s:Sh),l[i]?=some s→s.par≠0→ ∃j,idxU (l.take i) s.par=some j
 pos: ∀s∈l,1≤s.unit
def inB (l:List Sh) (root:Int) (i:Nat):Bool:=(chain l i).contains root
def numsR (l:List Sh) (root:Int):Nat→List Sh→List (Sh×Str)
 | _, []=> []
 | i,s::r=>if inB l root i=true then (s,numR it l root i)::numsR l root (i+1) r else numsR l root (i+1) r
def ownB (l:List Sh) (root u:Int) (k:Nat):Bool:=match l[k]? with | some s=>decide (s.par=u)&&(inB l root k&&decide (s.unit≠root)) | none=>false
theorem idxU_app: ∀(pre:List Sh) (s:Sh) (u:Int),idxU (pre++ [s]) u=match idxU pre u with | some j=>some j | none=>if s.unit=u then some pre.length else none
 | [],s,u=>by simp [idxU]
 | x::r,s,u=>by
  rw [List.cons_append,idxU,idxU,idxU_app r s u]
  by_cases h:x.unit=u
  ·simp [h]
  ·simp only [if_neg h]
   cases idxU r u with
   | some j=>rfl
   | none=>
    simp only [Option.map_none,List.length_cons]
    split <;> rfl
theorem chain_le {l:List Sh} {i:Nat} {u:Int} (hu:Uniq l) (h:u∈chain l i) {k:Nat} {s:Sh} (hk:l[k]?=some s) (hs:s.unit=u):k≤i:=by
 obtain ⟨j,t,h1,h2,h3⟩:=chain_units i u h
 have:=uniq_same hu hk h2 (by rw [hs,h3])
 omega
theorem numRun_go {l:List Sh} (hv:Valid l) (root:Int): ∀(r pre:List Sh) (st:NS),l=pre++r→
  (∀u,lookI st.nums u=match idxU pre u with | some j=>if inB l root j=true then some (numR it l root j) else none | none=>none)→
  (∀u,(lookI st.kids u).getD 0=(cnt (ownB l root u) pre.length:Int))→numRun it root st r=numsR it l root pre.length r
 | [],_,_,_,_,_=>rfl
 | s::r,pre,st,hl,hA,hB=>by
  have hs:l[pre.length]?=some s:=by rw [hl];simp
  have ht:l.take pre.length=pre:=by rw [hl];simp
  have hn:idxU pre s.unit=none:=by have:=hv.uniq _ _ hs;rwa [ht] at this
  have hl':l=(pre++ [s])++r:=by rw [hl];simp
  have hch:=chain_some hs
  rw [ht] at hch
  have hnum:=numR_some it (root:=root) hs
  rw [ht] at hnum
  have hown: ∀u,cnt (ownB l root u) (pre++ [s]).length=cnt (ownB l root u) pre.length+if (decide (s.par=u)&&(inB l root pre.length&&decide (s.unit≠root)))=true then 1 else 0:=fun u=>by
   rw [List.length_append,List.length_singleton,cnt]
   congr 2
   unfold ownB
   rw [hs]
  -- the step
  have step: ∃st',numStep it root st s=st'∧(∀u,lookI st'.nums u=match idxU (pre++ [s]) u with | some j=>if inB l root j=true then some (numR it l root j) else none | none=>none)∧
    (∀u,(lookI st'.kids u).getD 0=(cnt (ownB l root u) (pre++ [s]).length:Int)):=by
   refine ⟨_,rfl,?_⟩
   unfold numStep
   by_cases hr:s.unit=root
   ·rw [if_pos hr]
    rw [if_pos hr] at hnum
    have hin:inB l root pre.length=true:=by unfold inB;rw [hch,hr];simp
    constructor
    ·intro u
     simp only [look_put,idxU_app,hA u]
     by_cases hu:s.unit=u
     ·subst hu
      rw [if_pos rfl,hn]
      simp only [if_true,hin,hnum]
     ·rw [if_neg hu]
      cases idxU pre u with
      | some j=>rfl
      | none=>simp only [if_neg hu]
    ·intro u
     rw [hB u,hown u]
     simp [hr]
   ·rw [if_neg hr]
    rw [if_neg hr] at hnum
    have hA':=hA s.par
    by_cases hp:s.par=0
    ·have h0:idxU pre s.par=none:=by
      cases h:idxU pre s.par with
      | none=>rfl
      | some j=>
       obtain ⟨t,h1,h2⟩:=idxU_get h
       have:=hv.pos t (by rw [hl];exact List.mem_append_left _ (List.mem_of_getElem? h1))
       omega
     rw [h0] at hA'
     simp only [hA']
     rw [if_pos hp] at hch
     have hin:inB l root pre.length=false:=by unfold inB;rw [hch];simpa using fun h=>hr h.symm
     constructor
     ·intro u
      rw [hA u,idxU_app]
      cases hx:idxU pre u with
      | some j=>rfl
      | none=>
       by_cases hu:s.unit=u
       ·simp [hu,hin]
       ·simp [hu]
     ·intro u
      rw [hB u,hown u,hin]
      simp
    ·obtain ⟨j,hj⟩:=hv.par _ _ hs hp
     rw [ht] at hj
     rw [hj] at hA' hch hnum
     rw [if_neg hp] at hch
     simp only at hA' hch hnum
     have hjl:=idxU_lt hj
     obtain ⟨t,hjt,htu⟩:=idxU_get hj
     have hjt':l[j]?=some t:=by rw [hl,List.getElem?_append_left hjl];exact hjt
     have hin:inB l root pre.length=inB l root j:=by
      unfold inB
      rw [hch,List.contains_cons,show (root==s.unit)=false from by simpa using fun h=>hr h.symm]
      rfl
     by_cases hrj:inB l root j=true
     ·rw [hrj] at hin
      rw [if_pos hrj] at hA'
      rw [hA']
      have hcnt:cnt (ownB l root s.par) pre.length=cnt (parB l s.par) pre.length:=cnt_congr _ fun k hk=>by
       unfold ownB parB
       cases hkx:l[k]? with
       | none=>rfl
       | some x=>
        simp only
        by_cases hx:x.par=s.par
        ·have hx0:x.par≠0:=by rw [hx];exact hp
         obtain ⟨m,hm⟩:=hv.par _ _ hkx hx0
         have hm2:=idxU_get hm
         obtain ⟨y,hy1,hy2⟩:=hm2
         have hmk:=idxU_lt hm
         simp only [List.length_take] at hmk
         rw [List.getElem?_take,if_pos (by omega)] at hy1
         have hmj:=uniq_same hv.uniq hy1 hjt' (by rw [hy2,htu,hx])
         subst hmj
         have hck:=chain_some hkx
         rw [if_neg hx0,hm] at hck
         simp only at hck
         have hroot:root∈chain l m:=by simpa [inB] using hrj
         have hxr:x.unit≠root:=fun h=>by
          have:=chain_le hv.uniq hroot hkx h
          omega
         have:inB l root k=true:=by
          unfold inB
          rw [hck]
          simp [hroot]
         simp [hx,this,hxr]
        ·simp [hx]
      have hcnt2:cnt (parB l s.par) (pre.length+1)=cnt (parB l s.par) pre.length+1:=by
       rw [cnt]
       have:parB l s.par pre.length=true:=by unfold parB;rw [hs];simp
       rw [this];rfl
      have hk:=hB s.par
      rw [hcnt] at hk
      rw [hcnt2] at hnum
      have hnum':numR it l root pre.length=numR it l root j++ [46]++it ((lookI st.kids s.par).getD 0+1):=by
       rw [hnum,hk];rfl
      constructor
      ·intro u
       simp only [look_put,idxU_app]
       by_cases hu:s.unit=u
       ·subst hu
        rw [if_pos rfl,hn]
        simp only [if_true,hin,hnum']
       ·rw [if_neg hu,hA u]
        cases idxU pre u with
        | some j=>rfl
        | none=>simp only [if_neg hu]
      ·intro u
       simp only [look_put]
       rw [hown u,hin]
       by_cases hu:s.par=u
       ·subst hu
        rw [if_pos rfl]
        rw [hB s.par]
        simp [hr]
       ·rw [if_neg hu,hB u]
        simp [hu]
     ·have hrj:inB l root j=false:=by simpa using hrj
      rw [hrj] at hin
      rw [hrj] at hA'
      simp only [Bool.false_eq_true,if_false] at hA'
      rw [hA']
      constructor
      ·intro u
       rw [hA u,idxU_app]
       cases hx:idxU pre u with
       | some j=>rfl
       | none=>
        by_cases hu:s.unit=u
        ·simp [hu,hin]
        ·simp [hu]
      ·intro u
       rw [hB u,hown u,hin]
       simp
  obtain ⟨st',e,hA2,hB2⟩:=step
  have ih:=numRun_go hv root r (pre++ [s]) st' hl' hA2 hB2
  have hself:=hA2 s.unit
  rw [idxU_app,hn] at hself
  simp only [if_true] at hself
  unfold numRun numsR
  rw [e,hself]
  by_cases hin:inB l root pre.length=true
  ·rw [if_pos hin,if_pos hin]
   simp only [ih,List.length_append,List.length_singleton]
  ·rw [if_neg hin,if_neg hin]
   simp only [ih,List.length_append,List.length_singleton]
theorem numRun_eq {l:List Sh} (hv:Valid l) (root:Int):numRun it root ⟨[], []⟩ l=numsR it l root 0 l:=
 numRun_go it hv root l [] ⟨[], []⟩ rfl (fun u=>rfl) (fun u=>rfl)
end Go.Proofs.YtfnkchadeaedlaaGreatDoor
namespace Go.Proofs.YtfnkchadeaedlaaGreatDoor
def idxT:List Str→Str→Option Nat
 | [],_=>none
 | x::r,s=>if x=s then some 0 else (idxT r s).map (· +1)
theorem idxT_get: ∀{l:List Str} {s:Str} {k:Nat},idxT l s=some k→l[k]?=some s
 | x::r,s,k,h=>by
  unfold idxT at h
  split at h
  ·rename_i hx
   cases h;simp [hx]
  ·cases hr:idxT r s with
   | none=>rw [hr] at h;cases h
   | some j=>
    rw [hr] at h
    simp only [Option.map_some,Option.some.injEq] at h
    subst h
    simpa using idxT_get hr
theorem idxT_has: ∀{l:List Str} {s:Str},hasS l s=true→ ∃k,idxT l s=some k
 | [],s,h=>by simp [hasS] at h
 | x::r,s,h=>by
  unfold idxT
  by_cases hx:x=s
  ·exact ⟨0,by rw [if_pos hx]⟩
  ·have:hasS r s=true:=by
    unfold hasS at h⊢
    rw [List.any_cons,show (s==x)=false from by simpa using fun h=>hx h.symm] at h
    simpa using h
   obtain ⟨k,hk⟩:=idxT_has this
   exact ⟨k+1,by rw [if_neg hx,hk];rfl⟩
def preferP (l:List Str) (s:Str):List Str:=match idxT l s with | some i=>s::(l.take i++l.drop (i+1)) | none=> []
def Diff:List Str→Prop
 | []=>True
 | x::r=>x∉r∧Diff r
def rk (order:List Str) (s:Str):Int:=match idxT order s with | some k=>k | none=> -1
def chCur (order:List Str) (cur:Fc):List Fc→List Fc
 | []=> [cur]
 | f::r=>if cur.el≠f.el then cur::chCur order f r else if rk order f.lang<rk order cur.lang then chCur order f r else chCur order cur r
def chooseP (order:List Str):List Fc→List Fc
 | []=> []
 | f::r=>chCur order f r
def Inc:List Fc→Prop
 | []=>True
 | f::r=>(∀g∈r,f.el<g.el∨f.el=g.el∧f.lang≠g.lang)∧Inc r
def nameGo (order:List Str) (el:Int):Str→Int→List Lb→Str
 | t,_, []=>t
 | t,b,l::r=>if l.el=el∧rk order l.lang<b then nameGo order el l.text (rk order l.lang) r else nameGo order el t b r
def nameP (order:List Str) (labs:List Lb) (el:Int) (dflt:Str):Str:=nameGo order el dflt order.length labs
def IncL:List Lb→Prop
 | []=>True
 | f::r=>(∀g∈r,f.el=g.el→f.lang≠g.lang)∧IncL r
theorem nameGo_is (order:List Str) (el:Int): ∀(l:List Lb) (t:Str) (b:Int),
  (nameGo order el t b l=t∧ ∀g∈l,g.el=el→b≤rk order g.lang)∨ ∃f∈l,f.el=el∧nameGo order el t b l=f.text∧rk order f.lang<b∧ ∀g∈l,g.el=el→rk order f.lang≤rk order g.lang
 | [],t,b=> .inl ⟨rfl,by simp⟩
 | l::r,t,b=>by
  unfold nameGo
  by_cases h:l.el=el∧rk order l.lang<b
  ·rw [if_pos h]
   right
   rcases nameGo_is order el r l.text (rk order l.lang) with ⟨h1,h2⟩ | ⟨f,hf,h1,h2,h3,h4⟩
   ·refine ⟨l,by simp,h.1,h1,h.2,fun g hg he=> ?_⟩
    rcases List.mem_cons.1 hg with rfl | hg
    ·exact Int.le_refl _
    ·exact h2 g hg he
   ·refine ⟨f,by simp [hf],h1,h2,by omega,fun g hg he=> ?_⟩
    rcases List.mem_cons.1 hg with rfl | hg
    ·omega
    ·exact h4 g hg he
  ·rw [if_neg h]
   rcases nameGo_is order el r t b with ⟨h1,h2⟩ | ⟨f,hf,h1,h2,h3,h4⟩
   ·refine .inl ⟨h1,fun g hg he=> ?_⟩
    rcases List.mem_cons.1 hg with rfl | hg
    ·omega
    ·exact h2 g hg he
   ·refine .inr ⟨f,by simp [hf],h1,h2,h3,fun g hg he=> ?_⟩
    rcases List.mem_cons.1 hg with rfl | hg
    ·omega
    ·exact h4 g hg he
theorem idxT_lt: ∀{l:List Str} {s:Str} {k:Nat},idxT l s=some k→k<l.length:=fun h=>by
 have:=idxT_get h
 exact (List.getElem?_eq_some_iff.1 this).1
end Go.Proofs.YtfnkchadeaedlaaGreatDoor
namespace Go.Proofs.YtfnkchadeaedlaaGreatDoor
theorem langsGo_ok: ∀(l pre:List Str),langsGo pre l=0→Diff l∧(∀s∈l,twoB s=true)∧ ∀s∈l,s∉pre
 | [],_,_=>⟨trivial,by simp,by simp⟩
 | x::r,pre,h=>by
  unfold langsGo at h
  split at h
  ·cases h
  ·rename_i h1
   split at h
   ·cases h
   ·rename_i h2
    obtain ⟨i1,i2,i3⟩:=langsGo_ok r _ h
    refine ⟨⟨fun hx=>i3 x hx (by simp),i1⟩,fun s hs=> ?_,fun s hs hp=> ?_⟩
    ·rcases List.mem_cons.1 hs with rfl | hs
     ·simpa using h1
     ·exact i2 s hs
    ·rcases List.mem_cons.1 hs with rfl | hs
     ·apply h2
      unfold hasS
      rw [List.any_eq_true]
      exact ⟨s,hp,by simp⟩
     ·exact i3 s hs (by simp [hp])
theorem befB_is {e f:Int} {s t:Str} (h:befB e s f t=true):e<f∨e=f∧Lib.compareBytes s t<0:=by simpa [befB] using h
theorem cb_lt_trans {a b c:Str} (h1:Lib.compareBytes a b<0) (h2:Lib.compareBytes b c<0):Lib.compareBytes a c<0:=by
 have h:=cb_trans a b c (by omega) (by omega)
 by_cases h0:Lib.compareBytes a c=0
 ·have:=(h.2 h0).1;omega
 ·omega
theorem befB_trans {e f g:Int} {s t u:Str} (h1:befB e s f t=true) (h2:befB f t g u=true):befB e s g u=true:=by
 unfold befB
 rw [decide_eq_true_eq]
 rcases befB_is h1 with h1 | h1 <;> rcases befB_is h2 with h2 | h2
 ·left;omega
 ·left;omega
 ·left;omega
 ·right;exact ⟨by omega,cb_lt_trans h1.2 h2.2⟩
theorem befB_ne {e f:Int} {s t:Str} (h:befB e s f t=true):e<f∨e=f∧s≠t:=by
 rcases befB_is h with h | h
 ·exact .inl h
 ·exact .inr ⟨h.1,fun hs=>by rw [hs,cb_self] at h;exact absurd h.2 (by decide)⟩
theorem labE_ok {langs:List Str} {p:Option Lb} {l:Lb} (h:labE langs p l=0):hasS langs l.lang=true∧1≤l.el∧l.el≤64∧0≤l.ix∧l.ix≤3∧l.text≠ []∧l.text.length≤64∧ ∀q,p=some q→befB q.el q.lang l.el l.lang=true∧(q.el=l.el→q.ix=l.ix):=by
 unfold labE at h
 split at h
 ·cases h
 ·rename_i h1
  split at h
  ·cases h
  ·rename_i h2
   split at h
   ·cases h
   ·rename_i h3
    refine ⟨by simpa using h2,by omega,by omega,by omega,by omega,fun h0=>by rw [h0] at h3;simp at h3,by omega,fun q hq=> ?_⟩
    subst hq
    simp only at h
    split at h
    ·cases h
    ·rename_i h4
     split at h
     ·cases h
     ·rename_i h5
      exact ⟨by simpa using h4,fun he=>by
       by_cases hi:q.ix=l.ix
       ·exact hi
       ·exact absurd ⟨he,hi⟩ h5⟩
structure LbOk (langs:List Str) (l:Lb):Prop where
 lang:hasS langs l.lang=true
 el1:1≤l.el
 el2:l.el≤64
 ix1:0≤l.ix
 ix2:l.ix≤3
 text:l.text≠ []
 len:l.text.length≤64
theorem labsGo_ok {langs:List Str}: ∀(l:List Lb) (p:Option Lb),labsGo langs p l=0→
  IncL l∧(∀x∈l,LbOk langs x)∧(∀x∈l,∀q,p=some q→befB q.el q.lang x.el x.lang=true∧(q.el=x.el→q.ix=x.ix))∧ ∀x∈l,∀y∈l,x.el=y.el→x.ix=y.ix
 | [],_,_=>⟨trivial,by simp,by simp,by simp⟩
 | x::r,p,h=>by
  unfold labsGo at h
  split at h
  ·rename_i h0
   obtain ⟨a1,a2,a3,a4,a5,a6,a7,a8⟩:=labE_ok h0
   obtain ⟨i1,i2,i3,i4⟩:=labsGo_ok r _ h
   have hx:LbOk langs x:=⟨a1,a2,a3,a4,a5,a6,a7⟩
   refine ⟨⟨fun g hg he hl=> ?_,i1⟩,fun y hy=> ?_,fun y hy q hq=> ?_,fun y hy z hz he=> ?_⟩
   ·rcases befB_ne (i3 g hg x rfl).1 with h | h
    ·omega
    ·exact h.2 hl
   ·rcases List.mem_cons.1 hy with rfl | hy
    ·exact hx
    ·exact i2 y hy
   ·rcases List.mem_cons.1 hy with rfl | hy
    ·exact a8 q hq
    ·have e1:=a8 q hq
     have e2:=i3 y hy x rfl
     have e3:=befB_trans e1.1 e2.1
     refine ⟨e3,fun he=> ?_⟩
     have:q.el=x.el:=by
      rcases befB_is e1.1 with h1 | h1
      ·rcases befB_is e2.1 with h2 | h2 <;> omega
      ·exact h1.1
     rw [e1.2 this,e2.2 (by omega)]
   ·rcases List.mem_cons.1 hy with hyx | hyr
    ·rcases List.mem_cons.1 hz with hzx | hzr
     ·rw [hyx,hzx]
     ·rw [hyx] at he⊢;exact (i3 z hzr x rfl).2 he
    ·rcases List.mem_cons.1 hz with hzx | hzr
     ·rw [hzx] at he⊢;exact ((i3 y hyr x rfl).2 he.symm).symm
     ·exact i4 y hyr z hzr he
  ·rename_i h0;exact absurd h h0
structure FcOk (langs:List Str) (l:Fc):Prop where
 lang:hasS langs l.lang=true
 el1:1≤l.el
 el2:l.el≤64
 text:l.text≠ []
 len:l.text.length≤4096
theorem facE_ok {langs:List Str} {p:Option Fc} {l:Fc} (h:facE langs p l=0):FcOk langs l∧ ∀q,p=some q→befB q.el q.lang l.el l.lang=true:=by
 unfold facE at h
 split at h
 ·cases h
 ·rename_i h1
  split at h
  ·cases h
  ·rename_i h2
   split at h
   ·cases h
   ·rename_i h3
    refine ⟨⟨by simpa using h2,by omega,by omega,fun h0=>by rw [h0] at h3;simp at h3,by omega⟩,fun q hq=> ?_⟩
    subst hq
    simp only at h
    split at h
    ·cases h
    ·rename_i h4;simpa using h4
theorem facsGo_ok {langs:List Str}: ∀(l:List Fc) (p:Option Fc),facsGo langs p l=0→
  Inc l∧(∀x∈l,FcOk langs x)∧ ∀x∈l,∀q,p=some q→befB q.el q.lang x.el x.lang=true
 | [],_,_=>⟨trivial,by simp,by simp⟩
 | x::r,p,h=>by
  unfold facsGo at h
  split at h
  ·rename_i h0
   obtain ⟨hx,a8⟩:=facE_ok h0
   obtain ⟨i1,i2,i3⟩:=facsGo_ok r _ h
   refine ⟨⟨fun g hg=>befB_ne (i3 g hg x rfl),i1⟩,fun y hy=> ?_,fun y hy q hq=> ?_⟩
   ·rcases List.mem_cons.1 hy with rfl | hy
    ·exact hx
    ·exact i2 y hy
   ·rcases List.mem_cons.1 hy with rfl | hy
    ·exact a8 q hq
    ·exact befB_trans (a8 q hq) (i3 y hy x rfl)
  ·rename_i h0;exact absurd h h0
structure ShOk (langs:List Str) (s:Sh):Prop where
 u1:1≤s.unit
 u2:s.unit≤1073741824
 l1:1≤s.level
 l2:s.level≤4
 mark:s.mark.length≤64
 title:s.title≠ []
 tlen:s.title.length≤64
 flen:s.facts.length≤32
 inc:Inc s.facts
 facts: ∀f∈s.facts,FcOk langs f
theorem facsE_ok {langs:List Str} {l:List Fc} (h:facsE langs l=0):l.length≤32∧Inc l∧ ∀x∈l,FcOk langs x:=by
 unfold facsE at h
 split at h
 ·cases h
 ·obtain ⟨h1,h2,_⟩:=facsGo_ok l none h
  exact ⟨by omega,h1,h2⟩
theorem shE1_ok {pre:List Sh} {s:Sh} (h:shE1 pre s=0):1≤s.unit∧s.unit≤1073741824∧1≤s.level∧s.level≤4∧s.mark.length≤64∧s.title≠ []∧s.title.length≤64∧idxU pre s.unit=none:=by
 unfold shE1 at h
 split at h
 ·cases h
 ·split at h
  ·cases h
  ·rename_i h1
   split at h
   ·cases h
   ·rename_i h2
    refine ⟨by omega,by omega,by omega,by omega,by omega,fun h0=>by rw [h0] at h1;simp at h1,by omega,by simpa using h2⟩
theorem shsGoR_ok {langs:List Str} {l:List Sh}: ∀(r:List Sh) (i:Nat),l.drop i=r→shsGoR langs l i r=0→ ∀(k:Nat) (s:Sh),i≤k→l[k]?=some s→shErr langs l k s=0
 | [],i,hd,_,k,s,hk,hs=>by
  have:=(List.getElem?_eq_some_iff.1 hs).1
  have h0:=List.drop_eq_nil_iff.1 hd
  omega
 | x::r,i,hd,h,k,s,hk,hs=>by
  unfold shsGoR at h
  split at h
  ·rename_i h0
   by_cases hki:k=i
   ·subst hki
    have:l[k]?=some x:=by rw [←List.head?_drop,hd];rfl
    rw [this] at hs
    cases hs
    exact h0
   ·exact shsGoR_ok r (i+1) (by rw [←List.tail_drop,hd];rfl) h k s (by omega) hs
  ·rename_i h0;exact absurd h h0
theorem shsE_ok {langs:List Str} {l:List Sh} (h:shsE langs l=0):l.length≤256∧Valid l∧(∀s∈l,ShOk langs s)∧ ∀(k:Nat) (s:Sh),l[k]?=some s→(chain l k).length≤12:=by
 rw [shs_same] at h
 unfold shsR at h
 split at h
 ·cases h
 ·rename_i hlen
  have key:=shsGoR_ok l 0 rfl h
  have one: ∀(k:Nat) (s:Sh),l[k]?=some s→shE1 (l.take k) s=0∧ ∃n,placeR l k s=some n∧n<12∧facsE langs s.facts=0:=fun k s hs=>by
   have:=key k s (Nat.zero_le _) hs
   unfold shErr at this
   split at this
   ·rename_i h1
    refine ⟨h1,?_⟩
    split at this
    ·cases this
    ·rename_i n hn
     split at this
     ·cases this
     ·exact ⟨n,hn,by omega,this⟩
   ·rename_i h1;exact absurd this h1
  have hu:Uniq l:=fun i s hs=>(shE1_ok (one i s hs).1).2.2.2.2.2.2.2
  refine ⟨by omega,⟨hu,fun i s hs hp=> ?_,fun s hs=> ?_⟩,fun s hs=> ?_,fun k s hs=> ?_⟩
  ·obtain ⟨_,n,hn,_⟩:=one i s hs
   unfold placeR at hn
   rw [if_neg hp] at hn
   split at hn
   ·cases hn
   ·rename_i h0
    split at hn
    ·rename_i hc
     obtain ⟨j,t,h1,h2,h3⟩:=chain_units (i-1) s.par (by simpa using hc)
     exact ⟨j,by rw [←h3];exact take_idxU hu h2 (by omega)⟩
    ·cases hn
  ·obtain ⟨i,hi⟩:=List.mem_iff_getElem?.1 hs
   exact (shE1_ok (one i s hi).1).1
  ·obtain ⟨i,hi⟩:=List.mem_iff_getElem?.1 hs
   obtain ⟨h1,n,_,_,h4⟩:=one i s hi
   obtain ⟨b1,b2,b3,b4,b5,b6,b7,_⟩:=shE1_ok h1
   obtain ⟨f1,f2,f3⟩:=facsE_ok h4
   exact ⟨b1,b2,b3,b4,b5,b6,b7,f1,f2,f3⟩
  ·obtain ⟨_,n,hn,hn2,_⟩:=one k s hs
   rw [chain_some hs]
   unfold placeR at hn
   split
   ·simp
   ·rename_i hp
    rw [if_neg hp] at hn
    split at hn
    ·cases hn
    ·split at hn
     ·rename_i hc
      cases hn
      split
      ·rename_i j hj
       rw [hj] at hn2
       have hn3:(chain l j).length<12:=hn2
       simp only [List.length_cons]
       omega
      ·simp
     ·cases hn
structure CtOk (c:Ct):Prop where
 l1:1≤c.langs.length
 l2:c.langs.length≤8
 diff:Diff c.langs
 two: ∀s∈c.langs,twoB s=true
 blen:c.labs.length≤256
 binc:IncL c.labs
 labs: ∀x∈c.labs,LbOk c.langs x
 kinds: ∀x∈c.labs,∀y∈c.labs,x.el=y.el→x.ix=y.ix
 slen:c.shs.length≤256
 valid:Valid c.shs
 shs: ∀s∈c.shs,ShOk c.langs s
 deep: ∀(k:Nat) (s:Sh),c.shs[k]?=some s→(chain c.shs k).length≤12
theorem chkC_ok {c:Ct} (h:chkC c=0):CtOk c:=by
 unfold chkC at h
 split at h
 ·rename_i h1
  split at h
  ·rename_i h2
   unfold langsE at h1
   split at h1
   ·cases h1
   ·unfold labsE at h2
    split at h2
    ·cases h2
    ·obtain ⟨d1,d2,_⟩:=langsGo_ok _ _ h1
     obtain ⟨b1,b2,_,b4⟩:=labsGo_ok _ _ h2
     obtain ⟨s1,s2,s3,s4⟩:=shsE_ok h
     exact ⟨by omega,by omega,d1,d2,by omega,b1,b2,b4,s1,s2,s3,s4⟩
  ·rename_i h2;exact absurd h h2
 ·rename_i h1;exact absurd h h1
end Go.Proofs.YtfnkchadeaedlaaGreatDoor
namespace Go.Proofs.YtfnkchadeaedlaaGreatDoor
def numV (acc:Nat):Str→Option Nat
 | []=>some acc
 | c::r=>if 48≤c.toNat∧c.toNat≤57 then (if 1099511627775<acc*10+(c.toNat-48) then none else numV (acc*10+(c.toNat-48)) r) else none
def parse40 (s:Str):Option Nat:=if s= [] then none else numV 0 s
def pieceP (s:Str):Int×Int:=
 if Lib.indexByte s 93<2∨11<Lib.indexByte s 93∨s.getD 1 0=48 then (0,0) else
 match parse40 ((s.take (Lib.indexByte s 93).toNat).drop 1) with
 | some n=>if 1073741824<n then (0,0) else ((n:Int),Lib.indexByte s 93+1)
 | none=>(0,0)
def pcGo:Str→Nat→Nat→Option (Nat×Nat)
 | [],_,_=>none
 | c::r,n,k=>if 48≤c.toNat∧c.toNat≤57 then (if 1073741824<10*n+(c.toNat-48) then none else pcGo r (10*n+(c.toNat-48)) (k+1)) else if c=93 then some (n,k+1) else none
def pieceR (s:Str):Int×Int:=
 if s.length<3∨s.getD 0 0≠91∨ ¬ (49≤(s.getD 1 0).toNat∧(s.getD 1 0).toNat≤57) then (0,0) else
 match pcGo (s.drop 1) 0 1 with
 | some (n,k)=>((n:Int),(k:Int))
 | none=>(0,0)
theorem numV_le: ∀(u:Str) (n m:Nat),numV n u=some m→n*10^u.length≤m
 | [],n,m,h=>by cases h;simp
 | c::r,n,m,h=>by
  unfold numV at h
  split at h
  ·split at h
   ·cases h
   ·have:=numV_le r _ m h
    rw [List.length_cons,Nat.pow_succ]
    have h2:n*(10^r.length*10)=(n*10)*10^r.length:=by rw [Nat.mul_comm (10^r.length) 10,Nat.mul_assoc]
    rw [h2]
    exact Nat.le_trans (Nat.mul_le_mul_right _ (by omega)) this
  ·cases h
theorem numV_ge (u:Str) (n m:Nat) (h:numV n u=some m):n≤m:=by
 have:=numV_le u n m h
 exact Nat.le_trans (Nat.le_mul_of_pos_right n (Nat.pow_pos (by decide))) this
theorem pcGo_none: ∀(t:Str) (n k:Nat),(93:UInt8)∉t→pcGo t n k=none
 | [],_,_,_=>rfl
 | c::r,n,k,h=>by
  simp only [List.mem_cons,not_or] at h
  unfold pcGo
  split
  ·split
   ·rfl
   ·exact pcGo_none r _ _ h.2
  ·rw [if_neg (fun hc=>h.1 hc.symm)]
theorem pcGo_at: ∀(u v:Str) (n k:Nat),(93:UInt8)∉u→n≤1073741824→pcGo (u++93::v) n k=match numV n u with
  | some m=>if 1073741824<m then none else some (m,k+u.length+1)
  | none=>none
 | [],v,n,k,_,hn=>by
  simp only [List.nil_append,numV]
  unfold pcGo
  rw [if_neg (by decide),if_pos rfl,if_neg (by omega)]
  rfl
 | c::r,v,n,k,h,hn=>by
  simp only [List.mem_cons,not_or] at h
  rw [List.cons_append]
  unfold pcGo numV
  by_cases hd:48≤c.toNat∧c.toNat≤57
  ·rw [if_pos hd,if_pos hd,Nat.mul_comm 10 n]
   by_cases hb:1073741824<n*10+(c.toNat-48)
   ·rw [if_pos hb]
    split
    ·rename_i m hm
     split at hm
     ·cases hm
     ·have:=numV_ge _ _ _ hm
      rw [if_pos (by omega)]
    ·rfl
   ·rw [if_neg hb,if_neg (show¬ 1099511627775<n*10+(c.toNat-48) by omega),pcGo_at r v _ (k+1) h.2 (by omega)]
    simp only [List.length_cons]
    split
    ·split
     ·rfl
     ·congr 2;omega
    ·rfl
  ·rw [if_neg hd,if_neg hd,if_neg (fun hc=>h.1 hc.symm)]
theorem index_no: ∀(t:Str),(93:UInt8)∉t→Lib.indexByte t 93= -1
 | [],_=>rfl
 | c::r,h=>by
  simp only [List.mem_cons,not_or] at h
  have hc:(c==93)=false:=by simpa using fun h'=>h.1 h'.symm
  rw [Lib.indexByte,hc,index_no r h.2]
  rfl
theorem index_at: ∀(u v:Str),(93:UInt8)∉u→Lib.indexByte (u++93::v) 93=(u.length:Int)
 | [],v,_=>by simp [Lib.indexByte]
 | c::r,v,h=>by
  simp only [List.mem_cons,not_or] at h
  have hc:(c==93)=false:=by simpa using fun h'=>h.1 h'.symm
  rw [List.cons_append,Lib.indexByte,hc,index_at r v h.2]
  have:((r.length:Int)== -1)=false:=by simp
  rw [this]
  simp
theorem split_at: ∀(t:Str),(93:UInt8)∈t→ ∃u v,t=u++93::v∧(93:UInt8)∉u
 | c::r,h=>by
  by_cases hc:c=93
  ·exact ⟨[],r,by rw [hc];rfl,by simp⟩
  ·rcases List.mem_cons.1 h with h | h
   ·exact absurd h.symm hc
   ·obtain ⟨u,v,h1,h2⟩:=split_at r h
    exact ⟨c::u,v,by rw [h1];rfl,by simp only [List.mem_cons,not_or];exact ⟨fun h=>hc h.symm,h2⟩⟩
theorem piece_same (t:Str):pieceP (91::t)=pieceR (91::t):=by
 by_cases h:(93:UInt8)∈t
 ·obtain ⟨u,v,rfl,hu⟩:=split_at t h
  have hi:Lib.indexByte (91::(u++93::v)) 93=((u.length+1:Nat):Int):=by
   have:=index_at (91::u) v (by simp only [List.mem_cons,not_or];exact ⟨by decide,hu⟩)
   rw [List.cons_append] at this
   rw [this];rfl
  unfold pieceP pieceR
  rw [hi]
  cases u with
  | nil=>simp
  | cons c r=>
   have g1:(91::(c::r++93::v)).getD 1 0=c:=rfl
   have g0:(91::(c::r++93::v)).getD 0 0=91:=rfl
   rw [g1,g0]
   have htake:((91::(c::r++93::v)).take (((c::r).length+1:Nat):Int).toNat).drop 1=c::r:=by
    rw [Int.toNat_natCast,List.take_succ_cons,List.drop_succ_cons,List.drop_zero,List.take_left]
   rw [htake]
   have hgo:=pcGo_at (c::r) v 0 1 hu (by decide)
   have hdrop:(91::(c::r++93::v)).drop 1=c::r++93::v:=rfl
   rw [hdrop,hgo]
   have hlen: ¬ (91::(c::r++93::v)).length<3:=by simp;omega
   unfold parse40
   rw [if_neg (show¬ c::r= [] by simp)]
   by_cases hd:49≤c.toNat∧c.toNat≤57
   ·have hc48:c≠48:=fun h=>by subst h;exact absurd hd.1 (by decide)
    rw [if_neg (show¬ ((91::(c::r++93::v)).length<3∨(91:UInt8)≠91∨ ¬ (49≤c.toNat∧c.toNat≤57)) by
     simp only [not_or,Classical.not_not];exact ⟨hlen,trivial,hd⟩)]
    by_cases hl:r.length≤9
    ·rw [if_neg (show¬ ((((c::r).length+1:Nat):Int)<2∨11<(((c::r).length+1:Nat):Int)∨c=48) by
      simp only [List.length_cons,not_or];exact ⟨by omega,by omega,hc48⟩)]
     cases hn:numV 0 (c::r) with
     | none=>rfl
     | some m=>
      simp only
      by_cases hm:1073741824<m
      ·rw [if_pos hm,if_pos hm]
      ·rw [if_neg hm,if_neg hm]
       simp only [List.length_cons]
       congr 1
       omega
    ·rw [if_pos (show ((((c::r).length+1:Nat):Int)<2∨11<(((c::r).length+1:Nat):Int)∨c=48) by
      simp only [List.length_cons];right;left;omega)]
     cases hn:numV 0 (c::r) with
     | none=>rfl
     | some m=>
      have h1:=hn
      unfold numV at h1
      rw [if_pos (by omega),if_neg (by omega)] at h1
      have h2:=numV_le _ _ _ h1
      have h3:(10:Nat)^10≤10^r.length:=Nat.pow_le_pow_right (by decide) (by omega)
      have h4:1*10^r.length≤(0*10+(c.toNat-48))*10^r.length:=Nat.mul_le_mul_right _ (by omega)
      have h5:(10:Nat)^10=10000000000:=by decide
      simp only
      rw [if_pos (show 1073741824<m by omega)]
   ·rw [if_pos (show ((91::(c::r++93::v)).length<3∨(91:UInt8)≠91∨ ¬ (49≤c.toNat∧c.toNat≤57)) from Or.inr (Or.inr hd))]
    by_cases hb:(((c::r).length+1:Nat):Int)<2∨11<(((c::r).length+1:Nat):Int)∨c=48
    ·rw [if_pos hb]
    ·rw [if_neg hb]
     have hc: ¬ (48≤c.toNat∧c.toNat≤57):=fun h=>by
      have:c=48:=UInt8.toNat_inj.1 (by show c.toNat=48;have h6:=h.1;have h7:=h.2;omega)
      exact hb (.inr (.inr this))
     rw [numV,if_neg hc]
 ·have hi:Lib.indexByte (91::t) 93= -1:=index_no _ (by simp only [List.mem_cons,not_or];exact ⟨by decide,h⟩)
  unfold pieceP pieceR
  rw [hi,if_pos (.inl (by decide))]
  split
  ·rfl
  ·have:=pcGo_none t 0 1 h
   rw [List.drop_succ_cons,List.drop_zero,this]
def pieceD (s:Str):Int×Int:=if s.getD 0 0≠91 then (0,0) else pieceP s
theorem pieceD_same: ∀{s:Str},s≠ []→pieceD s=pieceR s
 | c::t,_=>by
  unfold pieceD
  by_cases h:c=91
  ·subst h
   rw [if_neg (by simp),piece_same]
  ·have h0:(c::t).getD 0 0≠91:=h
   rw [if_pos h0]
   unfold pieceR
   rw [if_pos (.inr (.inl h0))]
theorem pcGo_pos: ∀(t:Str) (n k a b:Nat),pcGo t n k=some (a,b)→n≤a∧k<b∧b≤k+t.length∧a≤1073741824∨(n≤a∧k<b∧b≤k+t.length∧a=n)
 | [],_,_,_,_,h=>by cases h
 | c::r,n,k,a,b,h=>by
  unfold pcGo at h
  split at h
  ·split at h
   ·cases h
   ·rename_i hb
    rcases pcGo_pos r _ _ a b h with h | h
    ·left;simp only [List.length_cons];omega
    ·left;simp only [List.length_cons];omega
  ·split at h
   ·cases h;right;exact ⟨Nat.le_refl _,Nat.lt_succ_self _,by simp only [List.length_cons];omega,rfl⟩
   ·cases h
theorem pieceR_pos (s:Str):pieceR s=(0,0)∨(1≤(pieceR s).1∧(pieceR s).1≤1073741824∧2≤(pieceR s).2∧(pieceR s).2≤s.length∧s.getD 0 0=91):=by
 unfold pieceR
 split
 ·exact .inl rfl
 ·rename_i h
  simp only [not_or,Classical.not_not] at h
  split
  ·rename_i n k hg
   right
   obtain ⟨h1,h2,h3⟩:=h
   match s,h1,h2,h3,hg with
   | a::c::r,h1,h2,h3,hg=>
    have g1:(a::c::r).getD 1 0=c:=rfl
    rw [g1] at h3
    have g2:(a::c::r).drop 1=c::r:=rfl
    rw [g2] at hg
    unfold pcGo at hg
    rw [if_pos (show 48≤c.toNat∧c.toNat≤57 by omega)] at hg
    split at hg
    ·cases hg
    ·have:=pcGo_pos _ _ _ _ _ hg
     simp only [List.length_cons]
     refine ⟨by omega,by omega,by omega,by omega,h2⟩
   | [a],h1,_,_,_=>exact absurd (by simp) h1
   | [],h1,_,_,_=>exact absurd (by simp) h1
  ·exact .inl rfl
end Go.Proofs.YtfnkchadeaedlaaGreatDoor
namespace Go.Proofs.YtfnkchadeaedlaaGreatDoor
def citeS (l:List Sh) (u:Int):Str:=
 match idxU l u with
 | none=> [63]
 | some i=>match l[i]? with
  | some s=>if s.mark= [] then s.title else s.mark++ [32]++s.title
  | none=> []
def expandS (cite:Int→Str) (s:Str):Str:=
 match s with
 | []=> []
 | c::r=>if h:(pieceR (c::r)).2=0 then c::expandS cite r else cite (pieceR (c::r)).1++expandS cite ((c::r).drop (pieceR (c::r)).2.toNat)
termination_by s.length
decreasing_by
 ·simp
 ·rcases pieceR_pos (c::r) with h' | h'
  ·exact absurd (by rw [h']) h
  ·simp only [List.length_drop,List.length_cons] at*;omega
theorem expandS_nil (cite:Int→Str):expandS cite []= []:=by rw [expandS]
theorem expandS_byte (cite:Int→Str) (c:UInt8) (r:Str) (h:(pieceR (c::r)).2=0):expandS cite (c::r)=c::expandS cite r:=by rw [expandS,dif_pos h]
theorem expandS_piece (cite:Int→Str) (s:Str) (h:(pieceR s).2≠0):expandS cite s=cite (pieceR s).1++expandS cite (s.drop (pieceR s).2.toNat):=by
 cases s with
 | nil=>exact absurd rfl h
 | cons c r=>rw [expandS,dif_neg h]
structure Nd where
 depth:Int
 tag:Str
 text:Str
structure Sec where
 unit:Int
 num:Str
 nodes:List Nd
def tagS (level:Int):Str:=if level=1 then [102,111,110,100,115] else if level=2 then [115,101,114,105,101,115] else if level=3 then [102,105,108,101] else [105,116,101,109]
def dots (s:Str):Nat:=s.count 46
def markN (d:Int) (s:Sh):List Nd:=if s.mark= [] then [] else [⟨d, [109,97,114,107],s.mark⟩]
def elemS (it:Int→Str) (el:Int):Str:= [101,108,101,109,101,110,116,32]++it el
def factN (it:Int→Str) (order:List Str) (c:Ct) (d:Int) (f:Fc):Nd:=⟨d, [112],nameP order c.labs f.el (elemS it f.el)++ [58,32]++expandS (citeS c.shs) f.text⟩
def secP (it:Int→Str) (order:List Str) (c:Ct) (x:Sh×Str):Sec:=
 ⟨x.1.unit,x.2,⟨dots x.2,tagS x.1.level,x.2++ [32]++x.1.title⟩::(markN (dots x.2+1) x.1++(chooseP order x.1.facts).map (factN it order c (dots x.2+1)))⟩
def aidP (it:Int→Str) (c:Ct) (root:Int) (lang:Str):List Sec:=(numRun it root ⟨[], []⟩ c.shs).map (secP it (preferP c.langs lang) c)
theorem numsR_mem {it:Int→Str} {l:List Sh} {root:Int}: ∀(r:List Sh) (i:Nat) (x:Sh×Str),x∈numsR it l root i r→x.1∈r
 | [],_,_,h=>by cases h
 | s::r,i,x,h=>by
  unfold numsR at h
  split at h
  ·rcases List.mem_cons.1 h with rfl | h
   ·simp
   ·simp [numsR_mem r _ x h]
  ·simp [numsR_mem r _ x h]
def foundP (u:Int):Str→List (Sh×Str)→Str
 | f, []=>f
 | f,x::r=>if x.1.unit=u then foundP u x.2 r else foundP u f r
def numberP (it:Int→Str) (c:Ct) (root u:Int):Str:=foundP u [] (numRun it root ⟨[], []⟩ c.shs)
def numberR (it:Int→Str) (c:Ct) (root u:Int):Str:=match idxU c.shs u with
 | some i=>if inB c.shs root i=true then numR it c.shs root i else []
 | none=> []
theorem foundP_no {u:Int}: ∀(r:List (Sh×Str)) (f:Str),(∀x∈r,x.1.unit≠u)→foundP u f r=f
 | [],_,_=>rfl
 | x::r,f,h=>by
  unfold foundP
  rw [if_neg (h x (by simp)),foundP_no r f (fun y hy=>h y (by simp [hy]))]
theorem found_go {it:Int→Str} {l:List Sh} (hu:Uniq l) (root u:Int): ∀(r:List Sh) (i:Nat) (f:Str),l.drop i=r→
  foundP u f (numsR it l root i r)=match idxU r u with
   | some j=>if inB l root (i+j)=true then numR it l root (i+j) else f
   | none=>f
 | [],_,_,_=>rfl
 | s::r,i,f,hd=>by
  have hs:l[i]?=some s:=by rw [←List.head?_drop,hd];rfl
  have hd':l.drop (i+1)=r:=by rw [←List.tail_drop,hd];rfl
  have hno: ∀x∈r,x.unit≠s.unit:=fun x hx hxu=>by
   obtain ⟨k,hk⟩:=List.mem_iff_getElem?.1 hx
   rw [←hd',List.getElem?_drop] at hk
   have:=uniq_same hu hk hs hxu
   omega
  unfold numsR
  by_cases h1:s.unit=u
  ·have hi:idxU (s::r) u=some 0:=by rw [idxU,if_pos h1]
   rw [hi]
   simp only [Nat.add_zero]
   by_cases h2:inB l root i=true
   ·rw [if_pos h2,if_pos h2,foundP,if_pos h1]
    refine foundP_no _ _ fun x hx=> ?_
    have:=hno _ (numsR_mem _ _ x hx)
    rw [←h1];exact this
   ·rw [if_neg h2,if_neg h2]
    refine foundP_no _ _ fun x hx=> ?_
    have:=hno _ (numsR_mem _ _ x hx)
    rw [←h1];exact this
  ·have hi:idxU (s::r) u=(idxU r u).map (· +1):=by rw [idxU,if_neg h1]
   have ih:=found_go (it:=it) hu root u r (i+1) f hd'
   rw [hi]
   have e:foundP u f (if inB l root i=true then (s,numR it l root i)::numsR it l root (i+1) r else numsR it l root (i+1) r)=foundP u f (numsR it l root (i+1) r):=by
    split
    ·rw [foundP,if_neg h1]
    ·rfl
   rw [e,ih]
   cases idxU r u with
   | none=>rfl
   | some j=>
    simp only [Option.map_some]
    rw [show i+1+j=i+(j+1) by omega]
theorem number_same {c:Ct} (h:CtOk c) (it:Int→Str) (root u:Int):numberP it c root u=numberR it c root u:=by
 unfold numberP numberR
 rw [numRun_eq it h.valid root,found_go h.valid.uniq root u c.shs 0 [] rfl]
 cases idxU c.shs u with
 | none=>rfl
 | some j=>simp only [Nat.zero_add]
theorem numR_ne {it:Int→Str} {l:List Sh} {root:Int} {i:Nat} {s:Sh} (h:l[i]?=some s):numR it l root i≠ []:=by
 rw [numR_some it h]
 split
 ·simp
 ·simp
end Go.Proofs.YtfnkchadeaedlaaGreatDoor
namespace Go.Proofs.YtfnkchadeaedlaaGreatDoor
def cutB:Str→Option (Str×Str)
 | []=>none
 | c::r=>if c=32 then some ([],r) else (cutB r).map fun p=>(c::p.1,p.2)
theorem cutB_app: ∀(a b:Str),(32:UInt8)∉a→cutB (a++32::b)=some (a,b)
 | [],b,_=>by simp [cutB]
 | c::r,b,h=>by
  simp only [List.mem_cons,not_or] at h
  rw [List.cons_append,cutB,if_neg (fun hc=>h.1 hc.symm),cutB_app r b h.2]
  rfl
theorem cutB_some: ∀{s a b:Str},cutB s=some (a,b)→s=a++32::b∧(32:UInt8)∉a
 | c::r,a,b,h=>by
  unfold cutB at h
  split at h
  ·rename_i hc
   cases h
   exact ⟨by rw [hc];rfl,by simp⟩
  ·rename_i hc
   cases hr:cutB r with
   | none=>rw [hr] at h;cases h
   | some p=>
    rw [hr] at h
    simp only [Option.map_some,Option.some.injEq,Prod.mk.injEq] at h
    obtain ⟨rfl,rfl⟩:=h
    obtain ⟨h1,h2⟩:=cutB_some (a:=p.1) (b:=p.2) hr
    exact ⟨by rw [h1];rfl,by simp only [List.mem_cons,not_or];exact ⟨fun h=>hc h.symm,h2⟩⟩
def numW (acc:Nat):Str→Option Nat
 | []=>some acc
 | c::r=>if 48≤c.toNat∧c.toNat≤57 then (if 65535<acc*10+(c.toNat-48) then none else numW (acc*10+(c.toNat-48)) r) else none
def parse16 (s:Str):Option Nat:=if s= [] then none else numW 0 s
def factP (unesc:Str→Option Str) (line:Str):Option (Nat×Str):=
 match cutB line with
 | some (num,rest)=>match parse16 num,unesc rest with
  | some n,some t=>if t= []∨num.getD 0 0=48∨64<n then none else some (n,t)
  | _,_=>none
 | none=>none
def dec2 (n:Nat):Str:=if n<10 then [UInt8.ofNat (48+n)] else [UInt8.ofNat (48+n / 10),UInt8.ofNat (48+n%10)]
theorem dec2_facts:((List.range 65).all fun n=>n==0 || (parse16 (dec2 n)==some n&&(!(dec2 n).contains 32&& !((dec2 n).getD 0 0==48))))=true:=by decide+kernel
theorem dec2_at {n:Nat} (h1:1≤n) (h2:n≤64):parse16 (dec2 n)=some n∧(32:UInt8)∉dec2 n∧(dec2 n).getD 0 0≠48:=by
 have:=List.all_eq_true.1 dec2_facts n (List.mem_range.2 (by omega))
 have h0:(n==0)=false:=by simp;omega
 simp only [h0,Bool.false_or,Bool.and_eq_true,beq_iff_eq,Bool.not_eq_true',List.contains_eq_mem,decide_eq_false_iff_not] at this
 exact ⟨this.1,this.2.1,by simpa using this.2.2⟩
theorem numW_ge: ∀(u:Str) (n m:Nat),numW n u=some m→n*10^u.length≤m
 | [],n,m,h=>by cases h;simp
 | c::r,n,m,h=>by
  unfold numW at h
  split at h
  ·split at h
   ·cases h
   ·have:=numW_ge r _ m h
    rw [List.length_cons,Nat.pow_succ]
    have h2:n*(10^r.length*10)=(n*10)*10^r.length:=by rw [Nat.mul_comm (10^r.length) 10,Nat.mul_assoc]
    rw [h2]
    exact Nat.le_trans (Nat.mul_le_mul_right _ (by omega)) this
  ·cases h
theorem dec2_of {s:Str} {n:Nat} (h:parse16 s=some n) (h0:s.getD 0 0≠48) (hn:n≤64):s=dec2 n∧1≤n:=by
 unfold parse16 at h
 split at h
 ·cases h
 ·rename_i hne
  match s,hne,h,h0 with
  | [c],_,h,h0=>
   unfold numW at h
   split at h
   ·rename_i hc
    split at h
    ·cases h
    ·simp only [numW,Option.some.injEq] at h
     have h0':c.toNat≠48:=fun hh=>h0 (UInt8.toNat_inj.1 (by show c.toNat=48;exact hh))
     refine ⟨?_,by omega⟩
     unfold dec2
     rw [if_pos (by omega)]
     congr 1
     apply UInt8.toNat_inj.1
     rw [UInt8.toNat_ofNat']
     omega
   ·cases h
  | [c,d],_,h,h0=>
   unfold numW at h
   split at h
   ·rename_i hc
    split at h
    ·cases h
    ·unfold numW at h
     split at h
     ·rename_i hd
      split at h
      ·cases h
      ·simp only [numW,Option.some.injEq] at h
       have h0':c.toNat≠48:=fun hh=>h0 (UInt8.toNat_inj.1 (by show c.toNat=48;exact hh))
       refine ⟨?_,by omega⟩
       unfold dec2
       rw [if_neg (by omega)]
       have e1:c=UInt8.ofNat (48+n / 10):=by
        apply UInt8.toNat_inj.1
        rw [UInt8.toNat_ofNat']
        omega
       have e2:d=UInt8.ofNat (48+n%10):=by
        apply UInt8.toNat_inj.1
        rw [UInt8.toNat_ofNat']
        omega
       rw [←e1,←e2]
     ·cases h
   ·cases h
  | c::d::e::r,_,h,h0=>
   exfalso
   unfold numW at h
   split at h
   ·rename_i hc
    split at h
    ·cases h
    ·have hg:=numW_ge _ _ _ h
     have h0':c.toNat≠48:=fun hh=>h0 (UInt8.toNat_inj.1 (by show c.toNat=48;exact hh))
     have hp:(10:Nat)^2≤10^(d::e::r).length:=Nat.pow_le_pow_right (by decide) (by simp)
     have hm:1*10^(d::e::r).length≤(0*10+(c.toNat-48))*10^(d::e::r).length:=Nat.mul_le_mul_right _ (by omega)
     omega
   ·cases h
end Go.Proofs.YtfnkchadeaedlaaGreatDoor
namespace Go.Proofs.YtfnkchadeaedlaaGreatDoor
set_option maxRecDepth 10000
set_option maxHeartbeats 4000000
def splitB (c:UInt8):List UInt8→List (List UInt8)
 | []=> [[]]
 | x::s=>if x=c then []::splitB c s else match splitB c s with
  | p::r=>(x::p)::r
  | []=> [[x]]
theorem splitB_ne (c:UInt8): ∀s,splitB c s≠ []
 | []=>by simp [splitB]
 | x::s=>by
  simp only [splitB]
  split
  ·simp
  ·split <;> simp
theorem splitB_no {c:UInt8}: ∀{s:List UInt8},c∉s→splitB c s= [s]
 | [],_=>rfl
 | x::s,h=>by
  simp only [List.mem_cons,not_or] at h
  simp only [splitB,if_neg (Ne.symm h.1),splitB_no h.2]
theorem splitB_app {c:UInt8}: ∀{a:List UInt8} (s:List UInt8),c∉a→splitB c (a++c::s)=a::splitB c s
 | [],s,_=>by simp [splitB]
 | x::a,s,h=>by
  simp only [List.mem_cons,not_or] at h
  simp only [List.cons_append,splitB,if_neg (Ne.symm h.1),splitB_app s h.2]
theorem splitB_count (c:UInt8): ∀s:List UInt8,(splitB c s).length=s.count c+1
 | []=>by simp [splitB]
 | x::s=>by
  have:=splitB_count c s
  simp only [splitB]
  split
  ·rename_i h;subst h;simp [this]
  ·rename_i h
   rw [List.count_cons_of_ne h]
   split
   ·rename_i h;rw [h] at this;simp at this⊢;omega
   ·rename_i h;exact absurd h (splitB_ne c s)
theorem splitB_lines {c:UInt8}: ∀(l:List (List UInt8)),(∀p∈l,c∉p)→splitB c (l.flatMap fun p=>p++ [c])=l++ [[]]
 | [],_=>rfl
 | p::r,hp=>by
  rw [List.flatMap_cons,List.append_assoc,List.singleton_append,splitB_app _ (hp p List.mem_cons_self),splitB_lines r (fun x hx=>hp x (List.mem_cons_of_mem _ hx))]
  rfl
end Go.Proofs.YtfnkchadeaedlaaGreatDoor
namespace Go.Proofs.YtfnkchadeaedlaaGreatDoor
theorem splitB_end: ∀(u:Str),splitB 10 (u++ [10])=splitB 10 u++ [[]]
 | []=>by simp [splitB]
 | x::s=>by
  rw [List.cons_append]
  unfold splitB
  rw [splitB_end s]
  split
  ·rfl
  ·cases hs:splitB 10 s with
   | nil=>exact absurd hs (splitB_ne 10 s)
   | cons p r=>rfl
def linesP (v:Str):Option (List Str):=if v.getLast?=some 10 then some (splitB 10 v.dropLast) else none
def tagN (n:Nat):Str:=if n=1 then [102,111,110,100,115] else if n=2 then [115,101,114,105,101,115] else if n=3 then [102,105,108,101] else [105,116,101,109]
def tagIx (w:Str):Nat:=if w=tagN 1 then 1 else if w=tagN 2 then 2 else if w=tagN 3 then 3 else if w=tagN 4 then 4 else 0
def headP (unesc:Str→Option Str) (l:Str):Option (Nat×Str):=
 match cutB l with
 | some (w,r)=>match unesc r with
  | some t=>if tagIx w=0∨t= [] then none else some (tagIx w,t)
  | none=>none
 | none=>none
theorem tagN_facts:(32:UInt8)∉tagN 1∧(32:UInt8)∉tagN 2∧(32:UInt8)∉tagN 3∧(32:UInt8)∉tagN 4:=by decide
def markS:Str:= [109,97,114,107]
def markP (unesc:Str→Option Str) (l:Str):Option Str:=
 match cutB l with
 | some (w,r)=>if w=markS then unesc r else none
 | none=>none
def factsP (unesc:Str→Option Str):Nat→List Str→Option (List (Nat×Str))
 | _, []=>some []
 | last,l::r=>match factP unesc l with
  | some (n,t)=>if n≤last then none else (factsP unesc n r).map ((n,t):: ·)
  | none=>none
structure Txt where
 level:Nat
 title:Str
 mark:Str
 facts:List (Nat×Str)
def sheetL (hd:Str→Option (Nat×Str)) (mk:Str→Option Str) (fs:List Str→Option (List (Nat×Str))):Option (List Str)→Option Txt
 | some (a::b::r)=>match hd a,mk b,fs r with
  | some (n,t),some m,some f=>some ⟨n,t,m,f⟩
  | _,_,_=>none
 | _=>none
def sheetP (unesc:Str→Option Str) (v:Str):Option Txt:=sheetL (headP unesc) (markP unesc) (factsP unesc 0) (linesP v)
end Go.Proofs.YtfnkchadeaedlaaGreatDoor
namespace Go.Proofs.YtfnkchadeaedlaaGreatDoor
theorem flat_end: ∀(l:List Str),l≠ []→ ∃u,(l.flatMap fun p=>p++ [(10:UInt8)])=u++ [10]
 | [p],_=>⟨p,by simp⟩
 | p::q::r,_=>by
  obtain ⟨u,hu⟩:=flat_end (q::r) (by simp)
  exact ⟨p++ [10]++u,by rw [List.flatMap_cons,hu];simp⟩
theorem linesP_flat {l:List Str} (hl:l≠ []) (h: ∀p∈l,(10:UInt8)∉p):linesP (l.flatMap fun p=>p++ [10])=some l:=by
 have h1:=splitB_lines l h
 obtain ⟨u,hu⟩:=flat_end l hl
 unfold linesP
 rw [hu] at h1⊢
 rw [splitB_end] at h1
 have h2:=List.append_cancel_right h1
 simp [h2]
section
variable (esc:Str→Str) (unesc:Str→Option Str)
def lineF (f:Nat×Str):Str:=dec2 f.1++32::esc f.2
def linesT (lev:Nat) (title mark:Str) (facts:List (Nat×Str)):List Str:=(tagN lev++32::esc title)::(markS++32::esc mark)::facts.map (lineF esc)
def textT (lev:Nat) (title mark:Str) (facts:List (Nat×Str)):Str:=(linesT esc lev title mark facts).flatMap fun p=>p++ [10]
def FOk:Nat→List (Nat×Str)→Prop
 | _, []=>True
 | last,f::r=>last<f.1∧f.1≤64∧f.2≠ []∧FOk f.1 r
variable {esc unesc} (h1: ∀s,unesc (esc s)=some s) (h2: ∀s,(10:UInt8)∉esc s)
include h1
theorem factP_line {n:Nat} {t:Str} (hn1:1≤n) (hn2:n≤64) (ht:t≠ []):factP unesc (lineF esc (n,t))=some (n,t):=by
 obtain ⟨d1,d2,d3⟩:=dec2_at hn1 hn2
 unfold factP lineF
 rw [cutB_app _ _ d2]
 simp only [d1,h1]
 rw [if_neg (by simp only [not_or];exact ⟨ht,d3,by omega⟩)]
theorem factsP_lines: ∀(l:List (Nat×Str)) (last:Nat),FOk last l→factsP unesc last (l.map (lineF esc))=some l
 | [],_,_=>rfl
 | (n,t)::r,last,h=>by
  obtain ⟨a1,a2,a3,a4⟩:=h
  simp only at a1 a2 a3 a4
  rw [List.map_cons,factsP,factP_line h1 (by omega) a2 a3]
  simp only
  rw [if_neg (by omega),factsP_lines r n a4]
  rfl
theorem headP_line {lev:Nat} (hl1:1≤lev) (hl2:lev≤4) {t:Str} (ht:t≠ []):headP unesc (tagN lev++32::esc t)=some (lev,t):=by
 obtain ⟨t1,t2,t3,t4⟩:=tagN_facts
 have hno:(32:UInt8)∉tagN lev∧tagIx (tagN lev)=lev:=by
  have:lev=1∨lev=2∨lev=3∨lev=4:=by omega
  rcases this with rfl | rfl | rfl | rfl
  ·exact ⟨t1,by decide⟩
  ·exact ⟨t2,by decide⟩
  ·exact ⟨t3,by decide⟩
  ·exact ⟨t4,by decide⟩
 unfold headP
 rw [cutB_app _ _ hno.1]
 simp only [h1,hno.2]
 rw [if_neg (by simp only [not_or];exact ⟨by omega,ht⟩)]
theorem markP_line (m:Str):markP unesc (markS++32::esc m)=some m:=by
 unfold markP
 rw [cutB_app _ _ (by decide)]
 simp only [if_true,h1]
include h2
theorem lines_no: ∀(lev:Nat) (title mark:Str) (facts:List (Nat×Str)),(∀f∈facts,1≤f.1∧f.1≤64)→ ∀p∈linesT esc lev title mark facts,(10:UInt8)∉p:=by
 intro lev title mark facts hf p hp
 have htag: ∀n,(10:UInt8)∉tagN n:=fun n=>by
  unfold tagN
  repeat' split
  all_goals decide
 have hmark:(10:UInt8)∉markS:=by decide
 have hdec:((List.range 65).all fun n=> !(dec2 n).contains 10)=true:=by decide+kernel
 unfold linesT at hp
 simp only [List.mem_cons,List.mem_map] at hp
 rcases hp with rfl | rfl | ⟨f,hfm,rfl⟩
 ·simp only [List.mem_append,List.mem_cons,not_or]
  exact ⟨htag lev,by decide,h2 title⟩
 ·simp only [List.mem_append,List.mem_cons,not_or]
  exact ⟨hmark,by decide,h2 mark⟩
 ·have:=List.all_eq_true.1 hdec f.1 (List.mem_range.2 (by have:=(hf f hfm).2;omega))
  unfold lineF
  simp only [List.mem_append,List.mem_cons,not_or]
  exact ⟨by simpa using this,by decide,h2 f.2⟩
theorem FOk_range: ∀(l:List (Nat×Str)) (last:Nat),FOk last l→ ∀f∈l,1≤f.1∧f.1≤64
 | [],_,_,f,hf=>by cases hf
 | g::r,last,h,f,hf=>by
  obtain ⟨a1,a2,a3,a4⟩:=h
  rcases List.mem_cons.1 hf with rfl | hf
  ·exact ⟨by omega,a2⟩
  ·exact FOk_range r _ a4 f hf
theorem sheetP_text {lev:Nat} (hl1:1≤lev) (hl2:lev≤4) {title mark:Str} (ht:title≠ []) {facts:List (Nat×Str)} (hf:FOk 0 facts):sheetP unesc (textT esc lev title mark facts)=some ⟨lev,title,mark,facts⟩:=by
 unfold sheetP textT
 rw [linesP_flat (by simp [linesT]) (lines_no h1 h2 lev title mark facts (FOk_range h1 h2 facts 0 hf))]
 unfold linesT sheetL
 simp only [headP_line h1 hl1 hl2 ht,markP_line h1,factsP_lines h1 facts 0 hf]
end
end Go.Proofs.YtfnkchadeaedlaaGreatDoor
namespace Go.Proofs.YtfnkchadeaedlaaGreatDoor
def IncE:Int→List Fc→Prop
 | _, []=>True
 | last,f::r=>last<f.el∧IncE f.el r
theorem chCur_inc (order:List Str): ∀(r:List Fc) (cur:Fc) (last:Int),last<cur.el→Inc (cur::r)→IncE last (chCur order cur r)
 | [],cur,last,h,_=>⟨h,trivial⟩
 | f::r,cur,last,h,hi=>by
  obtain ⟨h1,h2,h3⟩:=hi
  unfold chCur
  have hcf:=h1 f (by simp)
  by_cases hel:cur.el=f.el
  ·rw [if_neg (fun h:cur.el≠f.el=>h hel)]
   have ih: ∀c':Fc,c'=f∨c'=cur→IncE last (chCur order c' r):=fun c' hc'=>by
    refine chCur_inc order r c' last (by rcases hc' with rfl | rfl <;> omega) ⟨fun g hg=> ?_,h3⟩
    rcases hc' with rfl | rfl
    ·exact h2 g hg
    ·exact h1 g (by simp [hg])
   split
   ·exact ih f (.inl rfl)
   ·exact ih cur (.inr rfl)
  ·rw [if_pos (show cur.el≠f.el from hel)]
   refine ⟨h,chCur_inc order r f cur.el ?_ ⟨h2,h3⟩⟩
   rcases hcf with h | h
   ·exact h
   ·exact absurd h.1 hel
theorem chCur_mem (order:List Str): ∀(r:List Fc) (cur x:Fc),x∈chCur order cur r→x=cur∨x∈r
 | [],cur,x,h=>by simpa [chCur] using h
 | f::r,cur,x,h=>by
  unfold chCur at h
  split at h
  ·rcases List.mem_cons.1 h with h | h
   ·exact .inl h
   ·rcases chCur_mem order r f x h with h | h
    ·right;rw [h];simp
    ·right;simp [h]
  ·split at h
   ·rcases chCur_mem order r f x h with h | h
    ·right;rw [h];simp
    ·right;simp [h]
   ·rcases chCur_mem order r cur x h with h | h
    ·exact .inl h
    ·right;simp [h]
theorem chooseP_mem {order:List Str} {l:List Fc} {x:Fc} (h:x∈chooseP order l):x∈l:=by
 cases l with
 | nil=>simp [chooseP] at h
 | cons f r=>
  rcases chCur_mem order r f x h with h | h
  ·rw [h];simp
  ·simp [h]
theorem chooseP_inc {order:List Str} {l:List Fc} (hl:Inc l) (hp: ∀f∈l,1≤f.el):IncE 0 (chooseP order l):=by
 cases l with
 | nil=>trivial
 | cons f r=>exact chCur_inc order r f 0 (by have:=hp f (by simp);omega) hl
def citeCells (text:Str):List Cell:=(List.range text.length).filterMap fun i=>if (pieceR (text.drop i)).2=0 then none else some (4,(pieceR (text.drop i)).1)
def factCells (f:Fc):List Cell:=(3,f.el)::citeCells f.text
def cellsOf (u:Int) (facts:List Fc):List Cell:=(facts.flatMap factCells).foldl addC [(1,u),(2,u)]
theorem cellsOf_inc (u:Int) (facts:List Fc):IncC (cellsOf u facts):=foldA_inc _ _ ⟨by simp [befC],by simp,trivial⟩
theorem cellsOf_mem {u:Int} {facts:List Fc} {z:Cell}:z∈cellsOf u facts↔z∈facts.flatMap factCells∨z=(1,u)∨z=(2,u):=by
 unfold cellsOf
 rw [foldA_mem]
 simp
def lookC (l:List (Cell×Str)) (c:Cell):Option Str:=(l.find? fun x=>decide (x.1=c)).map (·.2)
theorem lookC_map (val:Cell→Str): ∀(S:List Cell) (c:Cell),lookC (S.map fun x=>(x,val x)) c=if c∈S then some (val c) else none
 | [],c=>rfl
 | x::S,c=>by
  have ih:=lookC_map val S c
  unfold lookC at ih⊢
  rw [List.map_cons,List.find?_cons]
  by_cases h:x=c
  ·subst h;simp
  ·have hd:decide (x=c)=false:=by simpa using h
   simp only [hd]
   rw [ih]
   simp only [List.mem_cons]
   by_cases hm:c∈S
   ·rw [if_pos hm,if_pos (.inr hm)]
   ·rw [if_neg hm,if_neg (by rintro (h' | h');exact h h'.symm;exact hm h')]
def expandO (look:Int→Option Str) (s:Str):Option Str:=
 match s with
 | []=>some []
 | c::r=>if h:(pieceR (c::r)).2=0 then (expandO look r).map (c:: ·) else
  match look (pieceR (c::r)).1,expandO look ((c::r).drop (pieceR (c::r)).2.toNat) with
  | some a,some b=>some (a++b)
  | _,_=>none
termination_by s.length
decreasing_by
 ·simp
 ·rcases pieceR_pos (c::r) with h' | h'
  ·exact absurd (by rw [h']) h
  ·simp only [List.length_drop,List.length_cons] at*;omega
theorem expandO_is {look:Int→Option Str} {cite:Int→Str}: ∀(n:Nat) (s:Str),s.length≤n→(∀i,i<s.length→(pieceR (s.drop i)).2≠0→look (pieceR (s.drop i)).1=some (cite (pieceR (s.drop i)).1))→expandO look s=some (expandS cite s)
 | _, [],_,_=>by rw [expandO,expandS_nil]
 | 0,c::r,h,_=>by simp at h
 | n+1,c::r,h,hl=>by
  simp only [List.length_cons] at h
  by_cases hp:(pieceR (c::r)).2=0
  ·rw [expandO,dif_pos hp,expandS_byte cite c r hp,expandO_is n r (by omega) (fun i hi=>by
    have:=hl (i+1) (by simp;omega)
    simpa using this)]
   rfl
  ·have h0:=hl 0 (by simp) (by simpa using hp)
   simp only [List.drop_zero] at h0
   rw [expandO,dif_neg hp,expandS_piece cite _ hp,h0]
   have hlen:((c::r).drop (pieceR (c::r)).2.toNat).length≤n:=by
    rcases pieceR_pos (c::r) with h' | h'
    ·exact absurd (by rw [h']) hp
    ·simp only [List.length_drop,List.length_cons];omega
   rw [expandO_is n _ hlen (fun i hi hp'=>by
    rw [List.drop_drop] at hp'⊢
    refine hl _ ?_ hp'
    simp only [List.length_drop] at hi
    omega)]
def nodesO (l:List (Cell×Str)) (d:Int):List (Nat×Str)→Option (List Nd)
 | []=>some []
 | f::r=>match lookC l (3,(f.1:Int)),expandO (fun u=>lookC l (4,u)) f.2,nodesO l d r with
  | some lab,some t,some ns=>some (⟨d, [112],lab++ [58,32]++t⟩::ns)
  | _,_,_=>none
def markO (d:Int) (m:Str):List Nd:=if m= [] then [] else [⟨d, [109,97,114,107],m⟩]
def secO (unesc:Str→Option Str) (unit:Int) (l:List (Cell×Str)):Int×Option Sec:=
 if (lookC l (1,unit)).getD []= []∨(lookC l (2,unit)).getD []= [] then (7,none) else
 match sheetP unesc ((lookC l (2,unit)).getD []) with
 | none=>(3,none)
 | some x=>match nodesO l (dots ((lookC l (1,unit)).getD [])+1) x.facts with
  | none=>(7,none)
  | some ns=>(0,some ⟨unit,(lookC l (1,unit)).getD [],⟨dots ((lookC l (1,unit)).getD []),tagN x.level,(lookC l (1,unit)).getD []++ [32]++x.title⟩::(markO (dots ((lookC l (1,unit)).getD [])+1) x.mark++ns)⟩)
def pairF (f:Fc):Nat×Str:=(f.el.toNat,f.text)
def shText (esc:Str→Str) (order:List Str) (s:Sh):Str:=textT esc s.level.toNat s.title s.mark ((chooseP order s.facts).map pairF)
def valP (it:Int→Str) (esc:Str→Str) (c:Ct) (order:List Str) (root:Int) (x:Cell):Str:=
 if x.1=1 then numberP it c root x.2 else if x.1=2 then (match idxU c.shs x.2 with
  | some i=>match c.shs[i]? with
   | some s=>shText esc order s
   | none=> []
  | none=> []) else if x.1=3 then nameP order c.labs x.2 (elemS it x.2) else if x.1=4 then citeS c.shs x.2 else []
theorem pairF_ok: ∀(l:List Fc) (last:Int),0≤last→IncE last l→(∀f∈l,f.el≤64∧f.text≠ [])→FOk last.toNat (l.map pairF)
 | [],_,_,_,_=>trivial
 | f::r,last,h0,h,hf=>by
  obtain ⟨h1,h2⟩:=h
  have:=hf f (by simp)
  refine ⟨?_,?_,this.2,pairF_ok r f.el (by omega) h2 (fun g hg=>hf g (by simp [hg]))⟩
  ·simp only [pairF];omega
  ·simp only [pairF];omega
theorem tag_same {lev:Int} (h1:1≤lev) (h2:lev≤4):tagN lev.toNat=tagS lev:=by
 have:lev=1∨lev=2∨lev=3∨lev=4:=by omega
 rcases this with rfl | rfl | rfl | rfl <;> decide
theorem numsR_get {it:Int→Str} {l:List Sh} {root:Int}: ∀(r:List Sh) (i:Nat) (x:Sh×Str),l.drop i=r→x∈numsR it l root i r→ ∃k,l[k]?=some x.1∧inB l root k=true∧x.2=numR it l root k
 | [],_,_,_,h=>by cases h
 | s::r,i,x,hd,h=>by
  have hs:l[i]?=some s:=by rw [←List.head?_drop,hd];rfl
  have hd':l.drop (i+1)=r:=by rw [←List.tail_drop,hd];rfl
  unfold numsR at h
  split at h
  ·rename_i hb
   rcases List.mem_cons.1 h with h | h
   ·rw [h];exact ⟨i,hs,hb,rfl⟩
   ·exact numsR_get r (i+1) x hd' h
  ·exact numsR_get r (i+1) x hd' h
theorem nodesO_is {it:Int→Str} {esc:Str→Str} {c:Ct} {order:List Str} {root:Int} {S:List Cell} (d:Int): ∀(l:List Fc),(∀f∈l,1≤f.el)→(∀f∈l,∀z∈factCells f,z∈S)→
  nodesO (S.map fun x=>(x,valP it esc c order root x)) d (l.map pairF)=some (l.map (factN it order c d))
 | [],_,_=>rfl
 | f::r,hp,hS=>by
  have hel:((pairF f).1:Int)=f.el:=by have:=hp f (by simp);simp only [pairF];omega
  have h3:lookC (S.map fun x=>(x,valP it esc c order root x)) (3,((pairF f).1:Int))=some (nameP order c.labs f.el (elemS it f.el)):=by
   rw [hel,lookC_map,if_pos (hS f (by simp) _ (by simp [factCells]))]
   simp [valP]
  have h4:expandO (fun u=>lookC (S.map fun x=>(x,valP it esc c order root x)) (4,u)) (pairF f).2=some (expandS (citeS c.shs) f.text):=by
   refine expandO_is f.text.length f.text (Nat.le_refl _) fun i hi hne=> ?_
   rw [lookC_map,if_pos]
   ·simp [valP]
   ·refine hS f (by simp) _ ?_
    unfold factCells citeCells
    rw [List.mem_cons]
    right
    rw [List.mem_filterMap]
    exact ⟨i,List.mem_range.2 hi,by rw [if_neg hne]⟩
  rw [List.map_cons,nodesO,h3,h4,nodesO_is d r (fun g hg=>hp g (by simp [hg])) (fun g hg=>hS g (by simp [hg]))]
  rfl
theorem enough {it:Int→Str} {esc:Str→Str} {unesc:Str→Option Str} (h1: ∀s,unesc (esc s)=some s) (h2: ∀s,(10:UInt8)∉esc s) {c:Ct} (hc:CtOk c) (order:List Str) (root:Int) {x:Sh×Str} (hx:x∈numRun it root ⟨[], []⟩ c.shs):
  secO unesc x.1.unit ((cellsOf x.1.unit (chooseP order x.1.facts)).map fun z=>(z,valP it esc c order root z))=(0,some (secP it order c x)):=by
 rw [numRun_eq it hc.valid root] at hx
 obtain ⟨k,hk,hin,hnum⟩:=numsR_get c.shs 0 x rfl hx
 have hidx:idxU c.shs x.1.unit=some k:=idxU_uniq hk (hc.valid.uniq k x.1 hk)
 have hs:=hc.shs x.1 (List.mem_of_getElem? hk)
 have hn:numberP it c root x.1.unit=x.2:=by
  rw [number_same hc,numberR,hidx]
  simp only
  rw [if_pos hin,hnum]
 have hne:x.2≠ []:=by rw [hnum];exact numR_ne hk
 have l1:lookC ((cellsOf x.1.unit (chooseP order x.1.facts)).map fun z=>(z,valP it esc c order root z)) (1,x.1.unit)=some x.2:=by
  rw [lookC_map,if_pos (cellsOf_mem.2 (.inr (.inl rfl)))]
  simp [valP,hn]
 have l2:lookC ((cellsOf x.1.unit (chooseP order x.1.facts)).map fun z=>(z,valP it esc c order root z)) (2,x.1.unit)=some (shText esc order x.1):=by
  rw [lookC_map,if_pos (cellsOf_mem.2 (.inr (.inr rfl)))]
  simp [valP,hidx,hk]
 have hfo:FOk 0 ((chooseP order x.1.facts).map pairF):=pairF_ok _ 0 (Int.le_refl _) (chooseP_inc hs.inc (fun f hf=>(hs.facts f hf).el1)) (fun f hf=>⟨(hs.facts f (chooseP_mem hf)).el2,(hs.facts f (chooseP_mem hf)).text⟩)
 have l3:sheetP unesc (shText esc order x.1)=some ⟨x.1.level.toNat,x.1.title,x.1.mark,(chooseP order x.1.facts).map pairF⟩:=by
  have:=hs.l1;have:=hs.l2
  exact sheetP_text h1 h2 (by omega) (by omega) hs.title hfo
 have l4:shText esc order x.1≠ []:=by
  unfold shText textT linesT
  simp
 unfold secO
 rw [l1,l2]
 simp only [Option.getD_some]
 rw [if_neg (by simp only [not_or];exact ⟨hne,l4⟩),l3]
 simp only
 rw [nodesO_is _ _ (fun f hf=>(hs.facts f (chooseP_mem hf)).el1) (fun f hf z hz=>cellsOf_mem.2 (.inl (List.mem_flatMap.2 ⟨f,hf,hz⟩)))]
 simp only
 rw [tag_same hs.l1 hs.l2]
 rfl
end Go.Proofs.YtfnkchadeaedlaaGreatDoor
namespace Go.Proofs.YtfnkchadeaedlaaGreatDoor
theorem numsR_mem_of {it:Int→Str} {l:List Sh} {root:Int}: ∀(r:List Sh) (i:Nat),l.drop i=r→ ∀(k:Nat) (s:Sh),i≤k→l[k]?=some s→inB l root k=true→(s,numR it l root k)∈numsR it l root i r
 | [],i,hd,k,s,hk,hs,_=>by
  have:=(List.getElem?_eq_some_iff.1 hs).1
  have h0:=List.drop_eq_nil_iff.1 hd
  omega
 | x::r,i,hd,k,s,hk,hs,hb=>by
  have hx:l[i]?=some x:=by rw [←List.head?_drop,hd];rfl
  have hd':l.drop (i+1)=r:=by rw [←List.tail_drop,hd];rfl
  unfold numsR
  by_cases hki:k=i
  ·subst hki
   rw [hx] at hs
   cases hs
   rw [if_pos hb]
   simp
  ·have ih:=numsR_mem_of (it:=it) r (i+1) hd' k s (by omega) hs hb
   split
   ·exact List.mem_cons_of_mem _ ih
   ·exact ih
theorem numberP_some {it:Int→Str} {c:Ct} (hc:CtOk c) {root u:Int} (h:numberP it c root u≠ []): ∃y∈numRun it root ⟨[], []⟩ c.shs,y.1.unit=u∧y.2=numberP it c root u:=by
 rw [number_same hc] at h⊢
 rw [numRun_eq it hc.valid root]
 unfold numberR at h⊢
 cases hi:idxU c.shs u with
 | none=>rw [hi] at h;exact absurd rfl h
 | some k=>
  rw [hi] at h
  simp only at h⊢
  by_cases hb:inB c.shs root k=true
  ·obtain ⟨s,hs,hu⟩:=idxU_get hi
   exact ⟨(s,numR it c.shs root k),numsR_mem_of c.shs 0 rfl k s (Nat.zero_le _) hs hb,hu,by rw [if_pos hb]⟩
  ·rw [if_neg hb] at h
   exact absurd rfl h
theorem number_of_mem {it:Int→Str} {c:Ct} (hc:CtOk c) {root:Int} {x:Sh×Str} (hx:x∈numRun it root ⟨[], []⟩ c.shs):numberP it c root x.1.unit=x.2∧x.2≠ []∧x.1∈c.shs∧ ∃k,c.shs[k]?=some x.1∧idxU c.shs x.1.unit=some k:=by
 rw [numRun_eq it hc.valid root] at hx
 obtain ⟨k,hk,hin,hnum⟩:=numsR_get c.shs 0 x rfl hx
 have hidx:idxU c.shs x.1.unit=some k:=idxU_uniq hk (hc.valid.uniq k x.1 hk)
 refine ⟨?_,by rw [hnum];exact numR_ne hk,List.mem_of_getElem? hk,k,hk,hidx⟩
 rw [number_same hc,numberR,hidx]
 simp only
 rw [if_pos hin,hnum]
theorem map_val_congr {S:List Cell} {f g:Cell→Str} (h: ∀z∈S,f z=g z):(S.map fun z=>(z,f z))=S.map fun z=>(z,g z):=
 List.map_congr_left fun z hz=>by rw [h z hz]
end Go.Proofs.YtfnkchadeaedlaaGreatDoor
namespace Go.Proofs.YtfnkchadeaedlaaGreatDoor
theorem nameP_ne {order:List Str} {labs:List Lb} {langs:List Str} (h: ∀x∈labs,LbOk langs x) (el:Int) {d:Str} (hd:d≠ []):nameP order labs el d≠ []:=by
 unfold nameP
 rcases nameGo_is order el labs d order.length with ⟨h1,_⟩ | ⟨f,hf,_,h1,_⟩
 ·rw [h1];exact hd
 ·rw [h1];exact (h f hf).text
theorem citeS_ne {c:Ct} (hc:CtOk c) (u:Int):citeS c.shs u≠ []:=by
 unfold citeS
 cases hi:idxU c.shs u with
 | none=>simp
 | some i=>
  obtain ⟨s,hs,_⟩:=idxU_get hi
  simp only [hs]
  split
  ·exact (hc.shs s (List.mem_of_getElem? hs)).title
  ·simp
theorem shText_ne (esc:Str→Str) (order:List Str) (s:Sh):shText esc order s≠ []:=by
 unfold shText textT linesT
 simp
theorem cellsOf_kinds {u:Int} {facts:List Fc} {z:Cell} (h:z∈cellsOf u facts):z=(1,u)∨z=(2,u)∨(∃f∈facts,z=(3,f.el))∨ ∃v,z=(4,v):=by
 rcases cellsOf_mem.1 h with h | h | h
 ·obtain ⟨f,hf,hz⟩:=List.mem_flatMap.1 h
  unfold factCells at hz
  rcases List.mem_cons.1 hz with hz | hz
  ·exact .inr (.inr (.inl ⟨f,hf,hz⟩))
  ·unfold citeCells at hz
   obtain ⟨i,_,hi⟩:=List.mem_filterMap.1 hz
   split at hi
   ·cases hi
   ·cases hi;exact .inr (.inr (.inr ⟨_,rfl⟩))
 ·exact .inl h
 ·exact .inr (.inl h)
theorem valP_ne {it:Int→Str} {esc:Str→Str} {c:Ct} (hc:CtOk c) (order:List Str) (root:Int) {x:Sh×Str} (hx:x∈numRun it root ⟨[], []⟩ c.shs) {z:Cell} (hz:z∈cellsOf x.1.unit (chooseP order x.1.facts)):valP it esc c order root z≠ []:=by
 obtain ⟨n1,n2,n3,k,n4,n5⟩:=number_of_mem hc hx
 rcases cellsOf_kinds hz with rfl | rfl | ⟨f,_,rfl⟩ | ⟨v,rfl⟩
 ·simp only [valP,if_true,n1];exact n2
 ·simp only [valP,show¬ (2:Int)=1 by decide,if_false,if_true,n5,n4]
  exact shText_ne esc order x.1
 ·simp only [valP,show¬ (3:Int)=1 by decide,show¬ (3:Int)=2 by decide,if_false,if_true]
  exact nameP_ne hc.labs _ (by simp [elemS])
 ·simp only [valP,show¬ (4:Int)=1 by decide,show¬ (4:Int)=2 by decide,show¬ (4:Int)=3 by decide,if_false,if_true]
  exact citeS_ne hc v
def valV (it:Int→Str) (esc:Str→Str) (c:Ct) (order:List Str) (root:Int) (x:Cell):Str:=
 if x.1=3∧(x.2<1∨64<x.2) then [] else valP it esc c order root x
theorem valV_cells {it:Int→Str} {esc:Str→Str} {c:Ct} (hc:CtOk c) (order:List Str) (root:Int) {s:Sh} (hs:s∈c.shs) {z:Cell} (hz:z∈cellsOf s.unit (chooseP order s.facts)):valV it esc c order root z=valP it esc c order root z:=by
 unfold valV
 rw [if_neg]
 rintro ⟨h1,h2⟩
 rcases cellsOf_kinds hz with rfl | rfl | ⟨f,hf,rfl⟩ | ⟨v,rfl⟩
 ·exact absurd (show (1:Int)=3 from h1) (by decide)
 ·exact absurd (show (2:Int)=3 from h1) (by decide)
 ·have:=((hc.shs s hs).facts f (chooseP_mem hf)).el1
  have:=((hc.shs s hs).facts f (chooseP_mem hf)).el2
  simp only at h2
  omega
 ·exact absurd (show (4:Int)=3 from h1) (by decide)
def staleB (val:Cell→Str) (l:List (Cell×Str)):Bool:=l.any fun r=>decide (val r.1≠r.2)
def differL (f g:Cell→Str) (l:List Cell):List Cell:=l.filter fun x=>decide (f x≠g x)
end Go.Proofs.YtfnkchadeaedlaaGreatDoor
namespace Go.Proofs.YtfnkchadeaedlaaGreatDoor
def expandF (look:Int→Option Str) (s:Str):Str×Bool:=
 match s with
 | []=>([],false)
 | c::r=>if h:(pieceR (c::r)).2=0 then (c::(expandF look r).1,(expandF look r).2) else
  match look (pieceR (c::r)).1 with
  | some a=>(a++(expandF look ((c::r).drop (pieceR (c::r)).2.toNat)).1,(expandF look ((c::r).drop (pieceR (c::r)).2.toNat)).2)
  | none=>((expandF look ((c::r).drop (pieceR (c::r)).2.toNat)).1,true)
termination_by s.length
decreasing_by
 all_goals first
  | (simp;done)
  | (rcases pieceR_pos (c :: r) with h' | h'
     ·exact absurd (by rw [h']) h
     ·simp only [List.length_drop, List.length_cons] at *; omega)
theorem expandF_nil (look:Int→Option Str):expandF look []=([],false):=by rw [expandF]
theorem expandF_byte (look:Int→Option Str) (c:UInt8) (r:Str) (h:(pieceR (c::r)).2=0):expandF look (c::r)=(c::(expandF look r).1,(expandF look r).2):=by rw [expandF,dif_pos h]
theorem expandF_piece (look:Int→Option Str) (s:Str) (h:(pieceR s).2≠0):expandF look s=(match look (pieceR s).1 with
  | some a=>(a++(expandF look (s.drop (pieceR s).2.toNat)).1,(expandF look (s.drop (pieceR s).2.toNat)).2)
  | none=>((expandF look (s.drop (pieceR s).2.toNat)).1,true)):=by
 cases s with
 | nil=>exact absurd rfl h
 | cons c r=>rw [expandF,dif_neg h]
theorem expandO_nil (look:Int→Option Str):expandO look []=some []:=by rw [expandO]
theorem expandO_byte (look:Int→Option Str) (c:UInt8) (r:Str) (h:(pieceR (c::r)).2=0):expandO look (c::r)=(expandO look r).map (c:: ·):=by rw [expandO,dif_pos h]
theorem expandO_piece (look:Int→Option Str) (s:Str) (h:(pieceR s).2≠0):expandO look s=(match look (pieceR s).1,expandO look (s.drop (pieceR s).2.toNat) with
  | some a,some b=>some (a++b)
  | _,_=>none):=by
 cases s with
 | nil=>exact absurd rfl h
 | cons c r=>
  rw [expandO,dif_neg h]
  first | done | (cases look (pieceR (c::r)).1 <;> cases expandO look ((c::r).drop (pieceR (c::r)).2.toNat) <;> rfl)
theorem expandF_O (look:Int→Option Str): ∀(n:Nat) (s:Str),s.length≤n→expandO look s=if (expandF look s).2=true then none else some (expandF look s).1
 | _, [],_=>by rw [expandO_nil,expandF_nil];rfl
 | 0,c::r,h=>by simp at h
 | n+1,c::r,h=>by
  simp only [List.length_cons] at h
  by_cases hp:(pieceR (c::r)).2=0
  ·rw [expandO_byte look c r hp,expandF_byte look c r hp,expandF_O look n r (by omega)]
   split <;> rfl
  ·have hlen:((c::r).drop (pieceR (c::r)).2.toNat).length≤n:=by
    rcases pieceR_pos (c::r) with h' | h'
    ·exact absurd (by rw [h']) hp
    ·simp only [List.length_drop,List.length_cons];omega
   rw [expandO_piece look _ hp,expandF_piece look _ hp,expandF_O look n _ hlen]
   cases look (pieceR (c::r)).1 with
   | none=>rfl
   | some a=>
    cases hb:(expandF look ((c::r).drop (pieceR (c::r)).2.toNat)).2 <;> simp
def nodesF (l:List (Cell×Str)) (d:Int):List (Nat×Str)→List Nd×Bool
 | []=>([],false)
 | f::r=>(⟨d, [112],(lookC l (3,(f.1:Int))).getD []++ [58,32]++(expandF (fun u=>lookC l (4,u)) f.2).1⟩::(nodesF l d r).1,
   (lookC l (3,(f.1:Int))).isNone || ((expandF (fun u=>lookC l (4,u)) f.2).2 || (nodesF l d r).2))
theorem nodesF_O (l:List (Cell×Str)) (d:Int): ∀fs:List (Nat×Str),nodesO l d fs=if (nodesF l d fs).2=true then none else some (nodesF l d fs).1
 | []=>rfl
 | f::r=>by
  rw [nodesO,nodesF,nodesF_O l d r,expandF_O _ f.2.length f.2 (Nat.le_refl _)]
  cases h3:lookC l (3,(f.1:Int)) with
  | none=>simp
  | some a=>
   simp only [Option.isNone_some,Bool.false_or,Option.getD_some]
   cases h4:(expandF (fun u=>lookC l (4,u)) f.2).2 with
   | true=>simp
   | false=>
    simp only [Bool.false_or,Bool.false_eq_true,if_false]
    cases h5:(nodesF l d r).2 with
    | true=>simp
    | false=>simp
theorem lookC_cons_ne {x:Cell×Str} {r:List (Cell×Str)} {c:Cell} (h:x.1≠c):lookC (x::r) c=lookC r c:=by
 unfold lookC
 rw [List.find?_cons]
 have:decide (x.1=c)=false:=by simpa using h
 simp only [this]
theorem lookC_cons_eq {x:Cell×Str} {r:List (Cell×Str)} {c:Cell} (h:x.1=c):lookC (x::r) c=some x.2:=by
 unfold lookC
 rw [List.find?_cons]
 have:decide (x.1=c)=true:=by simpa using h
 simp only [this]
 rfl
theorem lookC_none {c:Cell}: ∀{l:List (Cell×Str)},(∀x∈l,x.1≠c)→lookC l c=none
 | [],_=>rfl
 | x::r,h=>by rw [lookC_cons_ne (h x (by simp)),lookC_none (fun y hy=>h y (by simp [hy]))]
theorem look_at {c:Cell}: ∀(l:List (Cell×Str)) (i:Nat),IncC (l.map Prod.fst)→(∀j r,j<i→l[j]?=some r→befC r.1 c=true)→(∀j r,i≤j→l[j]?=some r→ ¬ befC r.1 c=true)→
  lookC l c=match l[i]? with
   | some r=>if r.1=c then some r.2 else none
   | none=>none
 | [],i,_,_,_=>by simp [lookC]
 | x::r,0,hi,_,h2=>by
  simp only [List.getElem?_cons_zero]
  by_cases h:x.1=c
  ·rw [if_pos h,lookC_cons_eq h]
  ·rw [if_neg h]
   have hc:=befC_total (h2 0 x (Nat.le_refl _) rfl) h
   refine lookC_none fun y hy=> ?_
   rcases List.mem_cons.1 hy with hy | hy
   ·rw [hy];exact h
   ·intro he
    have:=hi.1 y.1 (List.mem_map.2 ⟨y,hy,rfl⟩)
    rw [he] at this
    exact befC_irrefl _ (befC_trans this hc)
 | x::r,i+1,hi,h1,h2=>by
  have hx:=h1 0 x (by omega) rfl
  have hne:x.1≠c:=fun h=>by rw [h] at hx;exact befC_irrefl _ hx
  rw [lookC_cons_ne hne,List.getElem?_cons_succ]
  exact look_at r i hi.2 (fun j y hj hy=>h1 (j+1) y (by omega) (by simpa using hy)) (fun j y hj hy=>h2 (j+1) y (by omega) (by simpa using hy))
end Go.Proofs.YtfnkchadeaedlaaGreatDoor
namespace Go.Proofs.YtfnkchadeaedlaaGreatDoor
def rightB (c:Ct) (lang:Str):Bool:=decide (chkC c=0)&&hasS c.langs lang
def compE (c:Ct) (root:Int) (lang:Str):Int:=if chkC c≠0 then 1 else if hasS c.langs lang=false then 10 else if (idxU c.shs root).isSome=false then 7 else 0
theorem compE_ok {c:Ct} {root:Int} {lang:Str} (h:compE c root lang=0):chkC c=0∧hasS c.langs lang=true∧ ∃i,idxU c.shs root=some i:=by
 unfold compE at h
 split at h
 ·cases h
 ·split at h
  ·cases h
  ·split at h
   ·cases h
   ·rename_i h1 h2 h3
    refine ⟨by simpa using h1,by simpa using h2,?_⟩
    cases hi:idxU c.shs root with
    | none=>rw [hi] at h3;simp at h3
    | some i=>exact ⟨i,rfl⟩
theorem right_ok {c:Ct} {lang:Str} (h:rightB c lang=true):chkC c=0∧hasS c.langs lang=true:=by simpa [rightB] using h
theorem right_of {c:Ct} {lang:Str} (h1:chkC c=0) (h2:hasS c.langs lang=true):rightB c lang=true:=by simp [rightB,h1,h2]
def sheetU (c:Ct) (u:Int):Option Sh:=match idxU c.shs u with
 | some i=>c.shs[i]?
 | none=>none
theorem sheetU_some {c:Ct} {u:Int} {s:Sh} (h:sheetU c u=some s): ∃i,idxU c.shs u=some i∧c.shs[i]?=some s∧s.unit=u∧s∈c.shs:=by
 unfold sheetU at h
 cases hi:idxU c.shs u with
 | none=>rw [hi] at h;cases h
 | some i=>
  rw [hi] at h
  obtain ⟨t,h1,h2⟩:=idxU_get hi
  have h:c.shs[i]?=some s:=h
  rw [h1] at h;cases h
  exact ⟨i,rfl,h1,h2,List.mem_of_getElem? h1⟩
def factsU (c:Ct) (u:Int):List Fc:=match sheetU c u with
 | some s=>s.facts
 | none=> []
def chosenP (c:Ct) (u:Int) (lang:Str):List Fc:=if rightB c lang=true then chooseP (preferP c.langs lang) (factsU c u) else []
def txtI (it:Int→Str) (esc:Str→Str) (tag title mark:Str) (facts:List Fc):Str:=tag++ [32]++esc title++ [10]++(markS++ [32]++esc mark++ [10])++facts.flatMap fun f=>it f.el++ [32]++esc f.text++ [10]
theorem txt_lines (it:Int→Str) (esc:Str→Str) (hit: ∀n:Int,1≤n→n≤64→it n=dec2 n.toNat): ∀(l:List Fc),(∀f∈l,1≤f.el∧f.el≤64)→(l.flatMap fun f=>it f.el++ [32]++esc f.text++ [10])=((l.map pairF).map (lineF esc)).flatMap fun p=>p++ [10]
 | [],_=>rfl
 | f::r,h=>by
  obtain ⟨h1,h2⟩:=h f (by simp)
  rw [List.flatMap_cons,List.map_cons,List.map_cons,List.flatMap_cons,txt_lines it esc hit r (fun g hg=>h g (by simp [hg])),hit _ h1 h2]
  simp [lineF,pairF]
theorem txtI_is {it:Int→Str} {esc:Str→Str} (hit: ∀n:Int,1≤n→n≤64→it n=dec2 n.toNat) {lev:Int} (h1:1≤lev) (h2:lev≤4) (title mark:Str) {facts:List Fc} (hf: ∀f∈facts,1≤f.el∧f.el≤64):txtI it esc (tagS lev) title mark facts=textT esc lev.toNat title mark (facts.map pairF):=by
 unfold txtI textT linesT
 rw [txt_lines it esc hit facts hf,List.flatMap_cons,List.flatMap_cons,tag_same h1 h2]
 simp
def valQ (it:Int→Str) (esc:Str→Str) (c:Ct) (lang:Str) (root:Int) (x:Cell):Str:=if rightB c lang=true then valV it esc c (preferP c.langs lang) root x else []
def valI (it:Int→Str) (esc:Str→Str) (c:Ct) (lang:Str) (root:Int) (x:Cell):Str:=
 if x.1=1 then numberP it c root x.2 else if x.1=2 then (match sheetU c x.2 with
  | some s=>txtI it esc (tagS s.level) s.title s.mark (chooseP (preferP c.langs lang) s.facts)
  | none=> []) else if x.1=3 then (if x.2<1∨64<x.2 then [] else nameP (preferP c.langs lang) c.labs x.2 (elemS it x.2)) else if x.1=4 then citeS c.shs x.2 else []
theorem valI_is {it:Int→Str} {esc:Str→Str} (hit: ∀n:Int,1≤n→n≤64→it n=dec2 n.toNat) {c:Ct} (hc:CtOk c) (lang:Str) (root:Int) (x:Cell):valI it esc c lang root x=valV it esc c (preferP c.langs lang) root x:=by
 unfold valI valV valP
 by_cases h1:x.1=1
 ·simp [h1]
 by_cases h2:x.1=2
 ·simp only [h2,show¬ (2:Int)=1 by decide,show¬ (2:Int)=3 by decide,if_false,if_true,false_and]
  unfold sheetU
  cases hi:idxU c.shs x.2 with
  | none=>rfl
  | some i=>
   simp only
   cases hs:c.shs[i]? with
   | none=>rfl
   | some s=>
    have hm:=List.mem_of_getElem? hs
    have ho:=hc.shs s hm
    exact txtI_is hit ho.l1 ho.l2 _ _ (fun f hf=>⟨(ho.facts f (chooseP_mem hf)).el1,(ho.facts f (chooseP_mem hf)).el2⟩)
 by_cases h3:x.1=3
 ·simp only [h3,show¬ (3:Int)=1 by decide,show¬ (3:Int)=2 by decide,if_false,if_true,true_and]
 ·simp [h1,h2,h3]
def readsQ (it:Int→Str) (esc:Str→Str) (c:Ct) (root:Int) (lang:Str) (u:Int):List (Cell×Str)×Int:=
 if compE c root lang≠0 then ([],compE c root lang) else if numberP it c root u= [] then ([],7) else ((cellsOf u (chosenP c u lang)).map fun z=>(z,valQ it esc c lang root z),0)
end Go.Proofs.YtfnkchadeaedlaaGreatDoor
namespace Go.Proofs.YtfnkchadeaedlaaGreatDoor
variable {it:Int→Str} {esc:Str→Str} {unesc:Str→Option Str}
def adjB:List (Cell×Str)→Bool
 | []=>true
 | [_]=>true
 | a::b::r=>befC a.1 b.1&&adjB (b::r)
theorem adj_inc: ∀{l:List (Cell×Str)},adjB l=true→IncC (l.map Prod.fst)
 | [],_=>trivial
 | [a],_=>⟨by simp,trivial⟩
 | a::b::r,h=>by
  simp only [adjB,Bool.and_eq_true] at h
  have ih:=adj_inc h.2
  refine ⟨fun y hy=> ?_,ih⟩
  rcases List.mem_cons.1 hy with hy | hy
  ·rw [hy];exact h.1
  ·exact befC_trans h.1 (ih.1 y hy)
theorem inc_adj: ∀{l:List (Cell×Str)},IncC (l.map Prod.fst)→adjB l=true
 | [],_=>rfl
 | [a],_=>rfl
 | a::b::r,h=>by
  simp only [adjB,Bool.and_eq_true]
  exact ⟨h.1 b.1 (by simp),inc_adj h.2⟩
def sectQ (unesc:Str→Option Str) (unit:Int) (l:List (Cell×Str)):Int×Option Sec:=if adjB l=true then secO unesc unit l else (5,none)
theorem valQ_cells {c:Ct} {lang:Str} (h:rightB c lang=true) (root:Int) {s:Sh} (hs:s∈c.shs) {z:Cell} (hz:z∈cellsOf s.unit (chooseP (preferP c.langs lang) s.facts)):valQ it esc c lang root z=valP it esc c (preferP c.langs lang) root z:=by
 unfold valQ
 rw [if_pos h]
 exact valV_cells (chkC_ok (right_ok h).1) _ root hs hz
theorem comp_right {c:Ct} {root:Int} {lang:Str} (h:compE c root lang=0):rightB c lang=true:=by
 obtain ⟨h1,h2,_⟩:=compE_ok h
 exact right_of h1 h2
theorem chosen_of {c:Ct} {lang:Str} (h:rightB c lang=true) {s:Sh} {k:Nat} (hk:c.shs[k]?=some s) (hi:idxU c.shs s.unit=some k):chosenP c s.unit lang=chooseP (preferP c.langs lang) s.facts:=by
 unfold chosenP factsU sheetU
 rw [if_pos h,hi]
 simp only [hk]
theorem readsQ_of {c:Ct} {root:Int} {lang:Str} (h:compE c root lang=0) {x:Sh×Str} (hx:x∈numRun it root ⟨[], []⟩ c.shs):
  readsQ it esc c root lang x.1.unit=((cellsOf x.1.unit (chooseP (preferP c.langs lang) x.1.facts)).map fun z=>(z,valP it esc c (preferP c.langs lang) root z),0):=by
 have hr:=comp_right h
 have hc:=chkC_ok (right_ok hr).1
 obtain ⟨n1,n2,n3,k,n4,n5⟩:=number_of_mem hc hx
 unfold readsQ
 rw [if_neg (by simp [h]),if_neg (by rw [n1];exact n2),chosen_of hr n4 n5]
 congr 1
 exact map_val_congr fun z hz=>valQ_cells hr root n3 hz
theorem readsQ_ok {c:Ct} {root u:Int} {lang:Str} (h:(readsQ it esc c root lang u).2=0):compE c root lang=0∧ ∃x∈numRun it root ⟨[], []⟩ c.shs,x.1.unit=u:=by
 unfold readsQ at h
 split at h
 ·rename_i h0;exact absurd h h0
 ·rename_i h0
  have h0:compE c root lang=0:=by simpa using h0
  split at h
  ·cases h
  ·rename_i h1
   obtain ⟨y,hy,hyu,_⟩:=numberP_some (chkC_ok (right_ok (comp_right h0)).1) h1
   exact ⟨h0,y,hy,hyu⟩
theorem readsQ_err {c:Ct} {root u:Int} {lang:Str} (h:(readsQ it esc c root lang u).2≠0):(readsQ it esc c root lang u).1= []:=by
 unfold readsQ at h⊢
 split
 ·rfl
 ·split
  ·rfl
  ·rename_i h0 h1
   rw [if_neg h0,if_neg h1] at h
   exact absurd rfl h
theorem reads_adj (f:Cell→Str) (u:Int) (l:List Fc):adjB ((cellsOf u l).map fun z=>(z,f z))=true:=by
 refine inc_adj ?_
 rw [List.map_map]
 have:(Prod.fst∘fun z:Cell=>(z,f z))=id:=by funext z;rfl
 rw [this,List.map_id]
 exact cellsOf_inc u l
theorem enoughQ (h1: ∀s,unesc (esc s)=some s) (h2: ∀s,(10:UInt8)∉esc s) {c:Ct} {root:Int} {lang:Str} (h:compE c root lang=0) {x:Sh×Str} (hx:x∈numRun it root ⟨[], []⟩ c.shs):
  (readsQ it esc c root lang x.1.unit).2=0∧sectQ unesc x.1.unit (readsQ it esc c root lang x.1.unit).1=(0,some (secP it (preferP c.langs lang) c x)):=by
 rw [readsQ_of h hx]
 refine ⟨rfl,?_⟩
 unfold sectQ
 simp only
 rw [if_pos (reads_adj _ _ _)]
 exact enough h1 h2 (chkC_ok (right_ok (comp_right h)).1) _ root hx
theorem readsQ_form {c:Ct} {root u:Int} {lang:Str} (h:(readsQ it esc c root lang u).2=0): ∃S:List Cell,IncC S∧(1,u)∈S∧(2,u)∈S∧(readsQ it esc c root lang u).1=S.map (fun z=>(z,valQ it esc c lang root z))∧ ∀z∈S,valQ it esc c lang root z≠ []:=by
 obtain ⟨h0,x,hx,rfl⟩:=readsQ_ok h
 have hr:=comp_right h0
 have hc:=chkC_ok (right_ok hr).1
 obtain ⟨n1,n2,n3,k,n4,n5⟩:=number_of_mem hc hx
 refine ⟨cellsOf x.1.unit (chooseP (preferP c.langs lang) x.1.facts),cellsOf_inc _ _,cellsOf_mem.2 (.inr (.inl rfl)),cellsOf_mem.2 (.inr (.inr rfl)),?_,fun z hz=> ?_⟩
 ·rw [readsQ_of h0 hx]
  exact map_val_congr fun z hz=>(valQ_cells hr root n3 hz).symm
 ·rw [valQ_cells hr root n3 hz]
  exact valP_ne hc _ root hx hz
end Go.Proofs.YtfnkchadeaedlaaGreatDoor
namespace Go.Proofs.YtfnkchadeaedlaaGreatDoor
def Sh.nrm (s:Sh):Sh:=⟨s.unit,s.par,s.level,s.mark,s.title,s.facts,none,0⟩
def Ct.nrm (c:Ct):Ct:=⟨c.langs,c.labs,c.shs.map Sh.nrm,none,0,none,0,none,0⟩
def Ct.sim (a b:Ct):Prop:=a.nrm=b.nrm
theorem idxU_nrm: ∀(l:List Sh) (u:Int),idxU (l.map Sh.nrm) u=idxU l u
 | [],_=>rfl
 | s::r,u=>by simp only [List.map_cons,idxU,idxU_nrm r u];rfl
theorem shE1_nrm (pre:List Sh) (s:Sh):shE1 (pre.map Sh.nrm) s.nrm=shE1 pre s:=by
 unfold shE1
 rw [idxU_nrm];rfl
theorem shsGo_nrm (langs:List Str): ∀(l pre:List Sh) (path:List Int),shsGo langs (pre.map Sh.nrm) path (l.map Sh.nrm)=shsGo langs pre path l
 | [],_,_=>rfl
 | s::r,pre,path=>by
  have h1:(pre.map Sh.nrm)++ [s.nrm]=(pre++ [s]).map Sh.nrm:=by simp
  have h2:placeP path s.nrm=placeP path s:=rfl
  simp only [List.map_cons,shsGo,shE1_nrm,h2,h1,shsGo_nrm langs r]
  rfl
theorem chk_nrm (c:Ct):chkC c.nrm=chkC c:=by
 have h:shsE c.langs (c.shs.map Sh.nrm)=shsE c.langs c.shs:=by
  unfold shsE
  have:=shsGo_nrm c.langs c.shs [] []
  rw [List.length_map]
  rw [show ([]:List Sh).map Sh.nrm= [] from rfl] at this
  rw [this]
 unfold chkC
 show (if langsE c.langs=0 then (if labsE c.langs c.labs=0 then shsE c.langs (c.shs.map Sh.nrm) else _) else _)=_
 rw [h];rfl
theorem right_nrm (c:Ct) (lang:Str):rightB c.nrm lang=rightB c lang:=by
 unfold rightB
 rw [chk_nrm];rfl
theorem comp_nrm (c:Ct) (root:Int) (lang:Str):compE c.nrm root lang=compE c root lang:=by
 unfold compE
 rw [chk_nrm,show c.nrm.shs=c.shs.map Sh.nrm from rfl,idxU_nrm];rfl
theorem numRun_nrm (it:Int→Str) (root:Int): ∀(l:List Sh) (st:NS),numRun it root st (l.map Sh.nrm)=(numRun it root st l).map fun x=>(x.1.nrm,x.2)
 | [],_=>rfl
 | s::r,st=>by
  have h:numStep it root st s.nrm=numStep it root st s:=rfl
  simp only [List.map_cons,numRun,h]
  rw [show s.nrm.unit=s.unit from rfl]
  cases lookI (numStep it root st s).nums s.unit with
  | none=>exact numRun_nrm it root r _
  | some n=>simp only [List.map_cons];rw [numRun_nrm it root r]
theorem found_nrm (u:Int): ∀(l:List (Sh×Str)) (f:Str),foundP u f (l.map fun x=>(x.1.nrm,x.2))=foundP u f l
 | [],_=>rfl
 | x::r,f=>by
  simp only [List.map_cons,foundP,found_nrm u r];rfl
theorem number_nrm (it:Int→Str) (c:Ct) (root u:Int):numberP it c.nrm root u=numberP it c root u:=by
 unfold numberP
 rw [show c.nrm.shs=c.shs.map Sh.nrm from rfl,numRun_nrm,found_nrm]
theorem sheetU_nrm (c:Ct) (u:Int):sheetU c.nrm u=(sheetU c u).map Sh.nrm:=by
 unfold sheetU
 rw [show c.nrm.shs=c.shs.map Sh.nrm from rfl,idxU_nrm]
 cases idxU c.shs u with
 | none=>rfl
 | some i=>simp
theorem facts_nrm (c:Ct) (u:Int):factsU c.nrm u=factsU c u:=by
 unfold factsU
 rw [sheetU_nrm]
 cases sheetU c u <;> rfl
theorem chosen_nrm (c:Ct) (u:Int) (lang:Str):chosenP c.nrm u lang=chosenP c u lang:=by
 unfold chosenP
 rw [right_nrm,facts_nrm];rfl
theorem cite_nrm (c:Ct):citeS c.nrm.shs=citeS c.shs:=by
 funext u
 unfold citeS
 rw [show c.nrm.shs=c.shs.map Sh.nrm from rfl,idxU_nrm]
 cases idxU c.shs u with
 | none=>rfl
 | some i=>
  simp only [List.getElem?_map]
  cases c.shs[i]? <;> rfl
theorem valP_nrm (it:Int→Str) (esc:Str→Str) (c:Ct) (order:List Str) (root:Int) (x:Cell):valP it esc c.nrm order root x=valP it esc c order root x:=by
 unfold valP
 rw [number_nrm,cite_nrm,show c.nrm.shs=c.shs.map Sh.nrm from rfl,idxU_nrm]
 cases idxU c.shs x.2 with
 | none=>rfl
 | some i=>
  simp only [List.getElem?_map]
  cases c.shs[i]? <;> rfl
theorem valQ_nrm (it:Int→Str) (esc:Str→Str) (c:Ct) (lang:Str) (root:Int):valQ it esc c.nrm lang root=valQ it esc c lang root:=by
 funext x
 unfold valQ valV
 rw [right_nrm,valP_nrm];rfl
theorem reads_nrm (it:Int→Str) (esc:Str→Str) (c:Ct) (root:Int) (lang:Str) (u:Int):readsQ it esc c.nrm root lang u=readsQ it esc c root lang u:=by
 unfold readsQ
 rw [comp_nrm,number_nrm,chosen_nrm,valQ_nrm]
theorem fac_nrm (it:Int→Str) (order:List Str) (c:Ct) (d:Int):factN it order c.nrm d=factN it order c d:=by
 funext f
 unfold factN
 rw [cite_nrm];rfl
theorem sec_nrm (it:Int→Str) (order:List Str) (c:Ct) (x:Sh×Str):secP it order c.nrm (x.1.nrm,x.2)=secP it order c x:=by
 unfold secP
 rw [fac_nrm];rfl
theorem aid_nrm (it:Int→Str) (c:Ct) (root:Int) (lang:Str):aidP it c.nrm root lang=aidP it c root lang:=by
 unfold aidP
 rw [show c.nrm.shs=c.shs.map Sh.nrm from rfl,numRun_nrm,List.map_map]
 refine List.map_congr_left fun x _=> ?_
 exact sec_nrm it _ c x
section
variable {a b:Ct} (h:a.sim b)
include h
theorem Ct.sim.right (lang:Str):rightB a lang=rightB b lang:=by rw [←right_nrm a,←right_nrm b,h]
theorem Ct.sim.comp (root:Int) (lang:Str):compE a root lang=compE b root lang:=by rw [←comp_nrm a,←comp_nrm b,h]
theorem Ct.sim.reads (it:Int→Str) (esc:Str→Str) (root:Int) (lang:Str) (u:Int):readsQ it esc a root lang u=readsQ it esc b root lang u:=by rw [←reads_nrm it esc a,←reads_nrm it esc b,h]
theorem Ct.sim.aid (it:Int→Str) (root:Int) (lang:Str):aidP it a root lang=aidP it b root lang:=by rw [←aid_nrm it a,←aid_nrm it b,h]
end
end Go.Proofs.YtfnkchadeaedlaaGreatDoor
