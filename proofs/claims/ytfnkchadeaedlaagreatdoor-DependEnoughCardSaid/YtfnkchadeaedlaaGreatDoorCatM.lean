/-
 Catalogs as plain values: their faults, the way to a sheet, the numbers of sections: the program's way and the reference's are one. No program. Catalogs as plain values: preferences, chosen facts, labels: the program's way and the reference's are one. No program. What a catalog without a fault is. No program. The piece of a text with the number of a unit: the program's way and the reference's are one. No program. Citations, expanded texts, sections, the number of a unit's section, finding aids: in plain words, the program's way and the reference's are one. No program. The text of a unit, read by the program's way and by the reference's: the fact of a line. No program. Texts split at a byte. No program. The text of a unit, read by the program's way and by the reference's. No program. The text of a unit is read back. No program. The reads of a section, and the section from its reads: it is that of the finding aid. No program. Reads that are not stale: the other catalog's section is the same. No program. Values of the cells that a section reads are there; stale reads and differences. No program. The section from reads of any kind: the program notes that a read is missing and goes on, the reference stops. No program. What the functions of packages aid and depend answer, as plain functions; the reference's way is the program's. No program. The laws of package depend, as plain facts. No program. How a catalog's slices came in does not matter for any answer. No program.
-/
import Derived.Test.YtfnkchadeaedlaaGreatDoorStrM
set_option linter.all false
namespace Go.Proofs.YtfnkchadeaedlaaGreatDoor
def nT (e:Int) (s:ae) (f:Int) (t:ae):Bool:=decide (e<f∨e=f∧Lib.compareBytes s t<0)
structure Lb where
 el:Int
 lang:ae
 text:ae
 ix:Int
structure Fc where
 el:Int
 lang:ae
 text:ae
structure Sh where
 unit:Int
 par:Int
 level:Int
 mark:ae
 title:ae
 facts:List Fc
 fn:Option Bool
 fz:Nat
structure Ct where
 aa:List ae
 av:List Lb
 an:List Sh
 ln:Option Bool
 lz:Nat
 bn:Option Bool
 bz:Nat
 sn:Option Bool
 sz:Nat
def EU (s:ae):Bool:=decide (s.length=2)&&(decide (97≤(s.getD 0 0).toNat∧(s.getD 0 0).toNat≤122)&&decide (97≤(s.getD 1 0).toNat∧(s.getD 1 0).toNat≤122))
def fW (l:List ae) (s:ae):Bool:=l.any (s== ·)
def gu:List ae→List ae→Int
 | _, []=>0
 | pre,s::r=>if EU s=false then 4 else if fW pre s=true then 6 else gu (pre++ [s]) r
def oC (l:List ae):Int:=if l.length<1∨8<l.length then 2 else gu [] l
def x4 (aa:List ae) (p:Option Lb) (l:Lb):Int:=
 if l.el<1∨64<l.el∨l.ix<0∨3<l.ix then 2 else if fW aa l.lang=false then 7 else if l.text.length<1∨64<l.text.length then 4 else
 match p with
 | none=>0
 | some p=>if nT p.el p.lang l.el l.lang=false then 5 else if p.el=l.el∧p.ix≠l.ix then 10 else 0
def iM (aa:List ae):Option Lb→List Lb→Int
 | _, []=>0
 | p,l::r=>if x4 aa p l=0 then iM aa (some l) r else x4 aa p l
def tO (aa:List ae) (l:List Lb):Int:=if 256<l.length then 8 else iM aa none l
def zm (aa:List ae) (p:Option Fc) (f:Fc):Int:=
 if f.el<1∨64<f.el then 2 else if fW aa f.lang=false then 7 else if f.text.length<1∨4096<f.text.length then 4 else
 match p with
 | none=>0
 | some p=>if nT p.el p.lang f.el f.lang=false then 5 else 0
def iN (aa:List ae):Option Fc→List Fc→Int
 | _, []=>0
 | p,f::r=>if zm aa p f=0 then iN aa (some f) r else zm aa p f
def nZ (aa:List ae) (l:List Fc):Int:=if 32<l.length then 8 else iN aa none l
def aP:List Sh→Int→Option Nat
 | [],_=>none
 | s::r,u=>if s.unit=u then some 0 else (aP r u).map (· +1)
def oB:List Int→Int→Option Nat
 | [],_=>none
 | x::r,u=>if x=u then some 0 else (oB r u).map (· +1)
def cH (o:Option Nat):Int:=match o with | some n=>n | none=> -1
def kU (pre:List Sh) (s:Sh):Int:=
 if s.unit<1∨1073741824<s.unit∨s.level<1∨4<s.level then 2 else
 if 64<s.mark.length∨s.title.length<1∨64<s.title.length then 4 else if (aP pre s.unit).isSome=true then 6 else 0
def fF (path:List Int) (s:Sh):Option Nat:=if s.par=0 then some 0 else (oB path s.par).map (· +1)
def l5 (aa:List ae):List Sh→List Int→List Sh→Int
 | _,_, []=>0
 | pre,path,s::r=>if kU pre s=0 then
   (match fF path s with
   | none=>7
   | some k=>if 12≤k then 15 else if nZ aa s.facts=0 then l5 aa (pre++ [s]) (path.take k++ [s.unit]) r else nZ aa s.facts)
  else kU pre s
def tP (aa:List ae) (l:List Sh):Int:=if 256<l.length then 8 else l5 aa [] [] l
def fX (c:Ct):Int:=if oC c.aa=0 then (if tO c.aa c.av=0 then tP c.aa c.an else tO c.aa c.av) else oC c.aa
theorem ef: ∀{l:List Sh} {u:Int} {k:Nat},aP l u=some k→k<l.length
 | s::r,u,k,h=>by
  unfold aP at h;split at h
  ·cases h;simp
  ·cases hr:aP r u with
   | none=>rw [hr] at h;cases h
   | some j=>rw [hr] at h;simp only [Option.map_some,Option.some.injEq] at h;have:=ef hr;simp only [List.length_cons];omega
def chain (l:List Sh) (i:Nat):List Int:=
 match h:l[i]? with
 | none=> []
 | some s=>s.unit::(if s.par=0 then [] else
  match hj:aP (l.take i) s.par with
  | some j=>chain l j
  | none=> [])
termination_by i
decreasing_by
 have:=ef hj;simp only [List.length_take] at this;omega
def ke (l:List Sh) (i:Nat) (s:Sh):Option Nat:=
 if s.par=0 then some 0 else if i=0 then none else if (chain l (i-1)).contains s.par=true then
  some (match aP (l.take i) s.par with | some j=>(chain l j).length | none=>0) else none
def Bh (aa:List ae) (l:List Sh) (i:Nat) (s:Sh):Int:=
 if kU (l.take i) s=0 then
  (match ke l i s with
  | none=>7
  | some k=>if 12≤k then 15 else nZ aa s.facts)
 else kU (l.take i) s
def rM (aa:List ae) (l:List Sh):Nat→List Sh→Int
 | _, []=>0
 | i,s::r=>if Bh aa l i s=0 then rM aa l (i+1) r else Bh aa l i s
def Nu (aa:List ae) (l:List Sh):Int:=if 256<l.length then 8 else rM aa l 0 l
theorem dy {l:List Sh} {i:Nat} {s:Sh} (h:l[i]?=some s):chain l i=s.unit::(if s.par=0 then [] else match aP (l.take i) s.par with | some j=>chain l j | none=> []):=by
 rw [chain];split
 ·rename_i h';rw [h'] at h;cases h
 ·rename_i s' h';rw [h'] at h;cases h;congr 1;split
  ·rfl
  ·split
   ·rename_i h1;rw [h1]
   ·rename_i h1;rw [h1]
theorem ji: ∀{l:List Sh} {u:Int} {k:Nat},aP l u=some k→ ∃s,l[k]?=some s∧s.unit=u
 | s::r,u,k,h=>by
  unfold aP at h;split at h
  ·cases h;exact ⟨s,rfl,by assumption⟩
  ·cases hr:aP r u with
   | none=>rw [hr] at h;cases h
   | some j=>rw [hr] at h;simp only [Option.map_some,Option.some.injEq] at h;subst h;obtain ⟨x,h1,h2⟩:=ji hr;exact ⟨x,by simpa using h1,h2⟩
def ka (l:List Sh):Prop:= ∀(i:Nat) (s:Sh),l[i]?=some s→aP (l.take i) s.unit=none
theorem gn: ∀{l:List Sh} {j:Nat} {s:Sh},l[j]?=some s→aP (l.take j) s.unit=none→aP l s.unit=some j
 | x::r,0,s,h,_=>by cases h;simp [aP]
 | x::r,j+1,s,h,hn=>by
  simp only [List.take_succ_cons,aP] at hn;split at hn
  ·cases hn
  ·rename_i hx
   rw [aP,if_neg hx,gn (l:=r) (j:=j) h (by
    cases hr:aP (r.take j) s.unit with
    | none=>rfl
    | some k=>rw [hr] at hn;cases hn)]
   rfl
theorem vw {l:List Sh}: ∀(i:Nat) (u:Int),u∈chain l i→ ∃(p:List Int) (j:Nat) (s:Sh),j≤i∧l[j]?=some s∧s.unit=u∧chain l i=p++chain l j∧u∉p:=by
 intro i
 induction i using Nat.strongRecOn with
 | _ i ih=>
  intro u hu;cases hs:l[i]? with
  | none=>
   rw [chain] at hu;split at hu
   ·cases hu
   ·rename_i h;rw [hs] at h;cases h
  | some s=>
   by_cases hsu:s.unit=u
   ·exact ⟨[],i,s,Nat.le_refl _,hs,hsu,rfl,by simp⟩
   ·rw [dy hs] at hu⊢;rcases List.mem_cons.1 hu with rfl | hu
    ·exact absurd rfl hsu
    ·split at hu
     ·cases hu
     ·rename_i hp;rw [if_neg hp];split at hu
      ·rename_i j hj;have hlt:=ef hj;simp only [List.length_take] at hlt;obtain ⟨p,k,t,h1,h2,h3,h4,h5⟩:=ih j (by omega) u hu;refine ⟨s.unit::p,k,t,by omega,h2,h3,by rw [h4];rfl,?_⟩;simp only [List.mem_cons,not_or];exact ⟨fun h=>hsu h.symm,h5⟩
      ·cases hu
theorem jR {l:List Sh} (i:Nat) (u:Int) (h:u∈chain l i): ∃(j:Nat) (s:Sh),j≤i∧l[j]?=some s∧s.unit=u:=by obtain ⟨_,j,s,h1,h2,h3,_⟩:=vw i u h;exact ⟨j,s,h1,h2,h3⟩
theorem C7 {l:List Sh} {j:Nat} {s:Sh} (h:l[j]?=some s): ∃t,chain l j=s.unit::t:=⟨_,dy h⟩
theorem nI {l:List Sh} (hu:ka l) {i j:Nat} {s t:Sh} (h1:l[i]?=some s) (h2:l[j]?=some t) (h:s.unit=t.unit):i=j:=by have e1:=gn h1 (hu i s h1);have e2:=gn h2 (hu j t h2);rw [h] at e1;rw [e1] at e2;exact Option.some.inj e2
theorem Bi {l:List Sh} (hu:ka l): ∀i,(chain l i).Nodup:=by
 intro i
 induction i using Nat.strongRecOn with
 | _ i ih=>
  cases hs:l[i]? with
  | none=>
   rw [chain];split
   ·exact List.nodup_nil
   ·rename_i h;rw [hs] at h;cases h
  | some s=>
   rw [dy hs];split
   ·simp
   ·split
    ·rename_i j hj;have hlt:=ef hj;simp only [List.length_take] at hlt;refine List.nodup_cons.2 ⟨fun hm=> ?_,ih j (by omega)⟩;obtain ⟨k,t,h1,h2,h3⟩:=jR j _ hm;have:=nI hu h2 hs h3;omega
    ·simp
theorem Bj: ∀(a:List Int) (u:Int) (b:List Int),u∉a→oB (a++u::b) u=some a.length
 | [],u,b,_=>by simp [oB]
 | x::a,u,b,h=>by
  simp only [List.mem_cons,not_or] at h;rw [List.cons_append,oB,if_neg (fun hx=>h.1 hx.symm),Bj a u b h.2];rfl
theorem xq: ∀(a:List Int) (u:Int),u∉a→oB a u=none
 | [],u,_=>rfl
 | x::a,u,h=>by
  simp only [List.mem_cons,not_or] at h;rw [oB,if_neg (fun hx=>h.1 hx.symm),xq a u h.2];rfl
theorem xr {l:List Sh} (hu:ka l) {i j:Nat} {s:Sh} (hj:l[j]?=some s) (hji:j<i):aP (l.take i) s.unit=some j:=by refine gn (l:=l.take i) (by rw [List.getElem?_take,if_pos hji];exact hj) ?_;rw [List.take_take,Nat.min_eq_left (by omega)];exact hu j s hj
def gp (l:List Sh) (i:Nat):List Int:=if i=0 then [] else (chain l (i-1)).reverse
theorem C8 {l:List Sh} (hu:ka l) (i:Nat) (s:Sh) (hs:l[i]?=some s):
  fF (gp l i) s=ke l i s∧ ∀k,fF (gp l i) s=some k→(gp l i).take k++ [s.unit]=(chain l i).reverse:=by
 unfold fF ke gp;by_cases hp:s.par=0
 ·rw [if_pos hp,if_pos hp];refine ⟨rfl,fun k hk=> ?_⟩;cases hk;rw [dy hs,if_pos hp];simp
 ·rw [if_neg hp,if_neg hp];by_cases h0:i=0
  ·rw [if_pos h0,if_pos h0];exact ⟨rfl,fun k hk=>by cases hk⟩
  ·rw [if_neg h0,if_neg h0];by_cases hm:s.par∈chain l (i-1)
   ·obtain ⟨p,j,t,h1,h2,h3,h4,h5⟩:=vw (i-1) s.par hm;obtain ⟨r,hr⟩:=C7 h2;have hnd:=Bi hu (i-1)
    have e1:(chain l (i-1)).reverse=r.reverse++s.par::p.reverse:=by rw [h4,hr,h3];simp
    have hnr:s.par∉r.reverse:=by rw [h4,hr,h3] at hnd;have:=(List.nodup_append.1 hnd).2.1;exact fun h=>(List.nodup_cons.1 this).1 (List.mem_reverse.1 h)
    have e2:oB ((chain l (i-1)).reverse) s.par=some r.length:=by rw [e1,Bj _ _ _ hnr,List.length_reverse]
    have e3:aP (l.take i) s.par=some j:=by rw [←h3];exact xr hu h2 (by omega)
    rw [e2,if_pos (by simpa using hm),e3];refine ⟨by simp [hr],fun k hk=> ?_⟩;simp only [Option.map_some,Option.some.injEq] at hk;subst hk;rw [dy hs,if_neg hp,e3,e1];simp only [hr,h3];simp [List.take_append];rw [List.take_of_length_le (by simp)]
   ·rw [xq _ _ (fun h=>hm (List.mem_reverse.1 h)),if_neg (by simpa using hm)];exact ⟨rfl,fun k hk=>by cases hk⟩
theorem lI {l:List Sh} {n:Nat}: ∀i,i<n→chain (l.take n) i=chain l i:=by
 intro i
 induction i using Nat.strongRecOn with
 | _ i ih=>
  intro hi;have hg:(l.take n)[i]?=l[i]?:=by rw [List.getElem?_take,if_pos hi]
  cases hs:l[i]? with
  | none=>
   rw [chain,chain];split
   ·split
    ·rfl
    ·rename_i h;rw [hs] at h;cases h
   ·rename_i h;rw [hg,hs] at h;cases h
  | some s=>
   rw [dy hs,dy (hg.trans hs),List.take_take,Nat.min_eq_left (by omega)];congr 1;split
   ·rfl
   ·split
    ·rename_i j hj;have hlt:=ef hj;simp only [List.length_take] at hlt;exact ih j (by omega) (by omega)
    ·rfl
theorem Bk {l:List Sh} {n i:Nat} (h:i<n) (s:Sh):ke (l.take n) i s=ke l i s:=by
 unfold ke;by_cases h0:i=0
 ·subst h0;rfl
 ·rw [List.take_take,Nat.min_eq_left (by omega),lI (i-1) (by omega)];congr 3;split
  ·rename_i j hj;have hlt:=ef hj;simp only [List.length_take] at hlt;rw [lI j (by omega)]
  ·rfl
theorem sN (aa:List ae) (l:List Sh): ∀(r pre:List Sh),l=pre++r→ka pre→l5 aa pre (gp l pre.length) r=rM aa l pre.length r
 | [],_,_,_=>rfl
 | s::r,pre,hl,hu=>by
  have hs:l[pre.length]?=some s:=by rw [hl];simp
  have ht:l.take pre.length=pre:=by rw [hl];simp
  unfold l5 rM Bh;rw [ht];by_cases h1:kU pre s=0
  ·have hn:aP pre s.unit=none:=by
    unfold kU at h1;split at h1
    ·cases h1
    ·split at h1
     ·cases h1
     ·split at h1
      ·cases h1
      ·rename_i h;simpa using h
   have hu':ka (pre++ [s]):=fun i t hi=>by
    rcases Nat.lt_trichotomy i pre.length with h | h | h
    ·rw [List.getElem?_append_left h] at hi;rw [List.take_append_of_le_length (by omega)];exact hu i t hi
    ·subst h;simp at hi;subst hi;simp [hn]
    ·rw [List.getElem?_eq_none (by simp;omega)] at hi;cases hi
   have hpl: ∀m,fF (gp l pre.length) s=m→ke l pre.length s=m∧ ∀k,m=some k→(gp l pre.length).take k++ [s.unit]=gp l (pre++ [s]).length:=fun m hm=>by
    have hw:l.take (pre.length+1)=pre++ [s]:=by rw [hl];simp [List.take_append];rw [List.take_of_length_le (by omega)]
    have key:=C8 (l:=pre++ [s]) hu' pre.length s (by simp);rw [←hw,Bk (by omega),lI _ (by omega)] at key
    have hp:gp (l.take (pre.length+1)) pre.length=gp l pre.length:=by
     unfold gp;split
     ·rfl
     ·rw [lI _ (by omega)]
    rw [hp,hm] at key;refine ⟨key.1.symm,fun k hk=> ?_⟩;rw [key.2 k hk];unfold gp;simp
   rw [if_pos h1,if_pos h1];cases hm:fF (gp l pre.length) s with
   | none=>rw [(hpl _ hm).1];rfl
   | some k=>
    obtain ⟨e1,e2⟩:=hpl _ hm;rw [e1];simp only;by_cases hk:12≤k
    ·rw [if_pos hk,if_pos hk];rfl
    ·rw [if_neg hk,if_neg hk];by_cases hf:nZ aa s.facts=0
     ·rw [if_pos hf,if_pos hf,e2 k rfl];have:=sN aa l r (pre++ [s]) (by rw [hl];simp) hu';rw [this];simp
     ·rw [if_neg hf,if_neg hf]
  ·rw [if_neg h1,if_neg h1,if_neg h1]
theorem HS (aa:List ae) (l:List Sh):tP aa l=Nu aa l:=by
 unfold tP Nu;split
 ·rfl
 ·have:=sN aa l l [] rfl (fun i s h=>by simp at h);exact this
variable (it:Int→ae)
def cO {α:Type}:List (Int×α)→Int→Option α
 | [],_=>none
 | (x,v)::r,u=>if x=u then some v else cO r u
def jt {α:Type}:List (Int×α)→Int→α→List (Int×α)
 | [],u,v=> [(u,v)]
 | (x,w)::r,u,v=>if x=u then (x,v)::r else (x,w)::jt r u v
theorem gz {α:Type}: ∀(l:List (Int×α)) (u:Int) (v:α) (t:Int),cO (jt l u v) t=if u=t then some v else cO l t
 | [],u,v,t=>by simp [jt,cO]
 | (x,w)::r,u,v,t=>by
  unfold jt;by_cases h:x=u
  ·subst h;rw [if_pos rfl];simp only [cO];split <;> rfl
  ·rw [if_neg h];simp only [cO,gz r u v t];by_cases h2:x=t
   ·rw [if_pos h2,if_pos h2,if_neg (fun h3=>h (h2.trans h3.symm))]
   ·rw [if_neg h2,if_neg h2]
structure NS where
 C9:List (Int×ae)
 kids:List (Int×Int)
def dO (root:Int) (st:NS) (s:Sh):NS:=
 if s.unit=root then ⟨jt st.C9 s.unit [49],st.kids⟩ else
 match cO st.C9 s.par with
 | some above=>⟨jt st.C9 s.unit (above++ [46]++it ((cO st.kids s.par).getD 0+1)),jt st.kids s.par ((cO st.kids s.par).getD 0+1)⟩
 | none=>st
def bt (root:Int):NS→List Sh→List (Sh×ae)
 | _, []=> []
 | st,s::r=>match cO (dO it root st s).C9 s.unit with
  | some n=>(s,n)::bt root (dO it root st s) r
  | none=>bt root (dO it root st s) r
def xu (p:Nat→Bool):Nat→Nat
 | 0=>0
 | n+1=>xu p n+if p n=true then 1 else 0
theorem xv {p q:Nat→Bool}: ∀n,(∀k,k<n→p k=q k)→xu p n=xu q n
 | 0,_=>rfl
 | n+1,h=>by rw [xu,xu,xv n (fun k hk=>h k (by omega)),h n (by omega)]
def wc (l:List Sh) (u:Int) (k:Nat):Bool:=match l[k]? with | some s=>decide (s.par=u) | none=>false
def mQ (l:List Sh) (root:Int) (i:Nat):ae:=
 match l[i]? with
 | none=> []
 | some s=>if s.unit=root then [49] else
  (match hj:aP (l.take i) s.par with
  | some j=>mQ l root j
  | none=> [])++ [46]++it (xu (wc l s.par) (i+1))
termination_by i
decreasing_by
 have:=ef hj;simp only [List.length_take] at this;omega
theorem rN {l:List Sh} {root:Int} {i:Nat} {s:Sh} (h:l[i]?=some s):mQ it l root i=if s.unit=root then [49] else (match aP (l.take i) s.par with | some j=>mQ it l root j | none=> [])++ [46]++it (xu (wc l s.par) (i+1)):=by
 rw [mQ,h];simp only;split
 ·rfl
 ·congr 2;split
  ·rename_i h1;rw [h1]
  ·rename_i h1;rw [h1]
structure Valid (l:List Sh):Prop where
 uniq:ka l
 par: ∀(i:Nat) (s:Sh),l[i]?=some s→s.par≠0→ ∃j,aP (l.take i) s.par=some j
 pos: ∀s∈l,1≤s.unit
def sO (l:List Sh) (root:Int) (i:Nat):Bool:=(chain l i).contains root
def ia (l:List Sh) (root:Int):Nat→List Sh→List (Sh×ae)
 | _, []=> []
 | i,s::r=>if sO l root i=true then (s,mQ it l root i)::ia l root (i+1) r else ia l root (i+1) r
def Da (l:List Sh) (root u:Int) (k:Nat):Bool:=match l[k]? with | some s=>decide (s.par=u)&&(sO l root k&&decide (s.unit≠root)) | none=>false
theorem kL: ∀(pre:List Sh) (s:Sh) (u:Int),aP (pre++ [s]) u=match aP pre u with | some j=>some j | none=>if s.unit=u then some pre.length else none
 | [],s,u=>by simp [aP]
 | x::r,s,u=>by
  rw [List.cons_append,aP,aP,kL r s u];by_cases h:x.unit=u
  ·simp [h]
  ·simp only [if_neg h];cases aP r u with
   | some j=>rfl
   | none=>simp only [Option.map_none,List.length_cons];split <;> rfl
theorem HT {l:List Sh} {i:Nat} {u:Int} (hu:ka l) (h:u∈chain l i) {k:Nat} {s:Sh} (hk:l[k]?=some s) (hs:s.unit=u):k≤i:=by obtain ⟨j,t,h1,h2,h3⟩:=jR i u h;have:=nI hu hk h2 (by rw [hs,h3]);omega
theorem xw {l:List Sh} (hv:Valid l) (root:Int): ∀(r pre:List Sh) (st:NS),l=pre++r→
  (∀u,cO st.C9 u=match aP pre u with | some j=>if sO l root j=true then some (mQ it l root j) else none | none=>none)→
  (∀u,(cO st.kids u).getD 0=(xu (Da l root u) pre.length:Int))→bt it root st r=ia it l root pre.length r
 | [],_,_,_,_,_=>rfl
 | s::r,pre,st,hl,hA,hB=>by
  have hs:l[pre.length]?=some s:=by rw [hl];simp
  have ht:l.take pre.length=pre:=by rw [hl];simp
  have hn:aP pre s.unit=none:=by have:=hv.uniq _ _ hs;rwa [ht] at this
  have hl':l=(pre++ [s])++r:=by rw [hl];simp
  have hch:=dy hs;rw [ht] at hch;have hnum:=rN it (root:=root) hs;rw [ht] at hnum
  have hown: ∀u,xu (Da l root u) (pre++ [s]).length=xu (Da l root u) pre.length+if (decide (s.par=u)&&(sO l root pre.length&&decide (s.unit≠root)))=true then 1 else 0:=fun u=>by
   rw [List.length_append,List.length_singleton,xu];congr 2;unfold Da;rw [hs]
  -- the step
  have step: ∃st',dO it root st s=st'∧(∀u,cO st'.C9 u=match aP (pre++ [s]) u with | some j=>if sO l root j=true then some (mQ it l root j) else none | none=>none)∧
    (∀u,(cO st'.kids u).getD 0=(xu (Da l root u) (pre++ [s]).length:Int)):=by
   refine ⟨_,rfl,?_⟩;unfold dO;by_cases hr:s.unit=root
   ·rw [if_pos hr];rw [if_pos hr] at hnum;have hin:sO l root pre.length=true:=by unfold sO;rw [hch,hr];simp
    constructor
    ·intro u;simp only [gz,kL,hA u];by_cases hu:s.unit=u
     ·subst hu;rw [if_pos rfl,hn];simp only [if_true,hin,hnum]
     ·rw [if_neg hu];cases aP pre u with
      | some j=>rfl
      | none=>simp only [if_neg hu]
    ·intro u;rw [hB u,hown u];simp [hr]
   ·rw [if_neg hr];rw [if_neg hr] at hnum;have hA':=hA s.par;by_cases hp:s.par=0
    ·have h0:aP pre s.par=none:=by
      cases h:aP pre s.par with
      | none=>rfl
      | some j=>obtain ⟨t,h1,h2⟩:=ji h;have:=hv.pos t (by rw [hl];exact List.mem_append_left _ (List.mem_of_getElem? h1));omega
     rw [h0] at hA';simp only [hA'];rw [if_pos hp] at hch;have hin:sO l root pre.length=false:=by unfold sO;rw [hch];simpa using fun h=>hr h.symm
     constructor
     ·intro u;rw [hA u,kL];cases hx:aP pre u with
      | some j=>rfl
      | none=>
       by_cases hu:s.unit=u
       ·simp [hu,hin]
       ·simp [hu]
     ·intro u;rw [hB u,hown u,hin];simp
    ·obtain ⟨j,hj⟩:=hv.par _ _ hs hp;rw [ht] at hj;rw [hj] at hA' hch hnum;rw [if_neg hp] at hch;simp only at hA' hch hnum;have hjl:=ef hj;obtain ⟨t,hjt,htu⟩:=ji hj;have hjt':l[j]?=some t:=by rw [hl,List.getElem?_append_left hjl];exact hjt
     have hin:sO l root pre.length=sO l root j:=by unfold sO;rw [hch,List.contains_cons,show (root==s.unit)=false from by simpa using fun h=>hr h.symm];rfl
     by_cases hrj:sO l root j=true
     ·rw [hrj] at hin;rw [if_pos hrj] at hA';rw [hA']
      have hcnt:xu (Da l root s.par) pre.length=xu (wc l s.par) pre.length:=xv _ fun k hk=>by
       unfold Da wc;cases hkx:l[k]? with
       | none=>rfl
       | some x=>
        simp only;by_cases hx:x.par=s.par
        ·have hx0:x.par≠0:=by rw [hx];exact hp
         obtain ⟨m,hm⟩:=hv.par _ _ hkx hx0;have hm2:=ji hm;obtain ⟨y,hy1,hy2⟩:=hm2;have hmk:=ef hm;simp only [List.length_take] at hmk;rw [List.getElem?_take,if_pos (by omega)] at hy1;have hmj:=nI hv.uniq hy1 hjt' (by rw [hy2,htu,hx]);subst hmj;have hck:=dy hkx;rw [if_neg hx0,hm] at hck;simp only at hck;have hroot:root∈chain l m:=by simpa [sO] using hrj
         have hxr:x.unit≠root:=fun h=>by
          have:=HT hv.uniq hroot hkx h;omega
         have:sO l root k=true:=by unfold sO;rw [hck];simp [hroot]
         simp [hx,this,hxr]
        ·simp [hx]
      have hcnt2:xu (wc l s.par) (pre.length+1)=xu (wc l s.par) pre.length+1:=by
       rw [xu];have:wc l s.par pre.length=true:=by unfold wc;rw [hs];simp
       rw [this];rfl
      have hk:=hB s.par;rw [hcnt] at hk;rw [hcnt2] at hnum
      have hnum':mQ it l root pre.length=mQ it l root j++ [46]++it ((cO st.kids s.par).getD 0+1):=by rw [hnum,hk];rfl
      constructor
      ·intro u;simp only [gz,kL];by_cases hu:s.unit=u
       ·subst hu;rw [if_pos rfl,hn];simp only [if_true,hin,hnum']
       ·rw [if_neg hu,hA u];cases aP pre u with
        | some j=>rfl
        | none=>simp only [if_neg hu]
      ·intro u;simp only [gz];rw [hown u,hin];by_cases hu:s.par=u
       ·subst hu;rw [if_pos rfl];rw [hB s.par];simp [hr]
       ·rw [if_neg hu,hB u];simp [hu]
     ·have hrj:sO l root j=false:=by simpa using hrj
      rw [hrj] at hin;rw [hrj] at hA';simp only [Bool.false_eq_true,if_false] at hA';rw [hA'];constructor
      ·intro u;rw [hA u,kL];cases hx:aP pre u with
       | some j=>rfl
       | none=>
        by_cases hu:s.unit=u
        ·simp [hu,hin]
        ·simp [hu]
      ·intro u;rw [hB u,hown u,hin];simp
  obtain ⟨st',e,hA2,hB2⟩:=step;have ih:=xw hv root r (pre++ [s]) st' hl' hA2 hB2;have hself:=hA2 s.unit;rw [kL,hn] at hself;simp only [if_true] at hself;unfold bt ia;rw [e,hself];by_cases hin:sO l root pre.length=true
  ·rw [if_pos hin,if_pos hin];simp only [ih,List.length_append,List.length_singleton]
  ·rw [if_neg hin,if_neg hin];simp only [ih,List.length_append,List.length_singleton]
theorem kM {l:List Sh} (hv:Valid l) (root:Int):bt it root ⟨[], []⟩ l=ia it l root 0 l:=
 xw it hv root l [] ⟨[], []⟩ rfl (fun u=>rfl) (fun u=>rfl)
end Go.Proofs.YtfnkchadeaedlaaGreatDoor
namespace Go.Proofs.YtfnkchadeaedlaaGreatDoor
def qO:List ae→ae→Option Nat
 | [],_=>none
 | x::r,s=>if x=s then some 0 else (qO r s).map (· +1)
theorem Bl: ∀{l:List ae} {s:ae} {k:Nat},qO l s=some k→l[k]?=some s
 | x::r,s,k,h=>by
  unfold qO at h;split at h
  ·rename_i hx;cases h;simp [hx]
  ·cases hr:qO r s with
   | none=>rw [hr] at h;cases h
   | some j=>rw [hr] at h;simp only [Option.map_some,Option.some.injEq] at h;subst h;simpa using Bl hr
theorem zt: ∀{l:List ae} {s:ae},fW l s=true→ ∃k,qO l s=some k
 | [],s,h=>by simp [fW] at h
 | x::r,s,h=>by
  unfold qO;by_cases hx:x=s
  ·exact ⟨0,by rw [if_pos hx]⟩
  ·have:fW r s=true:=by unfold fW at h⊢;rw [List.any_cons,show (s==x)=false from by simpa using fun h=>hx h.symm] at h;simpa using h
   obtain ⟨k,hk⟩:=zt this;exact ⟨k+1,by rw [if_neg hx,hk];rfl⟩
def ak (l:List ae) (s:ae):List ae:=match qO l s with | some i=>s::(l.take i++l.drop (i+1)) | none=> []
def Diff:List ae→Prop
 | []=>True
 | x::r=>x∉r∧Diff r
def rk (order:List ae) (s:ae):Int:=match qO order s with | some k=>k | none=> -1
def fG (order:List ae) (cur:Fc):List Fc→List Fc
 | []=> [cur]
 | f::r=>if cur.el≠f.el then cur::fG order f r else if rk order f.lang<rk order cur.lang then fG order f r else fG order cur r
def aq (order:List ae):List Fc→List Fc
 | []=> []
 | f::r=>fG order f r
def Pm:List Fc→Prop
 | []=>True
 | f::r=>(∀g∈r,f.el<g.el∨f.el=g.el∧f.lang≠g.lang)∧Pm r
def fi (order:List ae) (el:Int):ae→Int→List Lb→ae
 | t,_, []=>t
 | t,b,l::r=>if l.el=el∧rk order l.lang<b then fi order el l.text (rk order l.lang) r else fi order el t b r
def fI (order:List ae) (av:List Lb) (el:Int) (dflt:ae):ae:=fi order el dflt order.length av
def Nv:List Lb→Prop
 | []=>True
 | f::r=>(∀g∈r,f.el=g.el→f.lang≠g.lang)∧Nv r
theorem rO (order:List ae) (el:Int): ∀(l:List Lb) (t:ae) (b:Int),
  (fi order el t b l=t∧ ∀g∈l,g.el=el→b≤rk order g.lang)∨ ∃f∈l,f.el=el∧fi order el t b l=f.text∧rk order f.lang<b∧ ∀g∈l,g.el=el→rk order f.lang≤rk order g.lang
 | [],t,b=> .inl ⟨rfl,by simp⟩
 | l::r,t,b=>by
  unfold fi;by_cases h:l.el=el∧rk order l.lang<b
  ·rw [if_pos h];right;rcases rO order el r l.text (rk order l.lang) with ⟨h1,h2⟩ | ⟨f,hf,h1,h2,h3,h4⟩
   ·refine ⟨l,by simp,h.1,h1,h.2,fun g hg he=> ?_⟩;rcases List.mem_cons.1 hg with rfl | hg
    ·exact Int.le_refl _
    ·exact h2 g hg he
   ·refine ⟨f,by simp [hf],h1,h2,by omega,fun g hg he=> ?_⟩;rcases List.mem_cons.1 hg with rfl | hg
    ·omega
    ·exact h4 g hg he
  ·rw [if_neg h];rcases rO order el r t b with ⟨h1,h2⟩ | ⟨f,hf,h1,h2,h3,h4⟩
   ·refine .inl ⟨h1,fun g hg he=> ?_⟩;rcases List.mem_cons.1 hg with rfl | hg
    ·omega
    ·exact h2 g hg he
   ·refine .inr ⟨f,by simp [hf],h1,h2,h3,fun g hg he=> ?_⟩;rcases List.mem_cons.1 hg with rfl | hg
    ·omega
    ·exact h4 g hg he
theorem I2: ∀{l:List ae} {s:ae} {k:Nat},qO l s=some k→k<l.length:=fun h=>by
 have:=Bl h;exact (List.getElem?_eq_some_iff.1 this).1
end Go.Proofs.YtfnkchadeaedlaaGreatDoor
namespace Go.Proofs.YtfnkchadeaedlaaGreatDoor
theorem vx: ∀(l pre:List ae),gu pre l=0→Diff l∧(∀s∈l,EU s=true)∧ ∀s∈l,s∉pre
 | [],_,_=>⟨trivial,by simp,by simp⟩
 | x::r,pre,h=>by
  unfold gu at h;split at h
  ·cases h
  ·rename_i h1;split at h
   ·cases h
   ·rename_i h2;obtain ⟨i1,i2,i3⟩:=vx r _ h;refine ⟨⟨fun hx=>i3 x hx (by simp),i1⟩,fun s hs=> ?_,fun s hs hp=> ?_⟩
    ·rcases List.mem_cons.1 hs with rfl | hs
     ·simpa using h1
     ·exact i2 s hs
    ·rcases List.mem_cons.1 hs with rfl | hs
     ·apply h2;unfold fW;rw [List.any_eq_true];exact ⟨s,hp,by simp⟩
     ·exact i3 s hs (by simp [hp])
theorem qC {e f:Int} {s t:ae} (h:nT e s f t=true):e<f∨e=f∧Lib.compareBytes s t<0:=by simpa [nT] using h
theorem Bm {a b c:ae} (h1:Lib.compareBytes a b<0) (h2:Lib.compareBytes b c<0):Lib.compareBytes a c<0:=by
 have h:=Bn a b c (by omega) (by omega);by_cases h0:Lib.compareBytes a c=0
 ·have:=(h.2 h0).1;omega
 ·omega
theorem vy {e f g:Int} {s t u:ae} (h1:nT e s f t=true) (h2:nT f t g u=true):nT e s g u=true:=by
 unfold nT;rw [decide_eq_true_eq];rcases qC h1 with h1 | h1 <;> rcases qC h2 with h2 | h2
 ·left;omega
 ·left;omega
 ·left;omega
 ·right;exact ⟨by omega,Bm h1.2 h2.2⟩
theorem Es {e f:Int} {s t:ae} (h:nT e s f t=true):e<f∨e=f∧s≠t:=by
 rcases qC h with h | h
 ·exact .inl h
 ·exact .inr ⟨h.1,fun hs=>by rw [hs,JZ] at h;exact absurd h.2 (by decide)⟩
theorem J0 {aa:List ae} {p:Option Lb} {l:Lb} (h:x4 aa p l=0):fW aa l.lang=true∧1≤l.el∧l.el≤64∧0≤l.ix∧l.ix≤3∧l.text≠ []∧l.text.length≤64∧ ∀q,p=some q→nT q.el q.lang l.el l.lang=true∧(q.el=l.el→q.ix=l.ix):=by
 unfold x4 at h;split at h
 ·cases h
 ·rename_i h1;split at h
  ·cases h
  ·rename_i h2;split at h
   ·cases h
   ·rename_i h3;refine ⟨by simpa using h2,by omega,by omega,by omega,by omega,fun h0=>by rw [h0] at h3;simp at h3,by omega,fun q hq=> ?_⟩;subst hq;simp only at h;split at h
    ·cases h
    ·rename_i h4;split at h
     ·cases h
     ·rename_i h5
      exact ⟨by simpa using h4,fun he=>by
       by_cases hi:q.ix=l.ix
       ·exact hi
       ·exact absurd ⟨he,hi⟩ h5⟩
structure J4 (aa:List ae) (l:Lb):Prop where
 lang:fW aa l.lang=true
 E0:1≤l.el
 IL:l.el≤64
 UU:0≤l.ix
 UW:l.ix≤3
 text:l.text≠ []
 len:l.text.length≤64
theorem xx {aa:List ae}: ∀(l:List Lb) (p:Option Lb),iM aa p l=0→
  Nv l∧(∀x∈l,J4 aa x)∧(∀x∈l,∀q,p=some q→nT q.el q.lang x.el x.lang=true∧(q.el=x.el→q.ix=x.ix))∧ ∀x∈l,∀y∈l,x.el=y.el→x.ix=y.ix
 | [],_,_=>⟨trivial,by simp,by simp,by simp⟩
 | x::r,p,h=>by
  unfold iM at h;split at h
  ·rename_i h0;obtain ⟨a1,a2,a3,a4,a5,a6,a7,a8⟩:=J0 h0;obtain ⟨i1,i2,i3,i4⟩:=xx r _ h;have hx:J4 aa x:=⟨a1,a2,a3,a4,a5,a6,a7⟩;refine ⟨⟨fun g hg he hl=> ?_,i1⟩,fun y hy=> ?_,fun y hy q hq=> ?_,fun y hy z hz he=> ?_⟩
   ·rcases Es (i3 g hg x rfl).1 with h | h
    ·omega
    ·exact h.2 hl
   ·rcases List.mem_cons.1 hy with rfl | hy
    ·exact hx
    ·exact i2 y hy
   ·rcases List.mem_cons.1 hy with rfl | hy
    ·exact a8 q hq
    ·have e1:=a8 q hq;have e2:=i3 y hy x rfl;have e3:=vy e1.1 e2.1;refine ⟨e3,fun he=> ?_⟩
     have:q.el=x.el:=by
      rcases qC e1.1 with h1 | h1
      ·rcases qC e2.1 with h2 | h2 <;> omega
      ·exact h1.1
     rw [e1.2 this,e2.2 (by omega)]
   ·rcases List.mem_cons.1 hy with hyx | hyr
    ·rcases List.mem_cons.1 hz with hzx | hzr
     ·rw [hyx,hzx]
     ·rw [hyx] at he⊢;exact (i3 z hzr x rfl).2 he
    ·rcases List.mem_cons.1 hz with hzx | hzr
     ·rw [hzx] at he⊢;exact ((i3 y hyr x rfl).2 he.symm).symm
     ·exact i4 y hyr z hzr he
  ·rename_i h0;exact absurd h h0
structure Db (aa:List ae) (l:Fc):Prop where
 lang:fW aa l.lang=true
 E0:1≤l.el
 IL:l.el≤64
 text:l.text≠ []
 len:l.text.length≤4096
theorem J5 {aa:List ae} {p:Option Fc} {l:Fc} (h:zm aa p l=0):Db aa l∧ ∀q,p=some q→nT q.el q.lang l.el l.lang=true:=by
 unfold zm at h;split at h
 ·cases h
 ·rename_i h1;split at h
  ·cases h
  ·rename_i h2;split at h
   ·cases h
   ·rename_i h3;refine ⟨⟨by simpa using h2,by omega,by omega,fun h0=>by rw [h0] at h3;simp at h3,by omega⟩,fun q hq=> ?_⟩;subst hq;simp only at h;split at h
    ·cases h
    ·rename_i h4;simpa using h4
theorem xy {aa:List ae}: ∀(l:List Fc) (p:Option Fc),iN aa p l=0→
  Pm l∧(∀x∈l,Db aa x)∧ ∀x∈l,∀q,p=some q→nT q.el q.lang x.el x.lang=true
 | [],_,_=>⟨trivial,by simp,by simp⟩
 | x::r,p,h=>by
  unfold iN at h;split at h
  ·rename_i h0;obtain ⟨hx,a8⟩:=J5 h0;obtain ⟨i1,i2,i3⟩:=xy r _ h;refine ⟨⟨fun g hg=>Es (i3 g hg x rfl),i1⟩,fun y hy=> ?_,fun y hy q hq=> ?_⟩
   ·rcases List.mem_cons.1 hy with rfl | hy
    ·exact hx
    ·exact i2 y hy
   ·rcases List.mem_cons.1 hy with rfl | hy
    ·exact a8 q hq
    ·exact vy (a8 q hq) (i3 y hy x rfl)
  ·rename_i h0;exact absurd h h0
structure Rp (aa:List ae) (s:Sh):Prop where
 u1:1≤s.unit
 u2:s.unit≤1073741824
 l1:1≤s.level
 l2:s.level≤4
 mark:s.mark.length≤64
 title:s.title≠ []
 zA:s.title.length≤64
 HU:s.facts.length≤32
 inc:Pm s.facts
 facts: ∀f∈s.facts,Db aa f
theorem HV {aa:List ae} {l:List Fc} (h:nZ aa l=0):l.length≤32∧Pm l∧ ∀x∈l,Db aa x:=by
 unfold nZ at h;split at h
 ·cases h
 ·obtain ⟨h1,h2,_⟩:=xy l none h;exact ⟨by omega,h1,h2⟩
theorem yW {pre:List Sh} {s:Sh} (h:kU pre s=0):1≤s.unit∧s.unit≤1073741824∧1≤s.level∧s.level≤4∧s.mark.length≤64∧s.title≠ []∧s.title.length≤64∧aP pre s.unit=none:=by
 unfold kU at h;split at h
 ·cases h
 ·split at h
  ·cases h
  ·rename_i h1;split at h
   ·cases h
   ·rename_i h2;refine ⟨by omega,by omega,by omega,by omega,by omega,fun h0=>by rw [h0] at h1;simp at h1,by omega,by simpa using h2⟩
theorem xz {aa:List ae} {l:List Sh}: ∀(r:List Sh) (i:Nat),l.drop i=r→rM aa l i r=0→ ∀(k:Nat) (s:Sh),i≤k→l[k]?=some s→Bh aa l k s=0
 | [],i,hd,_,k,s,hk,hs=>by
  have:=(List.getElem?_eq_some_iff.1 hs).1;have h0:=List.drop_eq_nil_iff.1 hd;omega
 | x::r,i,hd,h,k,s,hk,hs=>by
  unfold rM at h;split at h
  ·rename_i h0;by_cases hki:k=i
   ·subst hki;have:l[k]?=some x:=by rw [←List.head?_drop,hd];rfl
    rw [this] at hs;cases hs;exact h0
   ·exact xz r (i+1) (by rw [←List.tail_drop,hd];rfl) h k s (by omega) hs
  ·rename_i h0;exact absurd h h0
theorem J6 {aa:List ae} {l:List Sh} (h:tP aa l=0):l.length≤256∧Valid l∧(∀s∈l,Rp aa s)∧ ∀(k:Nat) (s:Sh),l[k]?=some s→(chain l k).length≤12:=by
 rw [HS] at h;unfold Nu at h;split at h
 ·cases h
 ·rename_i hlen;have key:=xz l 0 rfl h
  have one: ∀(k:Nat) (s:Sh),l[k]?=some s→kU (l.take k) s=0∧ ∃n,ke l k s=some n∧n<12∧nZ aa s.facts=0:=fun k s hs=>by
   have:=key k s (Nat.zero_le _) hs;unfold Bh at this;split at this
   ·rename_i h1;refine ⟨h1,?_⟩;split at this
    ·cases this
    ·rename_i n hn;split at this
     ·cases this
     ·exact ⟨n,hn,by omega,this⟩
   ·rename_i h1;exact absurd this h1
  have hu:ka l:=fun i s hs=>(yW (one i s hs).1).2.2.2.2.2.2.2;refine ⟨by omega,⟨hu,fun i s hs hp=> ?_,fun s hs=> ?_⟩,fun s hs=> ?_,fun k s hs=> ?_⟩
  ·obtain ⟨_,n,hn,_⟩:=one i s hs;unfold ke at hn;rw [if_neg hp] at hn;split at hn
   ·cases hn
   ·rename_i h0;split at hn
    ·rename_i hc;obtain ⟨j,t,h1,h2,h3⟩:=jR (i-1) s.par (by simpa using hc);exact ⟨j,by rw [←h3];exact xr hu h2 (by omega)⟩
    ·cases hn
  ·obtain ⟨i,hi⟩:=List.mem_iff_getElem?.1 hs;exact (yW (one i s hi).1).1
  ·obtain ⟨i,hi⟩:=List.mem_iff_getElem?.1 hs;obtain ⟨h1,n,_,_,h4⟩:=one i s hi;obtain ⟨b1,b2,b3,b4,b5,b6,b7,_⟩:=yW h1;obtain ⟨f1,f2,f3⟩:=HV h4;exact ⟨b1,b2,b3,b4,b5,b6,b7,f1,f2,f3⟩
  ·obtain ⟨_,n,hn,hn2,_⟩:=one k s hs;rw [dy hs];unfold ke at hn;split
   ·simp
   ·rename_i hp;rw [if_neg hp] at hn;split at hn
    ·cases hn
    ·split at hn
     ·rename_i hc;cases hn;split
      ·rename_i j hj;rw [hj] at hn2;have hn3:(chain l j).length<12:=hn2;simp only [List.length_cons];omega
      ·simp
     ·cases hn
structure gP (c:Ct):Prop where
 l1:1≤c.aa.length
 l2:c.aa.length≤8
 diff:Diff c.aa
 two: ∀s∈c.aa,EU s=true
 Ut:c.av.length≤256
 Uu:Nv c.av
 av: ∀x∈c.av,J4 c.aa x
 kinds: ∀x∈c.av,∀y∈c.av,x.el=y.el→x.ix=y.ix
 EZ:c.an.length≤256
 valid:Valid c.an
 an: ∀s∈c.an,Rp c.aa s
 deep: ∀(k:Nat) (s:Sh),c.an[k]?=some s→(chain c.an k).length≤12
theorem cE {c:Ct} (h:fX c=0):gP c:=by
 unfold fX at h;split at h
 ·rename_i h1;split at h
  ·rename_i h2;unfold oC at h1;split at h1
   ·cases h1
   ·unfold tO at h2;split at h2
    ·cases h2
    ·obtain ⟨d1,d2,_⟩:=vx _ _ h1;obtain ⟨b1,b2,_,b4⟩:=xx _ _ h2;obtain ⟨s1,s2,s3,s4⟩:=J6 h;exact ⟨by omega,by omega,d1,d2,by omega,b1,b2,b4,s1,s2,s3,s4⟩
  ·rename_i h2;exact absurd h h2
 ·rename_i h1;exact absurd h h1
end Go.Proofs.YtfnkchadeaedlaaGreatDoor
namespace Go.Proofs.YtfnkchadeaedlaaGreatDoor
def pB (acc:Nat):ae→Option Nat
 | []=>some acc
 | c::r=>if 48≤c.toNat∧c.toNat≤57 then (if 1099511627775<acc*10+(c.toNat-48) then none else pB (acc*10+(c.toNat-48)) r) else none
def tx (s:ae):Option Nat:=if s= [] then none else pB 0 s
def oE (s:ae):Int×Int:=
 if Lib.indexByte s 93<2∨11<Lib.indexByte s 93∨s.getD 1 0=48 then (0,0) else
 match tx ((s.take (Lib.indexByte s 93).toNat).drop 1) with
 | some n=>if 1073741824<n then (0,0) else ((n:Int),Lib.indexByte s 93+1)
 | none=>(0,0)
def we:ae→Nat→Nat→Option (Nat×Nat)
 | [],_,_=>none
 | c::r,n,k=>if 48≤c.toNat∧c.toNat≤57 then (if 1073741824<10*n+(c.toNat-48) then none else we r (10*n+(c.toNat-48)) (k+1)) else if c=93 then some (n,k+1) else none
def ao (s:ae):Int×Int:=
 if s.length<3∨s.getD 0 0≠91∨ ¬ (49≤(s.getD 1 0).toNat∧(s.getD 1 0).toNat≤57) then (0,0) else
 match we (s.drop 1) 0 1 with
 | some (n,k)=>((n:Int),(k:Int))
 | none=>(0,0)
theorem yX: ∀(u:ae) (n m:Nat),pB n u=some m→n*10^u.length≤m
 | [],n,m,h=>by cases h;simp
 | c::r,n,m,h=>by
  unfold pB at h;split at h
  ·split at h
   ·cases h
   ·have:=yX r _ m h;rw [List.length_cons,Nat.pow_succ];have h2:n*(10^r.length*10)=(n*10)*10^r.length:=by rw [Nat.mul_comm (10^r.length) 10,Nat.mul_assoc]
    rw [h2];exact Nat.le_trans (Nat.mul_le_mul_right _ (by omega)) this
  ·cases h
theorem J7 (u:ae) (n m:Nat) (h:pB n u=some m):n≤m:=by have:=yX u n m h;exact Nat.le_trans (Nat.le_mul_of_pos_right n (Nat.pow_pos (by decide))) this
theorem xA: ∀(t:ae) (n k:Nat),(93:UInt8)∉t→we t n k=none
 | [],_,_,_=>rfl
 | c::r,n,k,h=>by
  simp only [List.mem_cons,not_or] at h;unfold we;split
  ·split
   ·rfl
   ·exact xA r _ _ h.2
  ·rw [if_neg (fun hc=>h.1 hc.symm)]
theorem Et: ∀(u v:ae) (n k:Nat),(93:UInt8)∉u→n≤1073741824→we (u++93::v) n k=match pB n u with
  | some m=>if 1073741824<m then none else some (m,k+u.length+1)
  | none=>none
 | [],v,n,k,_,hn=>by
  simp only [List.nil_append,pB];unfold we;rw [if_neg (by decide),if_pos rfl,if_neg (by omega)];rfl
 | c::r,v,n,k,h,hn=>by
  simp only [List.mem_cons,not_or] at h;rw [List.cons_append];unfold we pB;by_cases hd:48≤c.toNat∧c.toNat≤57
  ·rw [if_pos hd,if_pos hd,Nat.mul_comm 10 n];by_cases hb:1073741824<n*10+(c.toNat-48)
   ·rw [if_pos hb];split
    ·rename_i m hm;split at hm
     ·cases hm
     ·have:=J7 _ _ _ hm;rw [if_pos (by omega)]
    ·rfl
   ·rw [if_neg hb,if_neg (show¬ 1099511627775<n*10+(c.toNat-48) by omega),Et r v _ (k+1) h.2 (by omega)];simp only [List.length_cons];split
    ·split
     ·rfl
     ·congr 2;omega
    ·rfl
  ·rw [if_neg hd,if_neg hd,if_neg (fun hc=>h.1 hc.symm)]
theorem Bo: ∀(t:ae),(93:UInt8)∉t→Lib.indexByte t 93= -1
 | [],_=>rfl
 | c::r,h=>by
  simp only [List.mem_cons,not_or] at h;have hc:(c==93)=false:=by simpa using fun h'=>h.1 h'.symm
  rw [Lib.indexByte,hc,Bo r h.2];rfl
theorem Bp: ∀(u v:ae),(93:UInt8)∉u→Lib.indexByte (u++93::v) 93=(u.length:Int)
 | [],v,_=>by simp [Lib.indexByte]
 | c::r,v,h=>by
  simp only [List.mem_cons,not_or] at h;have hc:(c==93)=false:=by simpa using fun h'=>h.1 h'.symm
  rw [List.cons_append,Lib.indexByte,hc,Bp r v h.2];have:((r.length:Int)== -1)=false:=by simp
  rw [this];simp
theorem Bq: ∀(t:ae),(93:UInt8)∈t→ ∃u v,t=u++93::v∧(93:UInt8)∉u
 | c::r,h=>by
  by_cases hc:c=93
  ·exact ⟨[],r,by rw [hc];rfl,by simp⟩
  ·rcases List.mem_cons.1 h with h | h
   ·exact absurd h.symm hc
   ·obtain ⟨u,v,h1,h2⟩:=Bq r h;exact ⟨c::u,v,by rw [h1];rfl,by simp only [List.mem_cons,not_or];exact ⟨fun h=>hc h.symm,h2⟩⟩
theorem oF (t:ae):oE (91::t)=ao (91::t):=by
 by_cases h:(93:UInt8)∈t
 ·obtain ⟨u,v,rfl,hu⟩:=Bq t h
  have hi:Lib.indexByte (91::(u++93::v)) 93=((u.length+1:Nat):Int):=by have:=Bp (91::u) v (by simp only [List.mem_cons,not_or];exact ⟨by decide,hu⟩);rw [List.cons_append] at this;rw [this];rfl
  unfold oE ao;rw [hi];cases u with
  | nil=>simp
  | cons c r=>
   have g1:(91::(c::r++93::v)).getD 1 0=c:=rfl;have g0:(91::(c::r++93::v)).getD 0 0=91:=rfl;rw [g1,g0]
   have htake:((91::(c::r++93::v)).take (((c::r).length+1:Nat):Int).toNat).drop 1=c::r:=by rw [Int.toNat_natCast,List.take_succ_cons,List.drop_succ_cons,List.drop_zero,List.take_left]
   rw [htake];have hgo:=Et (c::r) v 0 1 hu (by decide);have hdrop:(91::(c::r++93::v)).drop 1=c::r++93::v:=rfl;rw [hdrop,hgo];have hlen: ¬ (91::(c::r++93::v)).length<3:=by simp;omega
   unfold tx;rw [if_neg (show¬ c::r= [] by simp)];by_cases hd:49≤c.toNat∧c.toNat≤57
   ·have hc48:c≠48:=fun h=>by subst h;exact absurd hd.1 (by decide)
    rw [if_neg (show¬ ((91::(c::r++93::v)).length<3∨(91:UInt8)≠91∨ ¬ (49≤c.toNat∧c.toNat≤57)) by
     simp only [not_or,Classical.not_not];exact ⟨hlen,trivial,hd⟩)]
    by_cases hl:r.length≤9
    ·rw [if_neg (show¬ ((((c::r).length+1:Nat):Int)<2∨11<(((c::r).length+1:Nat):Int)∨c=48) by
      simp only [List.length_cons,not_or];exact ⟨by omega,by omega,hc48⟩)]
     cases hn:pB 0 (c::r) with
     | none=>rfl
     | some m=>
      simp only;by_cases hm:1073741824<m
      ·rw [if_pos hm,if_pos hm]
      ·rw [if_neg hm,if_neg hm];simp only [List.length_cons];congr 1;omega
    ·rw [if_pos (show ((((c::r).length+1:Nat):Int)<2∨11<(((c::r).length+1:Nat):Int)∨c=48) by
      simp only [List.length_cons];right;left;omega)]
     cases hn:pB 0 (c::r) with
     | none=>rfl
     | some m=>
      have h1:=hn;unfold pB at h1;rw [if_pos (by omega),if_neg (by omega)] at h1;have h2:=yX _ _ _ h1;have h3:(10:Nat)^10≤10^r.length:=Nat.pow_le_pow_right (by decide) (by omega);have h4:1*10^r.length≤(0*10+(c.toNat-48))*10^r.length:=Nat.mul_le_mul_right _ (by omega);have h5:(10:Nat)^10=10000000000:=by decide
      simp only;rw [if_pos (show 1073741824<m by omega)]
   ·rw [if_pos (show ((91::(c::r++93::v)).length<3∨(91:UInt8)≠91∨ ¬ (49≤c.toNat∧c.toNat≤57)) from Or.inr (Or.inr hd))];by_cases hb:(((c::r).length+1:Nat):Int)<2∨11<(((c::r).length+1:Nat):Int)∨c=48
    ·rw [if_pos hb]
    ·rw [if_neg hb]
     have hc: ¬ (48≤c.toNat∧c.toNat≤57):=fun h=>by
      have:c=48:=UInt8.toNat_inj.1 (by show c.toNat=48;have h6:=h.1;have h7:=h.2;omega);exact hb (.inr (.inr this))
     rw [pB,if_neg hc]
 ·have hi:Lib.indexByte (91::t) 93= -1:=Bo _ (by simp only [List.mem_cons,not_or];exact ⟨by decide,h⟩);unfold oE ao;rw [hi,if_pos (.inl (by decide))];split
  ·rfl
  ·have:=xA t 0 1 h;rw [List.drop_succ_cons,List.drop_zero,this]
def x8 (s:ae):Int×Int:=if s.getD 0 0≠91 then (0,0) else oE s
theorem sP: ∀{s:ae},s≠ []→x8 s=ao s
 | c::t,_=>by
  unfold x8;by_cases h:c=91
  ·subst h;rw [if_neg (by simp),oF]
  ·have h0:(c::t).getD 0 0≠91:=h;rw [if_pos h0];unfold ao;rw [if_pos (.inr (.inl h0))]
theorem Br: ∀(t:ae) (n k a b:Nat),we t n k=some (a,b)→n≤a∧k<b∧b≤k+t.length∧a≤1073741824∨(n≤a∧k<b∧b≤k+t.length∧a=n)
 | [],_,_,_,_,h=>by cases h
 | c::r,n,k,a,b,h=>by
  unfold we at h;split at h
  ·split at h
   ·cases h
   ·rename_i hb;rcases Br r _ _ a b h with h | h
    ·left;simp only [List.length_cons];omega
    ·left;simp only [List.length_cons];omega
  ·split at h
   ·cases h;right;exact ⟨Nat.le_refl _,Nat.lt_succ_self _,by simp only [List.length_cons];omega,rfl⟩
   ·cases h
theorem dv (s:ae):ao s=(0,0)∨(1≤(ao s).1∧(ao s).1≤1073741824∧2≤(ao s).2∧(ao s).2≤s.length∧s.getD 0 0=91):=by
 unfold ao;split
 ·exact .inl rfl
 ·rename_i h;simp only [not_or,Classical.not_not] at h;split
  ·rename_i n k hg;right;obtain ⟨h1,h2,h3⟩:=h
   match s,h1,h2,h3,hg with
   | a::c::r,h1,h2,h3,hg=>
    have g1:(a::c::r).getD 1 0=c:=rfl;rw [g1] at h3;have g2:(a::c::r).drop 1=c::r:=rfl;rw [g2] at hg;unfold we at hg;rw [if_pos (show 48≤c.toNat∧c.toNat≤57 by omega)] at hg;split at hg
    ·cases hg
    ·have:=Br _ _ _ _ _ hg;simp only [List.length_cons];refine ⟨by omega,by omega,by omega,by omega,h2⟩
   | [a],h1,_,_,_=>exact absurd (by simp) h1
   | [],h1,_,_,_=>exact absurd (by simp) h1
  ·exact .inl rfl
end Go.Proofs.YtfnkchadeaedlaaGreatDoor
namespace Go.Proofs.YtfnkchadeaedlaaGreatDoor
def et (l:List Sh) (u:Int):ae:=
 match aP l u with
 | none=> [63]
 | some i=>match l[i]? with
  | some s=>if s.mark= [] then s.title else s.mark++ [32]++s.title
  | none=> []
def bI (cite:Int→ae) (s:ae):ae:=
 match s with
 | []=> []
 | c::r=>if h:(ao (c::r)).2=0 then c::bI cite r else cite (ao (c::r)).1++bI cite ((c::r).drop (ao (c::r)).2.toNat)
termination_by s.length
decreasing_by
 ·simp
 ·rcases dv (c::r) with h' | h'
  ·exact absurd (by rw [h']) h
  ·simp only [List.length_drop,List.length_cons] at*;omega
theorem jx (cite:Int→ae):bI cite []= []:=by rw [bI]
theorem kW (cite:Int→ae) (c:UInt8) (r:ae) (h:(ao (c::r)).2=0):bI cite (c::r)=c::bI cite r:=by rw [bI,dif_pos h]
theorem j0 (cite:Int→ae) (s:ae) (h:(ao s).2≠0):bI cite s=cite (ao s).1++bI cite (s.drop (ao s).2.toNat):=by
 cases s with
 | nil=>exact absurd rfl h
 | cons c r=>rw [bI,dif_neg h]
structure Nd where
 depth:Int
 tag:ae
 text:ae
structure tf where
 unit:Int
 num:ae
 nodes:List Nd
instance:DecidableEq Nd:=fun a b=>decidable_of_iff (a.depth=b.depth∧a.tag=b.tag∧a.text=b.text) (by cases a;cases b;simp)
instance:DecidableEq tf:=fun a b=>decidable_of_iff (a.unit=b.unit∧a.num=b.num∧a.nodes=b.nodes) (by cases a;cases b;simp)
def gf (level:Int):ae:=if level=1 then [102,111,110,100,115] else if level=2 then [115,101,114,105,101,115] else if level=3 then [102,105,108,101] else [105,116,101,109]
def bW (s:ae):Nat:=s.count 46
def wB (d:Int) (s:Sh):List Nd:=if s.mark= [] then [] else [⟨d, [109,97,114,107],s.mark⟩]
def fp (it:Int→ae) (el:Int):ae:= [101,108,101,109,101,110,116,32]++it el
def pC (it:Int→ae) (order:List ae) (c:Ct) (d:Int) (f:Fc):Nd:=⟨d, [112],fI order c.av f.el (fp it f.el)++ [58,32]++bI (et c.an) f.text⟩
def dB (it:Int→ae) (order:List ae) (c:Ct) (x:Sh×ae):tf:=
 ⟨x.1.unit,x.2,⟨bW x.2,gf x.1.level,x.2++ [32]++x.1.title⟩::(wB (bW x.2+1) x.1++(aq order x.1.facts).map (pC it order c (bW x.2+1)))⟩
def dP (it:Int→ae) (c:Ct) (root:Int) (lang:ae):List tf:=(bt it root ⟨[], []⟩ c.an).map (dB it (ak c.aa lang) c)
theorem nJ {it:Int→ae} {l:List Sh} {root:Int}: ∀(r:List Sh) (i:Nat) (x:Sh×ae),x∈ia it l root i r→x.1∈r
 | [],_,_,h=>by cases h
 | s::r,i,x,h=>by
  unfold ia at h;split at h
  ·rcases List.mem_cons.1 h with rfl | h
   ·simp
   ·simp [nJ r _ x h]
  ·simp [nJ r _ x h]
def eS (u:Int):ae→List (Sh×ae)→ae
 | f, []=>f
 | f,x::r=>if x.1.unit=u then eS u x.2 r else eS u f r
def bZ (it:Int→ae) (c:Ct) (root u:Int):ae:=eS u [] (bt it root ⟨[], []⟩ c.an)
def nK (it:Int→ae) (c:Ct) (root u:Int):ae:=match aP c.an u with
 | some i=>if sO c.an root i=true then mQ it c.an root i else []
 | none=> []
theorem rP {u:Int}: ∀(r:List (Sh×ae)) (f:ae),(∀x∈r,x.1.unit≠u)→eS u f r=f
 | [],_,_=>rfl
 | x::r,f,h=>by
  unfold eS;rw [if_neg (h x (by simp)),rP r f (fun y hy=>h y (by simp [hy]))]
theorem Bs {it:Int→ae} {l:List Sh} (hu:ka l) (root u:Int): ∀(r:List Sh) (i:Nat) (f:ae),l.drop i=r→
  eS u f (ia it l root i r)=match aP r u with
   | some j=>if sO l root (i+j)=true then mQ it l root (i+j) else f
   | none=>f
 | [],_,_,_=>rfl
 | s::r,i,f,hd=>by
  have hs:l[i]?=some s:=by rw [←List.head?_drop,hd];rfl
  have hd':l.drop (i+1)=r:=by rw [←List.tail_drop,hd];rfl
  have hno: ∀x∈r,x.unit≠s.unit:=fun x hx hxu=>by
   obtain ⟨k,hk⟩:=List.mem_iff_getElem?.1 hx;rw [←hd',List.getElem?_drop] at hk;have:=nI hu hk hs hxu;omega
  unfold ia;by_cases h1:s.unit=u
  ·have hi:aP (s::r) u=some 0:=by rw [aP,if_pos h1]
   rw [hi];simp only [Nat.add_zero];by_cases h2:sO l root i=true
   ·rw [if_pos h2,if_pos h2,eS,if_pos h1];refine rP _ _ fun x hx=> ?_;have:=hno _ (nJ _ _ x hx);rw [←h1];exact this
   ·rw [if_neg h2,if_neg h2];refine rP _ _ fun x hx=> ?_;have:=hno _ (nJ _ _ x hx);rw [←h1];exact this
  ·have hi:aP (s::r) u=(aP r u).map (· +1):=by rw [aP,if_neg h1]
   have ih:=Bs (it:=it) hu root u r (i+1) f hd';rw [hi]
   have e:eS u f (if sO l root i=true then (s,mQ it l root i)::ia it l root (i+1) r else ia it l root (i+1) r)=eS u f (ia it l root (i+1) r):=by
    split
    ·rw [eS,if_neg h1]
    ·rfl
   rw [e,ih];cases aP r u with
   | none=>rfl
   | some j=>simp only [Option.map_some];rw [show i+1+j=i+(j+1) by omega]
theorem jS {c:Ct} (h:gP c) (it:Int→ae) (root u:Int):bZ it c root u=nK it c root u:=by
 unfold bZ nK;rw [kM it h.valid root,Bs h.valid.uniq root u c.an 0 [] rfl];cases aP c.an u with
 | none=>rfl
 | some j=>simp only [Nat.zero_add]
theorem Eu {it:Int→ae} {l:List Sh} {root:Int} {i:Nat} {s:Sh} (h:l[i]?=some s):mQ it l root i≠ []:=by
 rw [rN it h];split
 ·simp
 ·simp
end Go.Proofs.YtfnkchadeaedlaaGreatDoor
namespace Go.Proofs.YtfnkchadeaedlaaGreatDoor
def ec:ae→Option (ae×ae)
 | []=>none
 | c::r=>if c=32 then some ([],r) else (ec r).map fun p=>(c::p.1,p.2)
theorem qD: ∀(a b:ae),(32:UInt8)∉a→ec (a++32::b)=some (a,b)
 | [],b,_=>by simp [ec]
 | c::r,b,h=>by
  simp only [List.mem_cons,not_or] at h;rw [List.cons_append,ec,if_neg (fun hc=>h.1 hc.symm),qD r b h.2];rfl
theorem fA: ∀{s a b:ae},ec s=some (a,b)→s=a++32::b∧(32:UInt8)∉a
 | c::r,a,b,h=>by
  unfold ec at h;split at h
  ·rename_i hc;cases h;exact ⟨by rw [hc];rfl,by simp⟩
  ·rename_i hc;cases hr:ec r with
   | none=>rw [hr] at h;cases h
   | some p=>rw [hr] at h;simp only [Option.map_some,Option.some.injEq,Prod.mk.injEq] at h;obtain ⟨rfl,rfl⟩:=h;obtain ⟨h1,h2⟩:=fA (a:=p.1) (b:=p.2) hr;exact ⟨by rw [h1];rfl,by simp only [List.mem_cons,not_or];exact ⟨fun h=>hc h.symm,h2⟩⟩
def td (acc:Nat):ae→Option Nat
 | []=>some acc
 | c::r=>if 48≤c.toNat∧c.toNat≤57 then (if 65535<acc*10+(c.toNat-48) then none else td (acc*10+(c.toNat-48)) r) else none
def jw (s:ae):Option Nat:=if s= [] then none else td 0 s
def jT (aD:ae→Option ae) (line:ae):Option (Nat×ae):=
 match ec line with
 | some (num,rest)=>match jw num,aD rest with
  | some n,some t=>if t= []∨num.getD 0 0=48∨64<n then none else some (n,t)
  | _,_=>none
 | none=>none
def lX (n:Nat):ae:=if n<10 then [UInt8.ofNat (48+n)] else [UInt8.ofNat (48+n / 10),UInt8.ofNat (48+n%10)]
theorem Dc:((List.range 65).all fun n=>n==0 || (jw (lX n)==some n&&(!(lX n).contains 32&& !((lX n).getD 0 0==48))))=true:=by decide+kernel
theorem J8 {n:Nat} (h1:1≤n) (h2:n≤64):jw (lX n)=some n∧(32:UInt8)∉lX n∧(lX n).getD 0 0≠48:=by
 have:=List.all_eq_true.1 Dc n (List.mem_range.2 (by omega));have h0:(n==0)=false:=by simp;omega
 simp only [h0,Bool.false_or,Bool.and_eq_true,beq_iff_eq,Bool.not_eq_true',List.contains_eq_mem,decide_eq_false_iff_not] at this;exact ⟨this.1,this.2.1,by simpa using this.2.2⟩
theorem Ev: ∀(u:ae) (n m:Nat),td n u=some m→n*10^u.length≤m
 | [],n,m,h=>by cases h;simp
 | c::r,n,m,h=>by
  unfold td at h;split at h
  ·split at h
   ·cases h
   ·have:=Ev r _ m h;rw [List.length_cons,Nat.pow_succ];have h2:n*(10^r.length*10)=(n*10)*10^r.length:=by rw [Nat.mul_comm (10^r.length) 10,Nat.mul_assoc]
    rw [h2];exact Nat.le_trans (Nat.mul_le_mul_right _ (by omega)) this
  ·cases h
theorem J9 {s:ae} {n:Nat} (h:jw s=some n) (h0:s.getD 0 0≠48) (hn:n≤64):s=lX n∧1≤n:=by
 unfold jw at h;split at h
 ·cases h
 ·rename_i hne
  match s,hne,h,h0 with
  | [c],_,h,h0=>
   unfold td at h;split at h
   ·rename_i hc;split at h
    ·cases h
    ·simp only [td,Option.some.injEq] at h;have h0':c.toNat≠48:=fun hh=>h0 (UInt8.toNat_inj.1 (by show c.toNat=48;exact hh));refine ⟨?_,by omega⟩;unfold lX;rw [if_pos (by omega)];congr 1;apply UInt8.toNat_inj.1;rw [UInt8.toNat_ofNat'];omega
   ·cases h
  | [c,d],_,h,h0=>
   unfold td at h;split at h
   ·rename_i hc;split at h
    ·cases h
    ·unfold td at h;split at h
     ·rename_i hd;split at h
      ·cases h
      ·simp only [td,Option.some.injEq] at h;have h0':c.toNat≠48:=fun hh=>h0 (UInt8.toNat_inj.1 (by show c.toNat=48;exact hh));refine ⟨?_,by omega⟩;unfold lX;rw [if_neg (by omega)]
       have e1:c=UInt8.ofNat (48+n / 10):=by apply UInt8.toNat_inj.1;rw [UInt8.toNat_ofNat'];omega
       have e2:d=UInt8.ofNat (48+n%10):=by apply UInt8.toNat_inj.1;rw [UInt8.toNat_ofNat'];omega
       rw [←e1,←e2]
     ·cases h
   ·cases h
  | c::d::e::r,_,h,h0=>
   exfalso;unfold td at h;split at h
   ·rename_i hc;split at h
    ·cases h
    ·have hg:=Ev _ _ _ h;have h0':c.toNat≠48:=fun hh=>h0 (UInt8.toNat_inj.1 (by show c.toNat=48;exact hh));have hp:(10:Nat)^2≤10^(d::e::r).length:=Nat.pow_le_pow_right (by decide) (by simp);have hm:1*10^(d::e::r).length≤(0*10+(c.toNat-48))*10^(d::e::r).length:=Nat.mul_le_mul_right _ (by omega);omega
   ·cases h
end Go.Proofs.YtfnkchadeaedlaaGreatDoor
namespace Go.Proofs.YtfnkchadeaedlaaGreatDoor
set_option maxRecDepth 10000
set_option maxHeartbeats 4000000
def splitB (c:UInt8):List UInt8→List (List UInt8)
 | []=> [[]]
 | x::s=>if x=c then []::splitB c s else match splitB c s with
  | p::r=>(x::p)::r
  | []=> [[x]]
theorem xB (c:UInt8): ∀s,splitB c s≠ []
 | []=>by simp [splitB]
 | x::s=>by
  simp only [splitB];split
  ·simp
  ·split <;> simp
theorem xC {c:UInt8}: ∀{s:List UInt8},c∉s→splitB c s= [s]
 | [],_=>rfl
 | x::s,h=>by
  simp only [List.mem_cons,not_or] at h;simp only [splitB,if_neg (Ne.symm h.1),xC h.2]
theorem pg {c:UInt8}: ∀{a:List UInt8} (s:List UInt8),c∉a→splitB c (a++c::s)=a::splitB c s
 | [],s,_=>by simp [splitB]
 | x::a,s,h=>by
  simp only [List.mem_cons,not_or] at h;simp only [List.cons_append,splitB,if_neg (Ne.symm h.1),pg s h.2]
theorem il (c:UInt8): ∀s:List UInt8,(splitB c s).length=s.count c+1
 | []=>by simp [splitB]
 | x::s=>by
  have:=il c s;simp only [splitB];split
  ·rename_i h;subst h;simp [this]
  ·rename_i h;rw [List.count_cons_of_ne h];split
   ·rename_i h;rw [h] at this;simp at this⊢;omega
   ·rename_i h;exact absurd h (xB c s)
theorem qE {c:UInt8}: ∀(l:List (List UInt8)),(∀p∈l,c∉p)→splitB c (l.flatMap fun p=>p++ [c])=l++ [[]]
 | [],_=>rfl
 | p::r,hp=>by
  rw [List.flatMap_cons,List.append_assoc,List.singleton_append,pg _ (hp p List.mem_cons_self),qE r (fun x hx=>hp x (List.mem_cons_of_mem _ hx))];rfl
end Go.Proofs.YtfnkchadeaedlaaGreatDoor
namespace Go.Proofs.YtfnkchadeaedlaaGreatDoor
theorem vz: ∀(u:ae),splitB 10 (u++ [10])=splitB 10 u++ [[]]
 | []=>by simp [splitB]
 | x::s=>by
  rw [List.cons_append];unfold splitB;rw [vz s];split
  ·rfl
  ·cases hs:splitB 10 s with
   | nil=>exact absurd hs (xB 10 s)
   | cons p r=>rfl
def rQ (v:ae):Option (List ae):=if v.getLast?=some 10 then some (splitB 10 v.dropLast) else none
def im (n:Nat):ae:=if n=1 then [102,111,110,100,115] else if n=2 then [115,101,114,105,101,115] else if n=3 then [102,105,108,101] else [105,116,101,109]
def jj (w:ae):Nat:=if w=im 1 then 1 else if w=im 2 then 2 else if w=im 3 then 3 else if w=im 4 then 4 else 0
def sQ (aD:ae→Option ae) (l:ae):Option (Nat×ae):=
 match ec l with
 | some (w,r)=>match aD r with
  | some t=>if jj w=0∨t= [] then none else some (jj w,t)
  | none=>none
 | none=>none
theorem Dd:(32:UInt8)∉im 1∧(32:UInt8)∉im 2∧(32:UInt8)∉im 3∧(32:UInt8)∉im 4:=by decide
def mR:ae:= [109,97,114,107]
def sR (aD:ae→Option ae) (l:ae):Option ae:=
 match ec l with
 | some (w,r)=>if w=mR then aD r else none
 | none=>none
def jk (aD:ae→Option ae):Nat→List ae→Option (List (Nat×ae))
 | _, []=>some []
 | last,l::r=>match jT aD l with
  | some (n,t)=>if n≤last then none else (jk aD n r).map ((n,t):: ·)
  | none=>none
structure SI where
 level:Nat
 title:ae
 mark:ae
 facts:List (Nat×ae)
def mS (hd:ae→Option (Nat×ae)) (mk:ae→Option ae) (fs:List ae→Option (List (Nat×ae))):Option (List ae)→Option SI
 | some (a::b::r)=>match hd a,mk b,fs r with
  | some (n,t),some m,some f=>some ⟨n,t,m,f⟩
  | _,_,_=>none
 | _=>none
def gY (aD:ae→Option ae) (v:ae):Option SI:=mS (sQ aD) (sR aD) (jk aD 0) (rQ v)
end Go.Proofs.YtfnkchadeaedlaaGreatDoor
namespace Go.Proofs.YtfnkchadeaedlaaGreatDoor
theorem Bt: ∀(l:List ae),l≠ []→ ∃u,(l.flatMap fun p=>p++ [(10:UInt8)])=u++ [10]
 | [p],_=>⟨p,by simp⟩
 | p::q::r,_=>by
  obtain ⟨u,hu⟩:=Bt (q::r) (by simp);exact ⟨p++ [10]++u,by rw [List.flatMap_cons,hu];simp⟩
theorem sS {l:List ae} (hl:l≠ []) (h: ∀p∈l,(10:UInt8)∉p):rQ (l.flatMap fun p=>p++ [10])=some l:=by have h1:=qE l h;obtain ⟨u,hu⟩:=Bt l hl;unfold rQ;rw [hu] at h1⊢;rw [vz] at h1;have h2:=List.append_cancel_right h1;simp [h2]
section
variable (esc:ae→ae) (aD:ae→Option ae)
def sT (f:Nat×ae):ae:=lX f.1++32::esc f.2
def fT (lev:Nat) (title mark:ae) (facts:List (Nat×ae)):List ae:=(im lev++32::esc title)::(mR++32::esc mark)::facts.map (sT esc)
def sU (lev:Nat) (title mark:ae) (facts:List (Nat×ae)):ae:=(fT esc lev title mark facts).flatMap fun p=>p++ [10]
def Li:Nat→List (Nat×ae)→Prop
 | _, []=>True
 | last,f::r=>last<f.1∧f.1≤64∧f.2≠ []∧Li f.1 r
variable {esc aD} (h1: ∀s,aD (esc s)=some s) (h2: ∀s,(10:UInt8)∉esc s)
include h1
theorem De {n:Nat} {t:ae} (hn1:1≤n) (hn2:n≤64) (ht:t≠ []):jT aD (sT esc (n,t))=some (n,t):=by obtain ⟨d1,d2,d3⟩:=J8 hn1 hn2;unfold jT sT;rw [qD _ _ d2];simp only [d1,h1];rw [if_neg (by simp only [not_or];exact ⟨ht,d3,by omega⟩)]
theorem qF: ∀(l:List (Nat×ae)) (last:Nat),Li last l→jk aD last (l.map (sT esc))=some l
 | [],_,_=>rfl
 | (n,t)::r,last,h=>by
  obtain ⟨a1,a2,a3,a4⟩:=h;simp only at a1 a2 a3 a4;rw [List.map_cons,jk,De h1 (by omega) a2 a3];simp only;rw [if_neg (by omega),qF r n a4];rfl
theorem Df {lev:Nat} (hl1:1≤lev) (hl2:lev≤4) {t:ae} (ht:t≠ []):sQ aD (im lev++32::esc t)=some (lev,t):=by
 obtain ⟨t1,t2,t3,t4⟩:=Dd
 have hno:(32:UInt8)∉im lev∧jj (im lev)=lev:=by
  have:lev=1∨lev=2∨lev=3∨lev=4:=by omega
  rcases this with rfl | rfl | rfl | rfl
  ·exact ⟨t1,by decide⟩
  ·exact ⟨t2,by decide⟩
  ·exact ⟨t3,by decide⟩
  ·exact ⟨t4,by decide⟩
 unfold sQ;rw [qD _ _ hno.1];simp only [h1,hno.2];rw [if_neg (by simp only [not_or];exact ⟨by omega,ht⟩)]
theorem Dg (m:ae):sR aD (mR++32::esc m)=some m:=by unfold sR;rw [qD _ _ (by decide)];simp only [if_true,h1]
include h2
theorem Bu: ∀(lev:Nat) (title mark:ae) (facts:List (Nat×ae)),(∀f∈facts,1≤f.1∧f.1≤64)→ ∀p∈fT esc lev title mark facts,(10:UInt8)∉p:=by
 intro lev title mark facts hf p hp
 have htag: ∀n,(10:UInt8)∉im n:=fun n=>by
  unfold im
  repeat' split
  all_goals decide
 have hmark:(10:UInt8)∉mR:=by decide
 have hdec:((List.range 65).all fun n=> !(lX n).contains 10)=true:=by decide+kernel
 unfold fT at hp;simp only [List.mem_cons,List.mem_map] at hp;rcases hp with rfl | rfl | ⟨f,hfm,rfl⟩
 ·simp only [List.mem_append,List.mem_cons,not_or];exact ⟨htag lev,by decide,h2 title⟩
 ·simp only [List.mem_append,List.mem_cons,not_or];exact ⟨hmark,by decide,h2 mark⟩
 ·have:=List.all_eq_true.1 hdec f.1 (List.mem_range.2 (by have:=(hf f hfm).2;omega));unfold sT;simp only [List.mem_append,List.mem_cons,not_or];exact ⟨by simpa using this,by decide,h2 f.2⟩
theorem xD: ∀(l:List (Nat×ae)) (last:Nat),Li last l→ ∀f∈l,1≤f.1∧f.1≤64
 | [],_,_,f,hf=>by cases hf
 | g::r,last,h,f,hf=>by
  obtain ⟨a1,a2,a3,a4⟩:=h;rcases List.mem_cons.1 hf with rfl | hf
  ·exact ⟨by omega,a2⟩
  ·exact xD r _ a4 f hf
theorem mT {lev:Nat} (hl1:1≤lev) (hl2:lev≤4) {title mark:ae} (ht:title≠ []) {facts:List (Nat×ae)} (hf:Li 0 facts):gY aD (sU esc lev title mark facts)=some ⟨lev,title,mark,facts⟩:=by unfold gY sU;rw [sS (by simp [fT]) (Bu h1 h2 lev title mark facts (xD h1 h2 facts 0 hf))];unfold fT mS;simp only [Df h1 hl1 hl2 ht,Dg h1,qF h1 facts 0 hf]
end
end Go.Proofs.YtfnkchadeaedlaaGreatDoor
namespace Go.Proofs.YtfnkchadeaedlaaGreatDoor
def HW:Int→List Fc→Prop
 | _, []=>True
 | last,f::r=>last<f.el∧HW f.el r
theorem rR (order:List ae): ∀(r:List Fc) (cur:Fc) (last:Int),last<cur.el→Pm (cur::r)→HW last (fG order cur r)
 | [],cur,last,h,_=>⟨h,trivial⟩
 | f::r,cur,last,h,hi=>by
  obtain ⟨h1,h2,h3⟩:=hi;unfold fG;have hcf:=h1 f (by simp);by_cases hel:cur.el=f.el
  ·rw [if_neg (fun h:cur.el≠f.el=>h hel)]
   have ih: ∀c':Fc,c'=f∨c'=cur→HW last (fG order c' r):=fun c' hc'=>by
    refine rR order r c' last (by rcases hc' with rfl | rfl <;> omega) ⟨fun g hg=> ?_,h3⟩;rcases hc' with rfl | rfl
    ·exact h2 g hg
    ·exact h1 g (by simp [hg])
   split
   ·exact ih f (.inl rfl)
   ·exact ih cur (.inr rfl)
  ·rw [if_pos (show cur.el≠f.el from hel)];refine ⟨h,rR order r f cur.el ?_ ⟨h2,h3⟩⟩;rcases hcf with h | h
   ·exact h
   ·exact absurd h.1 hel
theorem nM (order:List ae): ∀(r:List Fc) (cur x:Fc),x∈fG order cur r→x=cur∨x∈r
 | [],cur,x,h=>by simpa [fG] using h
 | f::r,cur,x,h=>by
  unfold fG at h;split at h
  ·rcases List.mem_cons.1 h with h | h
   ·exact .inl h
   ·rcases nM order r f x h with h | h
    ·right;rw [h];simp
    ·right;simp [h]
  ·split at h
   ·rcases nM order r f x h with h | h
    ·right;rw [h];simp
    ·right;simp [h]
   ·rcases nM order r cur x h with h | h
    ·exact .inl h
    ·right;simp [h]
theorem ba {order:List ae} {l:List Fc} {x:Fc} (h:x∈aq order l):x∈l:=by
 cases l with
 | nil=>simp [aq] at h
 | cons f r=>
  rcases nM order r f x h with h | h
  ·rw [h];simp
  ·simp [h]
theorem mU {order:List ae} {l:List Fc} (hl:Pm l) (hp: ∀f∈l,1≤f.el):HW 0 (aq order l):=by
 cases l with
 | nil=>trivial
 | cons f r=>exact rR order r f 0 (by have:=hp f (by simp);omega) hl
def eP (text:ae):List Cell:=(List.range text.length).filterMap fun i=>if (ao (text.drop i)).2=0 then none else some (4,(ao (text.drop i)).1)
def cn (f:Fc):List Cell:=(3,f.el)::eP f.text
def cellsOf (u:Int) (facts:List Fc):List Cell:=(facts.flatMap cn).foldl ph [(1,u),(2,u)]
theorem mV (u:Int) (facts:List Fc):fD (cellsOf u facts):=xE _ _ ⟨by simp [fc],by simp,trivial⟩
theorem cV {u:Int} {facts:List Fc} {z:Cell}:z∈cellsOf u facts↔z∈facts.flatMap cn∨z=(1,u)∨z=(2,u):=by unfold cellsOf;rw [xF];simp
def aB (l:List (Cell×ae)) (c:Cell):Option ae:=(l.find? fun x=>decide (x.1=c)).map (·.2)
theorem iI (val:Cell→ae): ∀(S:List Cell) (c:Cell),aB (S.map fun x=>(x,val x)) c=if c∈S then some (val c) else none
 | [],c=>rfl
 | x::S,c=>by
  have ih:=iI val S c;unfold aB at ih⊢;rw [List.map_cons,List.find?_cons];by_cases h:x=c
  ·subst h;simp
  ·have hd:decide (x=c)=false:=by simpa using h
   simp only [hd];rw [ih];simp only [List.mem_cons];by_cases hm:c∈S
   ·rw [if_pos hm,if_pos (.inr hm)]
   ·rw [if_neg hm,if_neg (by rintro (h' | h');exact h h'.symm;exact hm h')]
def de (look:Int→Option ae) (s:ae):Option ae:=
 match s with
 | []=>some []
 | c::r=>if h:(ao (c::r)).2=0 then (de look r).map (c:: ·) else
  match look (ao (c::r)).1,de look ((c::r).drop (ao (c::r)).2.toNat) with
  | some a,some b=>some (a++b)
  | _,_=>none
termination_by s.length
decreasing_by
 ·simp
 ·rcases dv (c::r) with h' | h'
  ·exact absurd (by rw [h']) h
  ·simp only [List.length_drop,List.length_cons] at*;omega
theorem pj {look:Int→Option ae} {cite:Int→ae}: ∀(n:Nat) (s:ae),s.length≤n→(∀i,i<s.length→(ao (s.drop i)).2≠0→look (ao (s.drop i)).1=some (cite (ao (s.drop i)).1))→de look s=some (bI cite s)
 | _, [],_,_=>by rw [de,jx]
 | 0,c::r,h,_=>by simp at h
 | n+1,c::r,h,hl=>by
  simp only [List.length_cons] at h;by_cases hp:(ao (c::r)).2=0
  ·rw [de,dif_pos hp,kW cite c r hp,pj n r (by omega) (fun i hi=>by
    have:=hl (i+1) (by simp;omega);simpa using this)]
   rfl
  ·have h0:=hl 0 (by simp) (by simpa using hp);simp only [List.drop_zero] at h0;rw [de,dif_neg hp,j0 cite _ hp,h0]
   have hlen:((c::r).drop (ao (c::r)).2.toNat).length≤n:=by
    rcases dv (c::r) with h' | h'
    ·exact absurd (by rw [h']) hp
    ·simp only [List.length_drop,List.length_cons];omega
   rw [pj n _ hlen (fun i hi hp'=>by
    rw [List.drop_drop] at hp'⊢;refine hl _ ?_ hp';simp only [List.length_drop] at hi;omega)]
def rS (l:List (Cell×ae)) (d:Int):List (Nat×ae)→Option (List Nd)
 | []=>some []
 | f::r=>match aB l (3,(f.1:Int)),de (fun u=>aB l (4,u)) f.2,rS l d r with
  | some lab,some t,some ns=>some (⟨d, [112],lab++ [58,32]++t⟩::ns)
  | _,_,_=>none
def Bv (d:Int) (m:ae):List Nd:=if m= [] then [] else [⟨d, [109,97,114,107],m⟩]
def Ka (aD:ae→Option ae) (unit:Int) (l:List (Cell×ae)):Int×Option tf:=
 if (aB l (1,unit)).getD []= []∨(aB l (2,unit)).getD []= [] then (7,none) else
 match gY aD ((aB l (2,unit)).getD []) with
 | none=>(3,none)
 | some x=>match rS l (bW ((aB l (1,unit)).getD [])+1) x.facts with
  | none=>(7,none)
  | some ns=>(0,some ⟨unit,(aB l (1,unit)).getD [],⟨bW ((aB l (1,unit)).getD []),im x.level,(aB l (1,unit)).getD []++ [32]++x.title⟩::(Bv (bW ((aB l (1,unit)).getD [])+1) x.mark++ns)⟩)
def dA (f:Fc):Nat×ae:=(f.el.toNat,f.text)
def gq (esc:ae→ae) (order:List ae) (s:Sh):ae:=sU esc s.level.toNat s.title s.mark ((aq order s.facts).map dA)
def eH (it:Int→ae) (esc:ae→ae) (c:Ct) (order:List ae) (root:Int) (x:Cell):ae:=
 if x.1=1 then bZ it c root x.2 else if x.1=2 then (match aP c.an x.2 with
  | some i=>match c.an[i]? with
   | some s=>gq esc order s
   | none=> []
  | none=> []) else if x.1=3 then fI order c.av x.2 (fp it x.2) else if x.1=4 then et c.an x.2 else []
theorem qG: ∀(l:List Fc) (last:Int),0≤last→HW last l→(∀f∈l,f.el≤64∧f.text≠ [])→Li last.toNat (l.map dA)
 | [],_,_,_,_=>trivial
 | f::r,last,h0,h,hf=>by
  obtain ⟨h1,h2⟩:=h;have:=hf f (by simp);refine ⟨?_,?_,this.2,qG r f.el (by omega) h2 (fun g hg=>hf g (by simp [hg]))⟩
  ·simp only [dA];omega
  ·simp only [dA];omega
theorem Bw {lev:Int} (h1:1≤lev) (h2:lev≤4):im lev.toNat=gf lev:=by
 have:lev=1∨lev=2∨lev=3∨lev=4:=by omega
 rcases this with rfl | rfl | rfl | rfl <;> decide
theorem kN {it:Int→ae} {l:List Sh} {root:Int}: ∀(r:List Sh) (i:Nat) (x:Sh×ae),l.drop i=r→x∈ia it l root i r→ ∃k,l[k]?=some x.1∧sO l root k=true∧x.2=mQ it l root k
 | [],_,_,_,h=>by cases h
 | s::r,i,x,hd,h=>by
  have hs:l[i]?=some s:=by rw [←List.head?_drop,hd];rfl
  have hd':l.drop (i+1)=r:=by rw [←List.tail_drop,hd];rfl
  unfold ia at h;split at h
  ·rename_i hb;rcases List.mem_cons.1 h with h | h
   ·rw [h];exact ⟨i,hs,hb,rfl⟩
   ·exact kN r (i+1) x hd' h
  ·exact kN r (i+1) x hd' h
theorem xG {it:Int→ae} {esc:ae→ae} {c:Ct} {order:List ae} {root:Int} {S:List Cell} (d:Int): ∀(l:List Fc),(∀f∈l,1≤f.el)→(∀f∈l,∀z∈cn f,z∈S)→
  rS (S.map fun x=>(x,eH it esc c order root x)) d (l.map dA)=some (l.map (pC it order c d))
 | [],_,_=>rfl
 | f::r,hp,hS=>by
  have hel:((dA f).1:Int)=f.el:=by have:=hp f (by simp);simp only [dA];omega
  have h3:aB (S.map fun x=>(x,eH it esc c order root x)) (3,((dA f).1:Int))=some (fI order c.av f.el (fp it f.el)):=by rw [hel,iI,if_pos (hS f (by simp) _ (by simp [cn]))];simp [eH]
  have h4:de (fun u=>aB (S.map fun x=>(x,eH it esc c order root x)) (4,u)) (dA f).2=some (bI (et c.an) f.text):=by
   refine pj f.text.length f.text (Nat.le_refl _) fun i hi hne=> ?_;rw [iI,if_pos]
   ·simp [eH]
   ·refine hS f (by simp) _ ?_;unfold cn eP;rw [List.mem_cons];right;rw [List.mem_filterMap];exact ⟨i,List.mem_range.2 hi,by rw [if_neg hne]⟩
  rw [List.map_cons,rS,h3,h4,xG d r (fun g hg=>hp g (by simp [hg])) (fun g hg=>hS g (by simp [hg]))];rfl
theorem Dh {it:Int→ae} {esc:ae→ae} {aD:ae→Option ae} (h1: ∀s,aD (esc s)=some s) (h2: ∀s,(10:UInt8)∉esc s) {c:Ct} (hc:gP c) (order:List ae) (root:Int) {x:Sh×ae} (hx:x∈bt it root ⟨[], []⟩ c.an):
  Ka aD x.1.unit ((cellsOf x.1.unit (aq order x.1.facts)).map fun z=>(z,eH it esc c order root z))=(0,some (dB it order c x)):=by
 rw [kM it hc.valid root] at hx;obtain ⟨k,hk,hin,hnum⟩:=kN c.an 0 x rfl hx;have hidx:aP c.an x.1.unit=some k:=gn hk (hc.valid.uniq k x.1 hk);have hs:=hc.an x.1 (List.mem_of_getElem? hk)
 have hn:bZ it c root x.1.unit=x.2:=by rw [jS hc,nK,hidx];simp only;rw [if_pos hin,hnum]
 have hne:x.2≠ []:=by rw [hnum];exact Eu hk
 have l1:aB ((cellsOf x.1.unit (aq order x.1.facts)).map fun z=>(z,eH it esc c order root z)) (1,x.1.unit)=some x.2:=by rw [iI,if_pos (cV.2 (.inr (.inl rfl)))];simp [eH,hn]
 have l2:aB ((cellsOf x.1.unit (aq order x.1.facts)).map fun z=>(z,eH it esc c order root z)) (2,x.1.unit)=some (gq esc order x.1):=by rw [iI,if_pos (cV.2 (.inr (.inr rfl)))];simp [eH,hidx,hk]
 have hfo:Li 0 ((aq order x.1.facts).map dA):=qG _ 0 (Int.le_refl _) (mU hs.inc (fun f hf=>(hs.facts f hf).E0)) (fun f hf=>⟨(hs.facts f (ba hf)).IL,(hs.facts f (ba hf)).text⟩)
 have l3:gY aD (gq esc order x.1)=some ⟨x.1.level.toNat,x.1.title,x.1.mark,(aq order x.1.facts).map dA⟩:=by have:=hs.l1;have:=hs.l2;exact mT h1 h2 (by omega) (by omega) hs.title hfo
 have l4:gq esc order x.1≠ []:=by unfold gq sU fT;simp
 unfold Ka;rw [l1,l2];simp only [Option.getD_some];rw [if_neg (by simp only [not_or];exact ⟨hne,l4⟩),l3];simp only;rw [xG _ _ (fun f hf=>(hs.facts f (ba hf)).E0) (fun f hf z hz=>cV.2 (.inl (List.mem_flatMap.2 ⟨f,hf,hz⟩)))];simp only;rw [Bw hs.l1 hs.l2];rfl
end Go.Proofs.YtfnkchadeaedlaaGreatDoor
namespace Go.Proofs.YtfnkchadeaedlaaGreatDoor
def rT (p:Nat×ae):List Cell:=(3,(p.1:Int))::eP p.2
theorem vA {f:Fc} (h:1≤f.el):cn f=rT (dA f):=by unfold cn rT dA;simp only;rw [Int.toNat_of_nonneg (by omega)]
theorem jm: ∀{l:List Fc},(∀f∈l,1≤f.el)→l.flatMap cn=(l.map dA).flatMap rT
 | [],_=>rfl
 | f::r,h=>by
  rw [List.flatMap_cons,List.map_cons,List.flatMap_cons,vA (h f (by simp)),jm (fun g hg=>h g (by simp [hg]))]
theorem yY {u:Int} {l m:List Fc} (hl: ∀f∈l,1≤f.el) (hm: ∀f∈m,1≤f.el) (h:l.map dA=m.map dA):cellsOf u l=cellsOf u m:=by unfold cellsOf;rw [jm hl,jm hm,h]
theorem qH {it:Int→ae} {l:List Sh} {root:Int}: ∀(r:List Sh) (i:Nat),l.drop i=r→ ∀(k:Nat) (s:Sh),i≤k→l[k]?=some s→sO l root k=true→(s,mQ it l root k)∈ia it l root i r
 | [],i,hd,k,s,hk,hs,_=>by
  have:=(List.getElem?_eq_some_iff.1 hs).1;have h0:=List.drop_eq_nil_iff.1 hd;omega
 | x::r,i,hd,k,s,hk,hs,hb=>by
  have hx:l[i]?=some x:=by rw [←List.head?_drop,hd];rfl
  have hd':l.drop (i+1)=r:=by rw [←List.tail_drop,hd];rfl
  unfold ia;by_cases hki:k=i
  ·subst hki;rw [hx] at hs;cases hs;rw [if_pos hb];simp
  ·have ih:=qH (it:=it) r (i+1) hd' k s (by omega) hs hb;split
   ·exact List.mem_cons_of_mem _ ih
   ·exact ih
theorem qI {it:Int→ae} {c:Ct} (hc:gP c) {root u:Int} (h:bZ it c root u≠ []): ∃y∈bt it root ⟨[], []⟩ c.an,y.1.unit=u∧y.2=bZ it c root u:=by
 rw [jS hc] at h⊢;rw [kM it hc.valid root];unfold nK at h⊢;cases hi:aP c.an u with
 | none=>rw [hi] at h;exact absurd rfl h
 | some k=>
  rw [hi] at h;simp only at h⊢;by_cases hb:sO c.an root k=true
  ·obtain ⟨s,hs,hu⟩:=ji hi;exact ⟨(s,mQ it c.an root k),qH c.an 0 rfl k s (Nat.zero_le _) hs hb,hu,by rw [if_pos hb]⟩
  ·rw [if_neg hb] at h;exact absurd rfl h
theorem dz {it:Int→ae} {c:Ct} (hc:gP c) {root:Int} {x:Sh×ae} (hx:x∈bt it root ⟨[], []⟩ c.an):bZ it c root x.1.unit=x.2∧x.2≠ []∧x.1∈c.an∧ ∃k,c.an[k]?=some x.1∧aP c.an x.1.unit=some k:=by rw [kM it hc.valid root] at hx;obtain ⟨k,hk,hin,hnum⟩:=kN c.an 0 x rfl hx;have hidx:aP c.an x.1.unit=some k:=gn hk (hc.valid.uniq k x.1 hk);refine ⟨?_,by rw [hnum];exact Eu hk,List.mem_of_getElem? hk,k,hk,hidx⟩;rw [jS hc,nK,hidx];simp only;rw [if_pos hin,hnum]
theorem kf {S:List Cell} {f g:Cell→ae} (h: ∀z∈S,f z=g z):(S.map fun z=>(z,f z))=S.map fun z=>(z,g z):=
 List.map_congr_left fun z hz=>by rw [h z hz]
theorem fresh {it:Int→ae} {esc:ae→ae} {aD:ae→Option ae} (h1: ∀s,aD (esc s)=some s) (h2: ∀s,(10:UInt8)∉esc s) {a b:Ct} (ha:gP a) (hb:gP b) (oa ob:List ae) (root:Int) {x:Sh×ae} (hx:x∈bt it root ⟨[], []⟩ a.an)
  (hs: ∀z∈cellsOf x.1.unit (aq oa x.1.facts),eH it esc b ob root z=eH it esc a oa root z):
  ∃y∈bt it root ⟨[], []⟩ b.an,y.1.unit=x.1.unit∧dB it ob b y=dB it oa a x:=by
 obtain ⟨n1,n2,n3,k,n4,n5⟩:=dz ha hx;have v1:=hs (1,x.1.unit) (cV.2 (.inr (.inl rfl)));have v2:=hs (2,x.1.unit) (cV.2 (.inr (.inr rfl)));simp only [eH,if_true,n1] at v1;obtain ⟨y,hy,hyu,hyn⟩:=qI hb (it:=it) (root:=root) (u:=x.1.unit) (by rw [v1];exact n2);obtain ⟨m1,m2,m3,j,m4,m5⟩:=dz hb hy;have hxo:=ha.an x.1 n3;have hyo:=hb.an y.1 m3;rw [hyu] at m5;simp only [eH,show¬ (2:Int)=1 by decide,if_false,if_true,n5,n4,m5,m4] at v2;have fx:Li 0 ((aq oa x.1.facts).map dA):=qG _ 0 (Int.le_refl _) (mU hxo.inc (fun f hf=>(hxo.facts f hf).E0)) (fun f hf=>⟨(hxo.facts f (ba hf)).IL,(hxo.facts f (ba hf)).text⟩);have fy:Li 0 ((aq ob y.1.facts).map dA):=qG _ 0 (Int.le_refl _) (mU hyo.inc (fun f hf=>(hyo.facts f hf).E0)) (fun f hf=>⟨(hyo.facts f (ba hf)).IL,(hyo.facts f (ba hf)).text⟩)
 have px:gY aD (gq esc oa x.1)=some ⟨x.1.level.toNat,x.1.title,x.1.mark,(aq oa x.1.facts).map dA⟩:=by have:=hxo.l1;have:=hxo.l2;exact mT h1 h2 (by omega) (by omega) hxo.title fx
 have py:gY aD (gq esc ob y.1)=some ⟨y.1.level.toNat,y.1.title,y.1.mark,(aq ob y.1.facts).map dA⟩:=by have:=hyo.l1;have:=hyo.l2;exact mT h1 h2 (by omega) (by omega) hyo.title fy
 rw [v2,px] at py;simp only [Option.some.injEq,SI.mk.injEq] at py
 have hcells:cellsOf y.1.unit (aq ob y.1.facts)=cellsOf x.1.unit (aq oa x.1.facts):=by rw [hyu];exact yY (fun f hf=>(hyo.facts f (ba hf)).E0) (fun f hf=>(hxo.facts f (ba hf)).E0) py.2.2.2.symm
 have e1:=Dh (it:=it) h1 h2 ha oa root hx;have e2:=Dh (it:=it) h1 h2 hb ob root hy;rw [hcells,hyu,kf hs,e1] at e2;simp only [Prod.mk.injEq,Option.some.injEq,true_and] at e2;exact ⟨y,hy,hyu,e2.symm⟩
end Go.Proofs.YtfnkchadeaedlaaGreatDoor
namespace Go.Proofs.YtfnkchadeaedlaaGreatDoor
theorem HX {order:List ae} {av:List Lb} {aa:List ae} (h: ∀x∈av,J4 aa x) (el:Int) {d:ae} (hd:d≠ []):fI order av el d≠ []:=by
 unfold fI;rcases rO order el av d order.length with ⟨h1,_⟩ | ⟨f,hf,_,h1,_⟩
 ·rw [h1];exact hd
 ·rw [h1];exact (h f hf).text
theorem HY {c:Ct} (hc:gP c) (u:Int):et c.an u≠ []:=by
 unfold et;cases hi:aP c.an u with
 | none=>simp
 | some i=>
  obtain ⟨s,hs,_⟩:=ji hi;simp only [hs];split
  ·exact (hc.an s (List.mem_of_getElem? hs)).title
  ·simp
theorem FV (esc:ae→ae) (order:List ae) (s:Sh):gq esc order s≠ []:=by unfold gq sU fT;simp
theorem oo {u:Int} {facts:List Fc} {z:Cell} (h:z∈cellsOf u facts):z=(1,u)∨z=(2,u)∨(∃f∈facts,z=(3,f.el))∨ ∃v,z=(4,v):=by
 rcases cV.1 h with h | h | h
 ·obtain ⟨f,hf,hz⟩:=List.mem_flatMap.1 h;unfold cn at hz;rcases List.mem_cons.1 hz with hz | hz
  ·exact .inr (.inr (.inl ⟨f,hf,hz⟩))
  ·unfold eP at hz;obtain ⟨i,_,hi⟩:=List.mem_filterMap.1 hz;split at hi
   ·cases hi
   ·cases hi;exact .inr (.inr (.inr ⟨_,rfl⟩))
 ·exact .inl h
 ·exact .inr (.inl h)
theorem yZ {it:Int→ae} {esc:ae→ae} {c:Ct} (hc:gP c) (order:List ae) (root:Int) {x:Sh×ae} (hx:x∈bt it root ⟨[], []⟩ c.an) {z:Cell} (hz:z∈cellsOf x.1.unit (aq order x.1.facts)):eH it esc c order root z≠ []:=by
 obtain ⟨n1,n2,n3,k,n4,n5⟩:=dz hc hx;rcases oo hz with rfl | rfl | ⟨f,_,rfl⟩ | ⟨v,rfl⟩
 ·simp only [eH,if_true,n1];exact n2
 ·simp only [eH,show¬ (2:Int)=1 by decide,if_false,if_true,n5,n4];exact FV esc order x.1
 ·simp only [eH,show¬ (3:Int)=1 by decide,show¬ (3:Int)=2 by decide,if_false,if_true];exact HX hc.av _ (by simp [fp])
 ·simp only [eH,show¬ (4:Int)=1 by decide,show¬ (4:Int)=2 by decide,show¬ (4:Int)=3 by decide,if_false,if_true];exact HY hc v
def vB (it:Int→ae) (esc:ae→ae) (c:Ct) (order:List ae) (root:Int) (x:Cell):ae:=
 if x.1=3∧(x.2<1∨64<x.2) then [] else eH it esc c order root x
theorem Di {it:Int→ae} {esc:ae→ae} {c:Ct} (hc:gP c) (order:List ae) (root:Int) {s:Sh} (hs:s∈c.an) {z:Cell} (hz:z∈cellsOf s.unit (aq order s.facts)):vB it esc c order root z=eH it esc c order root z:=by
 unfold vB;rw [if_neg];rintro ⟨h1,h2⟩;rcases oo hz with rfl | rfl | ⟨f,hf,rfl⟩ | ⟨v,rfl⟩
 ·exact absurd (show (1:Int)=3 from h1) (by decide)
 ·exact absurd (show (2:Int)=3 from h1) (by decide)
 ·have:=((hc.an s hs).facts f (ba hf)).E0;have:=((hc.an s hs).facts f (ba hf)).IL;simp only at h2;omega
 ·exact absurd (show (4:Int)=3 from h1) (by decide)
def eU (val:Cell→ae) (l:List (Cell×ae)):Bool:=l.any fun r=>decide (val r.1≠r.2)
def cv (f g:Cell→ae) (l:List Cell):List Cell:=l.filter fun x=>decide (f x≠g x)
theorem y4 (f g:Cell→ae) (S:List Cell):eU g (S.map fun z=>(z,f z))=decide (0<(cv f g S).length):=by
 rw [Bool.eq_iff_iff,decide_eq_true_eq,List.length_pos_iff];unfold eU cv;simp only [List.any_map,List.any_eq_true,Function.comp_apply,decide_eq_true_eq,ne_eq];constructor
 ·rintro ⟨z,hz,hne⟩ h;have:z∈S.filter fun x=>decide (f x≠g x):=List.mem_filter.2 ⟨hz,by simpa using fun h=>hne h.symm⟩;rw [h] at this;cases this
 ·intro h;obtain ⟨z,hz⟩:=List.exists_mem_of_ne_nil _ h;obtain ⟨h1,h2⟩:=List.mem_filter.1 hz;exact ⟨z,h1,fun h=>by rw [h] at h2;simp at h2⟩
theorem FX (f:Cell→ae) (S:List Cell):eU f (S.map fun z=>(z,f z))=false:=by unfold eU;simp
theorem vC (f:Cell→ae) (S:List Cell):cv f f S= []:=by unfold cv;simp
theorem fD.nodup: ∀{l:List Cell},fD l→l.Nodup
 | [],_=>List.nodup_nil
 | x::r,h=>List.nodup_cons.2 ⟨fun hx=>eI x (h.1 x hx),fD.nodup h.2⟩
theorem Dj (f g:Cell→ae) {S:List Cell} (h:fD S):(∀x∈cv f g S,x∈S)∧(cv f g S).Nodup:=
 ⟨fun _ hx=>(List.mem_filter.1 hx).1,(fD.nodup h).filter _⟩
end Go.Proofs.YtfnkchadeaedlaaGreatDoor
namespace Go.Proofs.YtfnkchadeaedlaaGreatDoor
def aC (look:Int→Option ae) (s:ae):ae×Bool:=
 match s with
 | []=>([],false)
 | c::r=>if h:(ao (c::r)).2=0 then (c::(aC look r).1,(aC look r).2) else
  match look (ao (c::r)).1 with
  | some a=>(a++(aC look ((c::r).drop (ao (c::r)).2.toNat)).1,(aC look ((c::r).drop (ao (c::r)).2.toNat)).2)
  | none=>((aC look ((c::r).drop (ao (c::r)).2.toNat)).1,true)
termination_by s.length
decreasing_by
 all_goals first
  | (simp;done)
  | (rcases dv (c :: r) with h' | h'
     ·exact absurd (by rw [h']) h
     ·simp only [List.length_drop, List.length_cons] at *; omega)
theorem jU (look:Int→Option ae):aC look []=([],false):=by rw [aC]
theorem lJ (look:Int→Option ae) (c:UInt8) (r:ae) (h:(ao (c::r)).2=0):aC look (c::r)=(c::(aC look r).1,(aC look r).2):=by rw [aC,dif_pos h]
theorem kg (look:Int→Option ae) (s:ae) (h:(ao s).2≠0):aC look s=(match look (ao s).1 with
  | some a=>(a++(aC look (s.drop (ao s).2.toNat)).1,(aC look (s.drop (ao s).2.toNat)).2)
  | none=>((aC look (s.drop (ao s).2.toNat)).1,true)):=by
 cases s with
 | nil=>exact absurd rfl h
 | cons c r=>rw [aC,dif_neg h]
theorem Bx (look:Int→Option ae):de look []=some []:=by rw [de]
theorem y5 (look:Int→Option ae) (c:UInt8) (r:ae) (h:(ao (c::r)).2=0):de look (c::r)=(de look r).map (c:: ·):=by rw [de,dif_pos h]
theorem wg (look:Int→Option ae) (s:ae) (h:(ao s).2≠0):de look s=(match look (ao s).1,de look (s.drop (ao s).2.toNat) with
  | some a,some b=>some (a++b)
  | _,_=>none):=by
 cases s with
 | nil=>exact absurd rfl h
 | cons c r=>
  rw [de,dif_neg h]
  first | done | (cases look (ao (c::r)).1 <;> cases de look ((c::r).drop (ao (c::r)).2.toNat) <;> rfl)
theorem rU (look:Int→Option ae): ∀(n:Nat) (s:ae),s.length≤n→de look s=if (aC look s).2=true then none else some (aC look s).1
 | _, [],_=>by rw [Bx,jU];rfl
 | 0,c::r,h=>by simp at h
 | n+1,c::r,h=>by
  simp only [List.length_cons] at h;by_cases hp:(ao (c::r)).2=0
  ·rw [y5 look c r hp,lJ look c r hp,rU look n r (by omega)];split <;> rfl
  ·have hlen:((c::r).drop (ao (c::r)).2.toNat).length≤n:=by
    rcases dv (c::r) with h' | h'
    ·exact absurd (by rw [h']) hp
    ·simp only [List.length_drop,List.length_cons];omega
   rw [wg look _ hp,kg look _ hp,rU look n _ hlen];cases look (ao (c::r)).1 with
   | none=>rfl
   | some a=>cases hb:(aC look ((c::r).drop (ao (c::r)).2.toNat)).2 <;> simp
def dV (l:List (Cell×ae)) (d:Int):List (Nat×ae)→List Nd×Bool
 | []=>([],false)
 | f::r=>(⟨d, [112],(aB l (3,(f.1:Int))).getD []++ [58,32]++(aC (fun u=>aB l (4,u)) f.2).1⟩::(dV l d r).1,
   (aB l (3,(f.1:Int))).isNone || ((aC (fun u=>aB l (4,u)) f.2).2 || (dV l d r).2))
theorem By (l:List (Cell×ae)) (d:Int): ∀fs:List (Nat×ae),rS l d fs=if (dV l d fs).2=true then none else some (dV l d fs).1
 | []=>rfl
 | f::r=>by
  rw [rS,dV,By l d r,rU _ f.2.length f.2 (Nat.le_refl _)];cases h3:aB l (3,(f.1:Int)) with
  | none=>simp
  | some a=>
   simp only [Option.isNone_some,Bool.false_or,Option.getD_some];cases h4:(aC (fun u=>aB l (4,u)) f.2).2 with
   | true=>simp
   | false=>
    simp only [Bool.false_or,Bool.false_eq_true,if_false];cases h5:(dV l d r).2 with
    | true=>simp
    | false=>simp
theorem oq {x:Cell×ae} {r:List (Cell×ae)} {c:Cell} (h:x.1≠c):aB (x::r) c=aB r c:=by
 unfold aB;rw [List.find?_cons];have:decide (x.1=c)=false:=by simpa using h
 simp only [this]
theorem wh {x:Cell×ae} {r:List (Cell×ae)} {c:Cell} (h:x.1=c):aB (x::r) c=some x.2:=by
 unfold aB;rw [List.find?_cons];have:decide (x.1=c)=true:=by simpa using h
 simp only [this];rfl
theorem vD {c:Cell}: ∀{l:List (Cell×ae)},(∀x∈l,x.1≠c)→aB l c=none
 | [],_=>rfl
 | x::r,h=>by rw [oq (h x (by simp)),vD (fun y hy=>h y (by simp [hy]))]
theorem Ew {c:Cell}: ∀(l:List (Cell×ae)) (i:Nat),fD (l.map Prod.fst)→(∀j r,j<i→l[j]?=some r→fc r.1 c=true)→(∀j r,i≤j→l[j]?=some r→ ¬ fc r.1 c=true)→
  aB l c=match l[i]? with
   | some r=>if r.1=c then some r.2 else none
   | none=>none
 | [],i,_,_,_=>by simp [aB]
 | x::r,0,hi,_,h2=>by
  simp only [List.getElem?_cons_zero];by_cases h:x.1=c
  ·rw [if_pos h,wh h]
  ·rw [if_neg h];have hc:=lK (h2 0 x (Nat.le_refl _) rfl) h;refine vD fun y hy=> ?_;rcases List.mem_cons.1 hy with hy | hy
   ·rw [hy];exact h
   ·intro he;have:=hi.1 y.1 (List.mem_map.2 ⟨y,hy,rfl⟩);rw [he] at this;exact eI _ (eJ this hc)
 | x::r,i+1,hi,h1,h2=>by
  have hx:=h1 0 x (by omega) rfl;have hne:x.1≠c:=fun h=>by rw [h] at hx;exact eI _ hx
  rw [oq hne,List.getElem?_cons_succ];exact Ew r i hi.2 (fun j y hj hy=>h1 (j+1) y (by omega) (by simpa using hy)) (fun j y hj hy=>h2 (j+1) y (by omega) (by simpa using hy))
end Go.Proofs.YtfnkchadeaedlaaGreatDoor
namespace Go.Proofs.YtfnkchadeaedlaaGreatDoor
def aU (c:Ct) (lang:ae):Bool:=decide (fX c=0)&&fW c.aa lang
def cZ (c:Ct) (root:Int) (lang:ae):Int:=if fX c≠0 then 1 else if fW c.aa lang=false then 10 else if (aP c.an root).isSome=false then 7 else 0
theorem zC {c:Ct} {root:Int} {lang:ae} (h:cZ c root lang=0):fX c=0∧fW c.aa lang=true∧ ∃i,aP c.an root=some i:=by
 unfold cZ at h;split at h
 ·cases h
 ·split at h
  ·cases h
  ·split at h
   ·cases h
   ·rename_i h1 h2 h3;refine ⟨by simpa using h1,by simpa using h2,?_⟩;cases hi:aP c.an root with
    | none=>rw [hi] at h3;simp at h3
    | some i=>exact ⟨i,rfl⟩
theorem dt {c:Ct} {lang:ae} (h:aU c lang=true):fX c=0∧fW c.aa lang=true:=by simpa [aU] using h
theorem HZ {c:Ct} {lang:ae} (h1:fX c=0) (h2:fW c.aa lang=true):aU c lang=true:=by simp [aU,h1,h2]
def cI (c:Ct) (u:Int):Option Sh:=match aP c.an u with
 | some i=>c.an[i]?
 | none=>none
theorem mW {c:Ct} {u:Int} {s:Sh} (h:cI c u=some s): ∃i,aP c.an u=some i∧c.an[i]?=some s∧s.unit=u∧s∈c.an:=by
 unfold cI at h;cases hi:aP c.an u with
 | none=>rw [hi] at h;cases h
 | some i=>rw [hi] at h;obtain ⟨t,h1,h2⟩:=ji hi;have h:c.an[i]?=some s:=h;rw [h1] at h;cases h;exact ⟨i,rfl,h1,h2,List.mem_of_getElem? h1⟩
def gQ (c:Ct) (u:Int):List Fc:=match cI c u with
 | some s=>s.facts
 | none=> []
def aX (c:Ct) (u:Int) (lang:ae):List Fc:=if aU c lang=true then aq (ak c.aa lang) (gQ c u) else []
def Bz (it:Int→ae) (esc:ae→ae) (tag title mark:ae) (facts:List Fc):ae:=tag++ [32]++esc title++ [10]++(mR++ [32]++esc mark++ [10])++facts.flatMap fun f=>it f.el++ [32]++esc f.text++ [10]
theorem xH (it:Int→ae) (esc:ae→ae) (hit: ∀n:Int,1≤n→n≤64→it n=lX n.toNat): ∀(l:List Fc),(∀f∈l,1≤f.el∧f.el≤64)→(l.flatMap fun f=>it f.el++ [32]++esc f.text++ [10])=((l.map dA).map (sT esc)).flatMap fun p=>p++ [10]
 | [],_=>rfl
 | f::r,h=>by
  obtain ⟨h1,h2⟩:=h f (by simp);rw [List.flatMap_cons,List.map_cons,List.map_cons,List.flatMap_cons,xH it esc hit r (fun g hg=>h g (by simp [hg])),hit _ h1 h2];simp [sT,dA]
theorem Kb {it:Int→ae} {esc:ae→ae} (hit: ∀n:Int,1≤n→n≤64→it n=lX n.toNat) {lev:Int} (h1:1≤lev) (h2:lev≤4) (title mark:ae) {facts:List Fc} (hf: ∀f∈facts,1≤f.el∧f.el≤64):Bz it esc (gf lev) title mark facts=sU esc lev.toNat title mark (facts.map dA):=by unfold Bz sU fT;rw [xH it esc hit facts hf,List.flatMap_cons,List.flatMap_cons,Bw h1 h2];simp
def aS (it:Int→ae) (esc:ae→ae) (c:Ct) (lang:ae) (root:Int) (x:Cell):ae:=if aU c lang=true then vB it esc c (ak c.aa lang) root x else []
def vE (it:Int→ae) (esc:ae→ae) (c:Ct) (lang:ae) (root:Int) (x:Cell):ae:=
 if x.1=1 then bZ it c root x.2 else if x.1=2 then (match cI c x.2 with
  | some s=>Bz it esc (gf s.level) s.title s.mark (aq (ak c.aa lang) s.facts)
  | none=> []) else if x.1=3 then (if x.2<1∨64<x.2 then [] else fI (ak c.aa lang) c.av x.2 (fp it x.2)) else if x.1=4 then et c.an x.2 else []
theorem Ey {it:Int→ae} {esc:ae→ae} (hit: ∀n:Int,1≤n→n≤64→it n=lX n.toNat) {c:Ct} (hc:gP c) (lang:ae) (root:Int) (x:Cell):vE it esc c lang root x=vB it esc c (ak c.aa lang) root x:=by
 unfold vE vB eH;by_cases h1:x.1=1
 ·simp [h1]
 by_cases h2:x.1=2
 ·simp only [h2,show¬ (2:Int)=1 by decide,show¬ (2:Int)=3 by decide,if_false,if_true,false_and];unfold cI;cases hi:aP c.an x.2 with
  | none=>rfl
  | some i=>
   simp only;cases hs:c.an[i]? with
   | none=>rfl
   | some s=>have hm:=List.mem_of_getElem? hs;have ho:=hc.an s hm;exact Kb hit ho.l1 ho.l2 _ _ (fun f hf=>⟨(ho.facts f (ba hf)).E0,(ho.facts f (ba hf)).IL⟩)
 by_cases h3:x.1=3
 ·simp only [h3,show¬ (3:Int)=1 by decide,show¬ (3:Int)=2 by decide,if_false,if_true,true_and]
 ·simp [h1,h2,h3]
def ay (it:Int→ae) (esc:ae→ae) (c:Ct) (root:Int) (lang:ae) (u:Int):List (Cell×ae)×Int:=
 if cZ c root lang≠0 then ([],cZ c root lang) else if bZ it c root u= [] then ([],7) else ((cellsOf u (aX c u lang)).map fun z=>(z,aS it esc c lang root z),0)
end Go.Proofs.YtfnkchadeaedlaaGreatDoor
namespace Go.Proofs.YtfnkchadeaedlaaGreatDoor
variable {it:Int→ae} {esc:ae→ae} {aD:ae→Option ae}
def tr:List (Cell×ae)→Bool
 | []=>true
 | [_]=>true
 | a::b::r=>fc a.1 b.1&&tr (b::r)
theorem Ez: ∀{l:List (Cell×ae)},tr l=true→fD (l.map Prod.fst)
 | [],_=>trivial
 | [a],_=>⟨by simp,trivial⟩
 | a::b::r,h=>by
  simp only [tr,Bool.and_eq_true] at h;have ih:=Ez h.2;refine ⟨fun y hy=> ?_,ih⟩;rcases List.mem_cons.1 hy with hy | hy
  ·rw [hy];exact h.1
  ·exact eJ h.1 (ih.1 y hy)
theorem EA: ∀{l:List (Cell×ae)},fD (l.map Prod.fst)→tr l=true
 | [],_=>rfl
 | [a],_=>rfl
 | a::b::r,h=>by
  simp only [tr,Bool.and_eq_true];exact ⟨h.1 b.1 (by simp),EA h.2⟩
def sV (aD:ae→Option ae) (unit:Int) (l:List (Cell×ae)):Int×Option tf:=if tr l=true then Ka aD unit l else (5,none)
theorem Dk {c:Ct} {lang:ae} {root:Int} {x:Cell} (h:aS it esc c lang root x≠ []):aU c lang=true:=by
 unfold aS at h;split at h
 ·assumption
 ·exact absurd rfl h
theorem pk {c:Ct} {lang:ae} (h:aU c lang=true) (root:Int) {s:Sh} (hs:s∈c.an) {z:Cell} (hz:z∈cellsOf s.unit (aq (ak c.aa lang) s.facts)):aS it esc c lang root z=eH it esc c (ak c.aa lang) root z:=by unfold aS;rw [if_pos h];exact Di (cE (dt h).1) _ root hs hz
theorem cL {c:Ct} {root:Int} {lang:ae} (h:cZ c root lang=0):aU c lang=true:=by obtain ⟨h1,h2,_⟩:=zC h;exact HZ h1 h2
theorem FY {c:Ct} {lang:ae} (h:aU c lang=true) {s:Sh} {k:Nat} (hk:c.an[k]?=some s) (hi:aP c.an s.unit=some k):aX c s.unit lang=aq (ak c.aa lang) s.facts:=by unfold aX gQ cI;rw [if_pos h,hi];simp only [hk]
theorem rV {c:Ct} {root:Int} {lang:ae} (h:cZ c root lang=0) {x:Sh×ae} (hx:x∈bt it root ⟨[], []⟩ c.an):
  ay it esc c root lang x.1.unit=((cellsOf x.1.unit (aq (ak c.aa lang) x.1.facts)).map fun z=>(z,eH it esc c (ak c.aa lang) root z),0):=by
 have hr:=cL h;have hc:=cE (dt hr).1;obtain ⟨n1,n2,n3,k,n4,n5⟩:=dz hc hx;unfold ay;rw [if_neg (by simp [h]),if_neg (by rw [n1];exact n2),FY hr n4 n5];congr 1;exact kf fun z hz=>pk hr root n3 hz
theorem xI {c:Ct} {root u:Int} {lang:ae} (h:(ay it esc c root lang u).2=0):cZ c root lang=0∧ ∃x∈bt it root ⟨[], []⟩ c.an,x.1.unit=u:=by
 unfold ay at h;split at h
 ·rename_i h0;exact absurd h h0
 ·rename_i h0;have h0:cZ c root lang=0:=by simpa using h0
  split at h
  ·cases h
  ·rename_i h1;obtain ⟨y,hy,hyu,_⟩:=qI (cE (dt (cL h0)).1) h1;exact ⟨h0,y,hy,hyu⟩
theorem Dl {c:Ct} {root u:Int} {lang:ae} (h:(ay it esc c root lang u).2≠0):(ay it esc c root lang u).1= []:=by
 unfold ay at h⊢;split
 ·rfl
 ·split
  ·rfl
  ·rename_i h0 h1;rw [if_neg h0,if_neg h1] at h;exact absurd rfl h
theorem FZ (f:Cell→ae) (u:Int) (l:List Fc):tr ((cellsOf u l).map fun z=>(z,f z))=true:=by
 refine EA ?_;rw [List.map_map];have:(Prod.fst∘fun z:Cell=>(z,f z))=id:=by funext z;rfl
 rw [this,List.map_id];exact mV u l
theorem Kc (h1: ∀s,aD (esc s)=some s) (h2: ∀s,(10:UInt8)∉esc s) {c:Ct} {root:Int} {lang:ae} (h:cZ c root lang=0) {x:Sh×ae} (hx:x∈bt it root ⟨[], []⟩ c.an):
  (ay it esc c root lang x.1.unit).2=0∧sV aD x.1.unit (ay it esc c root lang x.1.unit).1=(0,some (dB it (ak c.aa lang) c x)):=by
 rw [rV h hx];refine ⟨rfl,?_⟩;unfold sV;simp only;rw [if_pos (FZ _ _ _)];exact Dh h1 h2 (cE (dt (cL h)).1) _ root hx
def H0 (it:Int→ae) (esc:ae→ae) (c:Ct) (root:Int) (lang:ae) (l:List (Cell×ae)):Bool:=eU (aS it esc c lang root) l
theorem H2 {c:Ct} (hc:gP c) {root:Int} {x:Sh×ae} (hx:x∈bt it root ⟨[], []⟩ c.an): ∃i,aP c.an root=some i:=by
 rw [kM it hc.valid root] at hx;obtain ⟨k,hk,hin,_⟩:=kN c.an 0 x rfl hx;have hroot:root∈chain c.an k:=by simpa [sO] using hin
 obtain ⟨j,s,_,h2,h3⟩:=jR k root hroot;refine ⟨j,?_⟩;rw [←h3];exact gn h2 (hc.valid.uniq j s h2)
theorem H3 {c:Ct} (hc:gP c) {root:Int} {x y:Sh×ae} (hx:x∈bt it root ⟨[], []⟩ c.an) (hy:y∈bt it root ⟨[], []⟩ c.an) (h:x.1.unit=y.1.unit):x=y:=by obtain ⟨n1,_,_,k,n4,n5⟩:=dz hc hx;obtain ⟨m1,_,_,j,m4,m5⟩:=dz hc hy;rw [h,m5] at n5;cases n5;rw [m4] at n4;have e1:y.1=x.1:=Option.some.inj n4;refine Prod.ext e1.symm ?_;rw [←n1,←m1,h]
theorem F0 (order:List ae) (c:Ct) (x:Sh×ae):(dB it order c x).unit=x.1.unit:=rfl
theorem BA {c:Ct} (hc:gP c) {root:Int} (lang:ae) {x:Sh×ae} (hx:x∈bt it root ⟨[], []⟩ c.an):(dP it c root lang).find? (fun s=>decide (s.unit=x.1.unit))=some (dB it (ak c.aa lang) c x):=by
 unfold dP;cases hf:((bt it root ⟨[], []⟩ c.an).map (dB it (ak c.aa lang) c)).find? (fun s=>decide (s.unit=x.1.unit)) with
 | none=>have:=List.find?_eq_none.1 hf _ (List.mem_map.2 ⟨x,hx,rfl⟩);simp [F0] at this
 | some s=>have h1:=List.find?_some hf;have h2:=List.mem_of_find?_eq_some hf;obtain ⟨y,hy,rfl⟩:=List.mem_map.1 h2;have h3:y.1.unit=x.1.unit:=of_decide_eq_true h1;rw [H3 hc hy hx h3]
theorem Nw (h1: ∀s,aD (esc s)=some s) (h2: ∀s,(10:UInt8)∉esc s) {a b:Ct} {root u:Int} {lang:ae} (h:(ay it esc a root lang u).2=0) (hs:H0 it esc b root lang (ay it esc a root lang u).1=false):
  cZ a root lang=0∧cZ b root lang=0∧ ∃s,(dP it a root lang).find? (fun s=>decide (s.unit=u))=some s∧(dP it b root lang).find? (fun s=>decide (s.unit=u))=some s:=by
 obtain ⟨ha0,x,hx,rfl⟩:=xI h;have ha:=cL ha0;have hca:=cE (dt ha).1;rw [rV ha0 hx] at hs
 have hval: ∀z∈cellsOf x.1.unit (aq (ak a.aa lang) x.1.facts),aS it esc b lang root z=eH it esc a (ak a.aa lang) root z:=fun z hz=>by
  unfold H0 eU at hs;rw [List.any_eq_false] at hs;have:=hs (z,eH it esc a (ak a.aa lang) root z) (List.mem_map.2 ⟨z,hz,rfl⟩);simpa using this
 have hz1:(1,x.1.unit)∈cellsOf x.1.unit (aq (ak a.aa lang) x.1.facts):=cV.2 (.inr (.inl rfl));have hne:=yZ (esc:=esc) hca (ak a.aa lang) root hx hz1;have hb:aU b lang=true:=Dk (it:=it) (esc:=esc) (root:=root) (x:=(1,x.1.unit)) (by rw [hval _ hz1];exact hne);have hcb:=cE (dt hb).1
 have hvb: ∀z∈cellsOf x.1.unit (aq (ak a.aa lang) x.1.facts),eH it esc b (ak b.aa lang) root z=eH it esc a (ak a.aa lang) root z:=fun z hz=>by
  have h3:=hval z hz;have hn:=yZ (esc:=esc) hca (ak a.aa lang) root hx hz;rw [←h3];unfold aS at h3⊢;rw [if_pos hb] at h3⊢;unfold vB at h3⊢;split
  ·rename_i h4;rw [if_pos h4] at h3;exact absurd h3.symm hn
  ·rfl
 obtain ⟨y,hy,hyu,hys⟩:=fresh h1 h2 hca hcb (ak a.aa lang) (ak b.aa lang) root hx hvb;obtain ⟨i,hi⟩:=H2 hcb hy
 have hb0:cZ b root lang=0:=by unfold cZ;rw [if_neg (by simp [(dt hb).1]),if_neg (by simp [(dt hb).2]),if_neg (by simp [hi])]
 refine ⟨ha0,hb0,_,BA hca lang hx,?_⟩;have:=BA (it:=it) hcb lang hy;rw [hyu,hys] at this;exact this
theorem mX {c:Ct} {root u:Int} {lang:ae} (h:(ay it esc c root lang u).2=0): ∃S:List Cell,fD S∧(1,u)∈S∧(2,u)∈S∧(ay it esc c root lang u).1=S.map (fun z=>(z,aS it esc c lang root z))∧ ∀z∈S,aS it esc c lang root z≠ []:=by
 obtain ⟨h0,x,hx,rfl⟩:=xI h;have hr:=cL h0;have hc:=cE (dt hr).1;obtain ⟨n1,n2,n3,k,n4,n5⟩:=dz hc hx;refine ⟨cellsOf x.1.unit (aq (ak c.aa lang) x.1.facts),mV _ _,cV.2 (.inr (.inl rfl)),cV.2 (.inr (.inr rfl)),?_,fun z hz=> ?_⟩
 ·rw [rV h0 hx];exact kf fun z hz=>(pk hr root n3 hz).symm
 ·rw [pk hr root n3 hz];exact yZ hc _ root hx hz
end Go.Proofs.YtfnkchadeaedlaaGreatDoor
namespace Go.Proofs.YtfnkchadeaedlaaGreatDoor
def Sh.ib (s:Sh):Sh:=⟨s.unit,s.par,s.level,s.mark,s.title,s.facts,none,0⟩
def Ct.ib (c:Ct):Ct:=⟨c.aa,c.av,c.an.map Sh.ib,none,0,none,0,none,0⟩
def Ct.Lj (a b:Ct):Prop:=a.ib=b.ib
theorem kO: ∀(l:List Sh) (u:Int),aP (l.map Sh.ib) u=aP l u
 | [],_=>rfl
 | s::r,u=>by simp only [List.map_cons,aP,kO r u];rfl
theorem H4 (pre:List Sh) (s:Sh):kU (pre.map Sh.ib) s.ib=kU pre s:=by unfold kU;rw [kO];rfl
theorem xJ (aa:List ae): ∀(l pre:List Sh) (path:List Int),l5 aa (pre.map Sh.ib) path (l.map Sh.ib)=l5 aa pre path l
 | [],_,_=>rfl
 | s::r,pre,path=>by
  have h1:(pre.map Sh.ib)++ [s.ib]=(pre++ [s]).map Sh.ib:=by simp
  have h2:fF path s.ib=fF path s:=rfl;simp only [List.map_cons,l5,H4,h2,h1,xJ aa r];rfl
theorem EB (c:Ct):fX c.ib=fX c:=by
 have h:tP c.aa (c.an.map Sh.ib)=tP c.aa c.an:=by unfold tP;have:=xJ c.aa c.an [] [];rw [List.length_map];rw [show ([]:List Sh).map Sh.ib= [] from rfl] at this;rw [this]
 unfold fX;show (if oC c.aa=0 then (if tO c.aa c.av=0 then tP c.aa (c.an.map Sh.ib) else _) else _)=_;rw [h];rfl
theorem nN (c:Ct) (lang:ae):aU c.ib lang=aU c lang:=by unfold aU;rw [EB];rfl
theorem vF (c:Ct) (root:Int) (lang:ae):cZ c.ib root lang=cZ c root lang:=by unfold cZ;rw [EB,show c.ib.an=c.an.map Sh.ib from rfl,kO];rfl
theorem lL (it:Int→ae) (root:Int): ∀(l:List Sh) (st:NS),bt it root st (l.map Sh.ib)=(bt it root st l).map fun x=>(x.1.ib,x.2)
 | [],_=>rfl
 | s::r,st=>by
  have h:dO it root st s.ib=dO it root st s:=rfl;simp only [List.map_cons,bt,h];rw [show s.ib.unit=s.unit from rfl];cases cO (dO it root st s).C9 s.unit with
  | none=>exact lL it root r _
  | some n=>simp only [List.map_cons];rw [lL it root r]
theorem xK (u:Int): ∀(l:List (Sh×ae)) (f:ae),eS u f (l.map fun x=>(x.1.ib,x.2))=eS u f l
 | [],_=>rfl
 | x::r,f=>by
  simp only [List.map_cons,eS,xK u r];rfl
theorem vG (it:Int→ae) (c:Ct) (root u:Int):bZ it c.ib root u=bZ it c root u:=by unfold bZ;rw [show c.ib.an=c.an.map Sh.ib from rfl,lL,xK]
theorem Dm (c:Ct) (u:Int):cI c.ib u=(cI c u).map Sh.ib:=by
 unfold cI;rw [show c.ib.an=c.an.map Sh.ib from rfl,kO];cases aP c.an u with
 | none=>rfl
 | some i=>simp
theorem F1 (c:Ct) (u:Int):gQ c.ib u=gQ c u:=by unfold gQ;rw [Dm];cases cI c u <;> rfl
theorem Dn (c:Ct) (u:Int) (lang:ae):aX c.ib u lang=aX c u lang:=by unfold aX;rw [nN,F1];rfl
theorem BB (c:Ct):et c.ib.an=et c.an:=by
 funext u;unfold et;rw [show c.ib.an=c.an.map Sh.ib from rfl,kO];cases aP c.an u with
 | none=>rfl
 | some i=>simp only [List.getElem?_map];cases c.an[i]? <;> rfl
theorem H5 (it:Int→ae) (esc:ae→ae) (c:Ct) (order:List ae) (root:Int) (x:Cell):eH it esc c.ib order root x=eH it esc c order root x:=by
 unfold eH;rw [vG,BB,show c.ib.an=c.an.map Sh.ib from rfl,kO];cases aP c.an x.2 with
 | none=>rfl
 | some i=>simp only [List.getElem?_map];cases c.an[i]? <;> rfl
theorem vH (it:Int→ae) (esc:ae→ae) (c:Ct) (lang:ae) (root:Int):aS it esc c.ib lang root=aS it esc c lang root:=by funext x;unfold aS vB;rw [nN,H5];rfl
theorem xL (it:Int→ae) (esc:ae→ae) (c:Ct) (root:Int) (lang:ae) (u:Int):ay it esc c.ib root lang u=ay it esc c root lang u:=by unfold ay;rw [vF,vG,Dn,vH]
theorem Kd (it:Int→ae) (order:List ae) (c:Ct) (d:Int):pC it order c.ib d=pC it order c d:=by funext f;unfold pC;rw [BB];rfl
theorem Ke (it:Int→ae) (order:List ae) (c:Ct) (x:Sh×ae):dB it order c.ib (x.1.ib,x.2)=dB it order c x:=by unfold dB;rw [Kd];rfl
theorem EC (it:Int→ae) (c:Ct) (root:Int) (lang:ae):dP it c.ib root lang=dP it c root lang:=by unfold dP;rw [show c.ib.an=c.an.map Sh.ib from rfl,lL,List.map_map];refine List.map_congr_left fun x _=> ?_;exact Ke it _ c x
section
variable {a b:Ct} (h:a.Lj b)
include h
theorem Ct.Lj.right (lang:ae):aU a lang=aU b lang:=by rw [←nN a,←nN b,h]
theorem Ct.Lj.comp (root:Int) (lang:ae):cZ a root lang=cZ b root lang:=by rw [←vF a,←vF b,h]
theorem Ct.Lj.aS (it:Int→ae) (esc:ae→ae) (lang:ae) (root:Int):aS it esc a lang root=aS it esc b lang root:=by rw [←vH it esc a,←vH it esc b,h]
theorem Ct.Lj.reads (it:Int→ae) (esc:ae→ae) (root:Int) (lang:ae) (u:Int):ay it esc a root lang u=ay it esc b root lang u:=by rw [←xL it esc a,←xL it esc b,h]
theorem Ct.Lj.Tx (it:Int→ae) (root:Int) (lang:ae):dP it a root lang=dP it b root lang:=by rw [←EC it a,←EC it b,h]
end
end Go.Proofs.YtfnkchadeaedlaaGreatDoor
