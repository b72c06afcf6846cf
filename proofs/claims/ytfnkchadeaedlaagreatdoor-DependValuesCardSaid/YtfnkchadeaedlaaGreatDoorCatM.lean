/-
 Catalogs as plain values: their faults, the way to a sheet, the numbers of sections: the program's way and the reference's are one. No program. Catalogs as plain values: preferences, chosen facts, labels: the program's way and the reference's are one. No program. What a catalog without a fault is. No program. The piece of a text with the number of a unit: the program's way and the reference's are one. No program. Citations, expanded texts, sections, the number of a unit's section, finding aids: in plain words, the program's way and the reference's are one. No program. The text of a unit, read by the program's way and by the reference's: the fact of a line. No program. Texts split at a byte. No program. The text of a unit, read by the program's way and by the reference's. No program. The text of a unit is read back. No program. The reads of a section, and the section from its reads: it is that of the finding aid. No program. Reads that are not stale: the other catalog's section is the same. No program. Values of the cells that a section reads are there; stale reads and differences. No program. The section from reads of any kind: the program notes that a read is missing and goes on, the reference stops. No program. What the functions of packages aid and depend answer, as plain functions; the reference's way is the program's. No program. The laws of package depend, as plain facts. No program. How a catalog's slices came in does not matter for any answer. No program.
-/
import Derived.Test.YtfnkchadeaedlaaGreatDoorStrM
set_option linter.all false
namespace Go.Proofs.YtfnkchadeaedlaaGreatDoor
def kz (e:Int) (s:af) (f:Int) (t:af):Bool:=decide (e<f∨e=f∧Lib.compareBytes s t<0)
structure Lb where
 el:Int
 lang:af
 text:af
 ix:Int
structure Fc where
 el:Int
 lang:af
 text:af
structure Sh where
 unit:Int
 par:Int
 level:Int
 mark:af
 title:af
 facts:List Fc
 fn:Option Bool
 fz:Nat
structure Ct where
 aa:List af
 aq:List Lb
 ag:List Sh
 ln:Option Bool
 lz:Nat
 bn:Option Bool
 bz:Nat
 sn:Option Bool
 sz:Nat
def yz (s:af):Bool:=decide (s.length=2)&&(decide (97≤(s.getD 0 0).toNat∧(s.getD 0 0).toNat≤122)&&decide (97≤(s.getD 1 0).toNat∧(s.getD 1 0).toNat≤122))
def bX (l:List af) (s:af):Bool:=l.any (s== ·)
def dG:List af→List af→Int
 | _, []=>0
 | pre,s::r=>if yz s=false then 4 else if bX pre s=true then 6 else dG (pre++ [s]) r
def j4 (l:List af):Int:=if l.length<1∨8<l.length then 2 else dG [] l
def q9 (aa:List af) (p:Option Lb) (l:Lb):Int:=
 if l.el<1∨64<l.el∨l.ix<0∨3<l.ix then 2 else if bX aa l.lang=false then 7 else if l.text.length<1∨64<l.text.length then 4 else
 match p with
 | none=>0
 | some p=>if kz p.el p.lang l.el l.lang=false then 5 else if p.el=l.el∧p.ix≠l.ix then 10 else 0
def ey (aa:List af):Option Lb→List Lb→Int
 | _, []=>0
 | p,l::r=>if q9 aa p l=0 then ey aa (some l) r else q9 aa p l
def oo (aa:List af) (l:List Lb):Int:=if 256<l.length then 8 else ey aa none l
def tF (aa:List af) (p:Option Fc) (f:Fc):Int:=
 if f.el<1∨64<f.el then 2 else if bX aa f.lang=false then 7 else if f.text.length<1∨4096<f.text.length then 4 else
 match p with
 | none=>0
 | some p=>if kz p.el p.lang f.el f.lang=false then 5 else 0
def ez (aa:List af):Option Fc→List Fc→Int
 | _, []=>0
 | p,f::r=>if tF aa p f=0 then ez aa (some f) r else tF aa p f
def jA (aa:List af) (l:List Fc):Int:=if 32<l.length then 8 else ez aa none l
def aG:List Sh→Int→Option Nat
 | [],_=>none
 | s::r,u=>if s.unit=u then some 0 else (aG r u).map (· +1)
def oN:List Int→Int→Option Nat
 | [],_=>none
 | x::r,u=>if x=u then some 0 else (oN r u).map (· +1)
def az (o:Option Nat):Int:=match o with | some n=>n | none=> -1
def jv (pre:List Sh) (s:Sh):Int:=
 if s.unit<1∨1073741824<s.unit∨s.level<1∨4<s.level then 2 else
 if 64<s.mark.length∨s.title.length<1∨64<s.title.length then 4 else if (aG pre s.unit).isSome=true then 6 else 0
def fQ (path:List Int) (s:Sh):Option Nat:=if s.par=0 then some 0 else (oN path s.par).map (· +1)
def me (aa:List af):List Sh→List Int→List Sh→Int
 | _,_, []=>0
 | pre,path,s::r=>if jv pre s=0 then
   (match fQ path s with
   | none=>7
   | some k=>if 12≤k then 15 else if jA aa s.facts=0 then me aa (pre++ [s]) (path.take k++ [s.unit]) r else jA aa s.facts)
  else jv pre s
def uj (aa:List af) (l:List Sh):Int:=if 256<l.length then 8 else me aa [] [] l
def dh (c:Ct):Int:=if j4 c.aa=0 then (if oo c.aa c.aq=0 then uj c.aa c.ag else oo c.aa c.aq) else j4 c.aa
theorem cB: ∀{l:List Sh} {u:Int} {k:Nat},aG l u=some k→k<l.length
 | s::r,u,k,h=>by
  unfold aG at h;split at h
  ·cases h;simp
  ·cases hr:aG r u with
   | none=>rw [hr] at h;cases h
   | some j=>rw [hr] at h;simp only [Option.map_some,Option.some.injEq] at h;have:=cB hr;simp only [List.length_cons];omega
def chain (l:List Sh) (i:Nat):List Int:=
 match h:l[i]? with
 | none=> []
 | some s=>s.unit::(if s.par=0 then [] else
  match hj:aG (l.take i) s.par with
  | some j=>chain l j
  | none=> [])
termination_by i
decreasing_by
 have:=cB hj;simp only [List.length_take] at this;omega
def gz (l:List Sh) (i:Nat) (s:Sh):Option Nat:=
 if s.par=0 then some 0 else if i=0 then none else if (chain l (i-1)).contains s.par=true then
  some (match aG (l.take i) s.par with | some j=>(chain l j).length | none=>0) else none
def qO (aa:List af) (l:List Sh) (i:Nat) (s:Sh):Int:=
 if jv (l.take i) s=0 then
  (match gz l i s with
  | none=>7
  | some k=>if 12≤k then 15 else jA aa s.facts)
 else jv (l.take i) s
def kj (aa:List af) (l:List Sh):Nat→List Sh→Int
 | _, []=>0
 | i,s::r=>if qO aa l i s=0 then kj aa l (i+1) r else qO aa l i s
def K0 (aa:List af) (l:List Sh):Int:=if 256<l.length then 8 else kj aa l 0 l
theorem cA {l:List Sh} {i:Nat} {s:Sh} (h:l[i]?=some s):chain l i=s.unit::(if s.par=0 then [] else match aG (l.take i) s.par with | some j=>chain l j | none=> []):=by
 rw [chain];split
 ·rename_i h';rw [h'] at h;cases h
 ·rename_i s' h';rw [h'] at h;cases h;congr 1;split
  ·rfl
  ·split
   ·rename_i h1;rw [h1]
   ·rename_i h1;rw [h1]
theorem nf: ∀{l:List Sh} {u:Int} {k:Nat},aG l u=some k→ ∃s,l[k]?=some s∧s.unit=u
 | s::r,u,k,h=>by
  unfold aG at h;split at h
  ·cases h;exact ⟨s,rfl,by assumption⟩
  ·cases hr:aG r u with
   | none=>rw [hr] at h;cases h
   | some j=>rw [hr] at h;simp only [Option.map_some,Option.some.injEq] at h;subst h;obtain ⟨x,h1,h2⟩:=nf hr;exact ⟨x,by simpa using h1,h2⟩
def kg (l:List Sh):Prop:= ∀(i:Nat) (s:Sh),l[i]?=some s→aG (l.take i) s.unit=none
theorem nQ: ∀{l:List Sh} {j:Nat} {s:Sh},l[j]?=some s→aG (l.take j) s.unit=none→aG l s.unit=some j
 | x::r,0,s,h,_=>by cases h;simp [aG]
 | x::r,j+1,s,h,hn=>by
  simp only [List.take_succ_cons,aG] at hn;split at hn
  ·cases hn
  ·rename_i hx
   rw [aG,if_neg hx,nQ (l:=r) (j:=j) h (by
    cases hr:aG (r.take j) s.unit with
    | none=>rfl
    | some k=>rw [hr] at hn;cases hn)]
   rfl
theorem vS {l:List Sh}: ∀(i:Nat) (u:Int),u∈chain l i→ ∃(p:List Int) (j:Nat) (s:Sh),j≤i∧l[j]?=some s∧s.unit=u∧chain l i=p++chain l j∧u∉p:=by
 intro i
 induction i using Nat.strongRecOn with
 | _ i ih=>
  intro u hu;cases hs:l[i]? with
  | none=>
   rw [chain] at hu;split at hu
   ·cases hu
   ·rename_i h;rw [hs] at h;cases h
  | some s=>
   by_cases hsu:s.unit=u
   ·exact ⟨[],i,s,Nat.le_refl _,hs,hsu,rfl,by simp⟩
   ·rw [cA hs] at hu⊢;rcases List.mem_cons.1 hu with rfl | hu
    ·exact absurd rfl hsu
    ·split at hu
     ·cases hu
     ·rename_i hp;rw [if_neg hp];split at hu
      ·rename_i j hj;have hlt:=cB hj;simp only [List.length_take] at hlt;obtain ⟨p,k,t,h1,h2,h3,h4,h5⟩:=ih j (by omega) u hu;refine ⟨s.unit::p,k,t,by omega,h2,h3,by rw [h4];rfl,?_⟩;simp only [List.mem_cons,not_or];exact ⟨fun h=>hsu h.symm,h5⟩
      ·cases hu
theorem ng {l:List Sh} (i:Nat) (u:Int) (h:u∈chain l i): ∃(j:Nat) (s:Sh),j≤i∧l[j]?=some s∧s.unit=u:=by obtain ⟨_,j,s,h1,h2,h3,_⟩:=vS i u h;exact ⟨j,s,h1,h2,h3⟩
theorem DT {l:List Sh} {j:Nat} {s:Sh} (h:l[j]?=some s): ∃t,chain l j=s.unit::t:=⟨_,cA h⟩
theorem nR {l:List Sh} (hu:kg l) {i j:Nat} {s t:Sh} (h1:l[i]?=some s) (h2:l[j]?=some t) (h:s.unit=t.unit):i=j:=by have e1:=nQ h1 (hu i s h1);have e2:=nQ h2 (hu j t h2);rw [h] at e1;rw [e1] at e2;exact Option.some.inj e2
theorem BO {l:List Sh} (hu:kg l): ∀i,(chain l i).Nodup:=by
 intro i
 induction i using Nat.strongRecOn with
 | _ i ih=>
  cases hs:l[i]? with
  | none=>
   rw [chain];split
   ·exact List.nodup_nil
   ·rename_i h;rw [hs] at h;cases h
  | some s=>
   rw [cA hs];split
   ·simp
   ·split
    ·rename_i j hj;have hlt:=cB hj;simp only [List.length_take] at hlt;refine List.nodup_cons.2 ⟨fun hm=> ?_,ih j (by omega)⟩;obtain ⟨k,t,h1,h2,h3⟩:=ng j _ hm;have:=nR hu h2 hs h3;omega
    ·simp
theorem BP: ∀(a:List Int) (u:Int) (b:List Int),u∉a→oN (a++u::b) u=some a.length
 | [],u,b,_=>by simp [oN]
 | x::a,u,b,h=>by
  simp only [List.mem_cons,not_or] at h;rw [List.cons_append,oN,if_neg (fun hx=>h.1 hx.symm),BP a u b h.2];rfl
theorem xU: ∀(a:List Int) (u:Int),u∉a→oN a u=none
 | [],u,_=>rfl
 | x::a,u,h=>by
  simp only [List.mem_cons,not_or] at h;rw [oN,if_neg (fun hx=>h.1 hx.symm),xU a u h.2];rfl
theorem xV {l:List Sh} (hu:kg l) {i j:Nat} {s:Sh} (hj:l[j]?=some s) (hji:j<i):aG (l.take i) s.unit=some j:=by refine nQ (l:=l.take i) (by rw [List.getElem?_take,if_pos hji];exact hj) ?_;rw [List.take_take,Nat.min_eq_left (by omega)];exact hu j s hj
def gA (l:List Sh) (i:Nat):List Int:=if i=0 then [] else (chain l (i-1)).reverse
theorem DU {l:List Sh} (hu:kg l) (i:Nat) (s:Sh) (hs:l[i]?=some s):
  fQ (gA l i) s=gz l i s∧ ∀k,fQ (gA l i) s=some k→(gA l i).take k++ [s.unit]=(chain l i).reverse:=by
 unfold fQ gz gA;by_cases hp:s.par=0
 ·rw [if_pos hp,if_pos hp];refine ⟨rfl,fun k hk=> ?_⟩;cases hk;rw [cA hs,if_pos hp];simp
 ·rw [if_neg hp,if_neg hp];by_cases h0:i=0
  ·rw [if_pos h0,if_pos h0];exact ⟨rfl,fun k hk=>by cases hk⟩
  ·rw [if_neg h0,if_neg h0];by_cases hm:s.par∈chain l (i-1)
   ·obtain ⟨p,j,t,h1,h2,h3,h4,h5⟩:=vS (i-1) s.par hm;obtain ⟨r,hr⟩:=DT h2;have hnd:=BO hu (i-1)
    have e1:(chain l (i-1)).reverse=r.reverse++s.par::p.reverse:=by rw [h4,hr,h3];simp
    have hnr:s.par∉r.reverse:=by rw [h4,hr,h3] at hnd;have:=(List.nodup_append.1 hnd).2.1;exact fun h=>(List.nodup_cons.1 this).1 (List.mem_reverse.1 h)
    have e2:oN ((chain l (i-1)).reverse) s.par=some r.length:=by rw [e1,BP _ _ _ hnr,List.length_reverse]
    have e3:aG (l.take i) s.par=some j:=by rw [←h3];exact xV hu h2 (by omega)
    rw [e2,if_pos (by simpa using hm),e3];refine ⟨by simp [hr],fun k hk=> ?_⟩;simp only [Option.map_some,Option.some.injEq] at hk;subst hk;rw [cA hs,if_neg hp,e3,e1];simp only [hr,h3];simp [List.take_append];rw [List.take_of_length_le (by simp)]
   ·rw [xU _ _ (fun h=>hm (List.mem_reverse.1 h)),if_neg (by simpa using hm)];exact ⟨rfl,fun k hk=>by cases hk⟩
theorem lT {l:List Sh} {n:Nat}: ∀i,i<n→chain (l.take n) i=chain l i:=by
 intro i
 induction i using Nat.strongRecOn with
 | _ i ih=>
  intro hi;have hg:(l.take n)[i]?=l[i]?:=by rw [List.getElem?_take,if_pos hi]
  cases hs:l[i]? with
  | none=>
   rw [chain,chain];split
   ·split
    ·rfl
    ·rename_i h;rw [hs] at h;cases h
   ·rename_i h;rw [hg,hs] at h;cases h
  | some s=>
   rw [cA hs,cA (hg.trans hs),List.take_take,Nat.min_eq_left (by omega)];congr 1;split
   ·rfl
   ·split
    ·rename_i j hj;have hlt:=cB hj;simp only [List.length_take] at hlt;exact ih j (by omega) (by omega)
    ·rfl
theorem BQ {l:List Sh} {n i:Nat} (h:i<n) (s:Sh):gz (l.take n) i s=gz l i s:=by
 unfold gz;by_cases h0:i=0
 ·subst h0;rfl
 ·rw [List.take_take,Nat.min_eq_left (by omega),lT (i-1) (by omega)];congr 3;split
  ·rename_i j hj;have hlt:=cB hj;simp only [List.length_take] at hlt;rw [lT j (by omega)]
  ·rfl
theorem tr (aa:List af) (l:List Sh): ∀(r pre:List Sh),l=pre++r→kg pre→me aa pre (gA l pre.length) r=kj aa l pre.length r
 | [],_,_,_=>rfl
 | s::r,pre,hl,hu=>by
  have hs:l[pre.length]?=some s:=by rw [hl];simp
  have ht:l.take pre.length=pre:=by rw [hl];simp
  unfold me kj qO;rw [ht];by_cases h1:jv pre s=0
  ·have hn:aG pre s.unit=none:=by
    unfold jv at h1;split at h1
    ·cases h1
    ·split at h1
     ·cases h1
     ·split at h1
      ·cases h1
      ·rename_i h;simpa using h
   have hu':kg (pre++ [s]):=fun i t hi=>by
    rcases Nat.lt_trichotomy i pre.length with h | h | h
    ·rw [List.getElem?_append_left h] at hi;rw [List.take_append_of_le_length (by omega)];exact hu i t hi
    ·subst h;simp at hi;subst hi;simp [hn]
    ·rw [List.getElem?_eq_none (by simp;omega)] at hi;cases hi
   have hpl: ∀m,fQ (gA l pre.length) s=m→gz l pre.length s=m∧ ∀k,m=some k→(gA l pre.length).take k++ [s.unit]=gA l (pre++ [s]).length:=fun m hm=>by
    have hw:l.take (pre.length+1)=pre++ [s]:=by rw [hl];simp [List.take_append];rw [List.take_of_length_le (by omega)]
    have key:=DU (l:=pre++ [s]) hu' pre.length s (by simp);rw [←hw,BQ (by omega),lT _ (by omega)] at key
    have hp:gA (l.take (pre.length+1)) pre.length=gA l pre.length:=by
     unfold gA;split
     ·rfl
     ·rw [lT _ (by omega)]
    rw [hp,hm] at key;refine ⟨key.1.symm,fun k hk=> ?_⟩;rw [key.2 k hk];unfold gA;simp
   rw [if_pos h1,if_pos h1];cases hm:fQ (gA l pre.length) s with
   | none=>rw [(hpl _ hm).1];rfl
   | some k=>
    obtain ⟨e1,e2⟩:=hpl _ hm;rw [e1];simp only;by_cases hk:12≤k
    ·rw [if_pos hk,if_pos hk];rfl
    ·rw [if_neg hk,if_neg hk];by_cases hf:jA aa s.facts=0
     ·rw [if_pos hf,if_pos hf,e2 k rfl];have:=tr aa l r (pre++ [s]) (by rw [hl];simp) hu';rw [this];simp
     ·rw [if_neg hf,if_neg hf]
  ·rw [if_neg h1,if_neg h1,if_neg h1]
theorem BR (aa:List af) (l:List Sh):uj aa l=K0 aa l:=by
 unfold uj K0;split
 ·rfl
 ·have:=tr aa l l [] rfl (fun i s h=>by simp at h);exact this
variable (it:Int→af)
def cW {α:Type}:List (Int×α)→Int→Option α
 | [],_=>none
 | (x,v)::r,u=>if x=u then some v else cW r u
def jx {α:Type}:List (Int×α)→Int→α→List (Int×α)
 | [],u,v=> [(u,v)]
 | (x,w)::r,u,v=>if x=u then (x,v)::r else (x,w)::jx r u v
theorem gI {α:Type}: ∀(l:List (Int×α)) (u:Int) (v:α) (t:Int),cW (jx l u v) t=if u=t then some v else cW l t
 | [],u,v,t=>by simp [jx,cW]
 | (x,w)::r,u,v,t=>by
  unfold jx;by_cases h:x=u
  ·subst h;rw [if_pos rfl];simp only [cW];split <;> rfl
  ·rw [if_neg h];simp only [cW,gI r u v t];by_cases h2:x=t
   ·rw [if_pos h2,if_pos h2,if_neg (fun h3=>h (h2.trans h3.symm))]
   ·rw [if_neg h2,if_neg h2]
structure NS where
 DV:List (Int×af)
 kids:List (Int×Int)
def dY (root:Int) (st:NS) (s:Sh):NS:=
 if s.unit=root then ⟨jx st.DV s.unit [49],st.kids⟩ else
 match cW st.DV s.par with
 | some above=>⟨jx st.DV s.unit (above++ [46]++it ((cW st.kids s.par).getD 0+1)),jx st.kids s.par ((cW st.kids s.par).getD 0+1)⟩
 | none=>st
def dj (root:Int):NS→List Sh→List (Sh×af)
 | _, []=> []
 | st,s::r=>match cW (dY it root st s).DV s.unit with
  | some n=>(s,n)::dj root (dY it root st s) r
  | none=>dj root (dY it root st s) r
def rZ (p:Nat→Bool):Nat→Nat
 | 0=>0
 | n+1=>rZ p n+if p n=true then 1 else 0
theorem xW {p q:Nat→Bool}: ∀n,(∀k,k<n→p k=q k)→rZ p n=rZ q n
 | 0,_=>rfl
 | n+1,h=>by rw [rZ,rZ,xW n (fun k hk=>h k (by omega)),h n (by omega)]
def r7 (l:List Sh) (u:Int) (k:Nat):Bool:=match l[k]? with | some s=>decide (s.par=u) | none=>false
def kX (l:List Sh) (root:Int) (i:Nat):af:=
 match l[i]? with
 | none=> []
 | some s=>if s.unit=root then [49] else
  (match hj:aG (l.take i) s.par with
  | some j=>kX l root j
  | none=> [])++ [46]++it (rZ (r7 l s.par) (i+1))
termination_by i
decreasing_by
 have:=cB hj;simp only [List.length_take] at this;omega
theorem r8 {l:List Sh} {root:Int} {i:Nat} {s:Sh} (h:l[i]?=some s):kX it l root i=if s.unit=root then [49] else (match aG (l.take i) s.par with | some j=>kX it l root j | none=> [])++ [46]++it (rZ (r7 l s.par) (i+1)):=by
 rw [kX,h];simp only;split
 ·rfl
 ·congr 2;split
  ·rename_i h1;rw [h1]
  ·rename_i h1;rw [h1]
structure Valid (l:List Sh):Prop where
 uniq:kg l
 par: ∀(i:Nat) (s:Sh),l[i]?=some s→s.par≠0→ ∃j,aG (l.take i) s.par=some j
 pos: ∀s∈l,1≤s.unit
def pz (l:List Sh) (root:Int) (i:Nat):Bool:=(chain l i).contains root
def fG (l:List Sh) (root:Int):Nat→List Sh→List (Sh×af)
 | _, []=> []
 | i,s::r=>if pz l root i=true then (s,kX it l root i)::fG l root (i+1) r else fG l root (i+1) r
def DW (l:List Sh) (root u:Int) (k:Nat):Bool:=match l[k]? with | some s=>decide (s.par=u)&&(pz l root k&&decide (s.unit≠root)) | none=>false
theorem kY: ∀(pre:List Sh) (s:Sh) (u:Int),aG (pre++ [s]) u=match aG pre u with | some j=>some j | none=>if s.unit=u then some pre.length else none
 | [],s,u=>by simp [aG]
 | x::r,s,u=>by
  rw [List.cons_append,aG,aG,kY r s u];by_cases h:x.unit=u
  ·simp [h]
  ·simp only [if_neg h];cases aG r u with
   | some j=>rfl
   | none=>simp only [Option.map_none,List.length_cons];split <;> rfl
theorem IG {l:List Sh} {i:Nat} {u:Int} (hu:kg l) (h:u∈chain l i) {k:Nat} {s:Sh} (hk:l[k]?=some s) (hs:s.unit=u):k≤i:=by obtain ⟨j,t,h1,h2,h3⟩:=ng i u h;have:=nR hu hk h2 (by rw [hs,h3]);omega
theorem xX {l:List Sh} (hv:Valid l) (root:Int): ∀(r pre:List Sh) (st:NS),l=pre++r→
  (∀u,cW st.DV u=match aG pre u with | some j=>if pz l root j=true then some (kX it l root j) else none | none=>none)→
  (∀u,(cW st.kids u).getD 0=(rZ (DW l root u) pre.length:Int))→dj it root st r=fG it l root pre.length r
 | [],_,_,_,_,_=>rfl
 | s::r,pre,st,hl,hA,hB=>by
  have hs:l[pre.length]?=some s:=by rw [hl];simp
  have ht:l.take pre.length=pre:=by rw [hl];simp
  have hn:aG pre s.unit=none:=by have:=hv.uniq _ _ hs;rwa [ht] at this
  have hl':l=(pre++ [s])++r:=by rw [hl];simp
  have hch:=cA hs;rw [ht] at hch;have hnum:=r8 it (root:=root) hs;rw [ht] at hnum
  have hown: ∀u,rZ (DW l root u) (pre++ [s]).length=rZ (DW l root u) pre.length+if (decide (s.par=u)&&(pz l root pre.length&&decide (s.unit≠root)))=true then 1 else 0:=fun u=>by
   rw [List.length_append,List.length_singleton,rZ];congr 2;unfold DW;rw [hs]
  -- the step
  have step: ∃st',dY it root st s=st'∧(∀u,cW st'.DV u=match aG (pre++ [s]) u with | some j=>if pz l root j=true then some (kX it l root j) else none | none=>none)∧
    (∀u,(cW st'.kids u).getD 0=(rZ (DW l root u) (pre++ [s]).length:Int)):=by
   refine ⟨_,rfl,?_⟩;unfold dY;by_cases hr:s.unit=root
   ·rw [if_pos hr];rw [if_pos hr] at hnum;have hin:pz l root pre.length=true:=by unfold pz;rw [hch,hr];simp
    constructor
    ·intro u;simp only [gI,kY,hA u];by_cases hu:s.unit=u
     ·subst hu;rw [if_pos rfl,hn];simp only [if_true,hin,hnum]
     ·rw [if_neg hu];cases aG pre u with
      | some j=>rfl
      | none=>simp only [if_neg hu]
    ·intro u;rw [hB u,hown u];simp [hr]
   ·rw [if_neg hr];rw [if_neg hr] at hnum;have hA':=hA s.par;by_cases hp:s.par=0
    ·have h0:aG pre s.par=none:=by
      cases h:aG pre s.par with
      | none=>rfl
      | some j=>obtain ⟨t,h1,h2⟩:=nf h;have:=hv.pos t (by rw [hl];exact List.mem_append_left _ (List.mem_of_getElem? h1));omega
     rw [h0] at hA';simp only [hA'];rw [if_pos hp] at hch;have hin:pz l root pre.length=false:=by unfold pz;rw [hch];simpa using fun h=>hr h.symm
     constructor
     ·intro u;rw [hA u,kY];cases hx:aG pre u with
      | some j=>rfl
      | none=>
       by_cases hu:s.unit=u
       ·simp [hu,hin]
       ·simp [hu]
     ·intro u;rw [hB u,hown u,hin];simp
    ·obtain ⟨j,hj⟩:=hv.par _ _ hs hp;rw [ht] at hj;rw [hj] at hA' hch hnum;rw [if_neg hp] at hch;simp only at hA' hch hnum;have hjl:=cB hj;obtain ⟨t,hjt,htu⟩:=nf hj;have hjt':l[j]?=some t:=by rw [hl,List.getElem?_append_left hjl];exact hjt
     have hin:pz l root pre.length=pz l root j:=by unfold pz;rw [hch,List.contains_cons,show (root==s.unit)=false from by simpa using fun h=>hr h.symm];rfl
     by_cases hrj:pz l root j=true
     ·rw [hrj] at hin;rw [if_pos hrj] at hA';rw [hA']
      have hcnt:rZ (DW l root s.par) pre.length=rZ (r7 l s.par) pre.length:=xW _ fun k hk=>by
       unfold DW r7;cases hkx:l[k]? with
       | none=>rfl
       | some x=>
        simp only;by_cases hx:x.par=s.par
        ·have hx0:x.par≠0:=by rw [hx];exact hp
         obtain ⟨m,hm⟩:=hv.par _ _ hkx hx0;have hm2:=nf hm;obtain ⟨y,hy1,hy2⟩:=hm2;have hmk:=cB hm;simp only [List.length_take] at hmk;rw [List.getElem?_take,if_pos (by omega)] at hy1;have hmj:=nR hv.uniq hy1 hjt' (by rw [hy2,htu,hx]);subst hmj;have hck:=cA hkx;rw [if_neg hx0,hm] at hck;simp only at hck;have hroot:root∈chain l m:=by simpa [pz] using hrj
         have hxr:x.unit≠root:=fun h=>by
          have:=IG hv.uniq hroot hkx h;omega
         have:pz l root k=true:=by unfold pz;rw [hck];simp [hroot]
         simp [hx,this,hxr]
        ·simp [hx]
      have hcnt2:rZ (r7 l s.par) (pre.length+1)=rZ (r7 l s.par) pre.length+1:=by
       rw [rZ];have:r7 l s.par pre.length=true:=by unfold r7;rw [hs];simp
       rw [this];rfl
      have hk:=hB s.par;rw [hcnt] at hk;rw [hcnt2] at hnum
      have hnum':kX it l root pre.length=kX it l root j++ [46]++it ((cW st.kids s.par).getD 0+1):=by rw [hnum,hk];rfl
      constructor
      ·intro u;simp only [gI,kY];by_cases hu:s.unit=u
       ·subst hu;rw [if_pos rfl,hn];simp only [if_true,hin,hnum']
       ·rw [if_neg hu,hA u];cases aG pre u with
        | some j=>rfl
        | none=>simp only [if_neg hu]
      ·intro u;simp only [gI];rw [hown u,hin];by_cases hu:s.par=u
       ·subst hu;rw [if_pos rfl];rw [hB s.par];simp [hr]
       ·rw [if_neg hu,hB u];simp [hu]
     ·have hrj:pz l root j=false:=by simpa using hrj
      rw [hrj] at hin;rw [hrj] at hA';simp only [Bool.false_eq_true,if_false] at hA';rw [hA'];constructor
      ·intro u;rw [hA u,kY];cases hx:aG pre u with
       | some j=>rfl
       | none=>
        by_cases hu:s.unit=u
        ·simp [hu,hin]
        ·simp [hu]
      ·intro u;rw [hB u,hown u,hin];simp
  obtain ⟨st',e,hA2,hB2⟩:=step;have ih:=xX hv root r (pre++ [s]) st' hl' hA2 hB2;have hself:=hA2 s.unit;rw [kY,hn] at hself;simp only [if_true] at hself;unfold dj fG;rw [e,hself];by_cases hin:pz l root pre.length=true
  ·rw [if_pos hin,if_pos hin];simp only [ih,List.length_append,List.length_singleton]
  ·rw [if_neg hin,if_neg hin];simp only [ih,List.length_append,List.length_singleton]
theorem Gy {l:List Sh} (hv:Valid l) (root:Int):dj it root ⟨[], []⟩ l=fG it l root 0 l:=
 xX it hv root l [] ⟨[], []⟩ rfl (fun u=>rfl) (fun u=>rfl)
end Go.Proofs.YtfnkchadeaedlaaGreatDoor
namespace Go.Proofs.YtfnkchadeaedlaaGreatDoor
def fO:List af→af→Option Nat
 | [],_=>none
 | x::r,s=>if x=s then some 0 else (fO r s).map (· +1)
theorem qP: ∀{l:List af} {s:af} {k:Nat},fO l s=some k→l[k]?=some s
 | x::r,s,k,h=>by
  unfold fO at h;split at h
  ·rename_i hx;cases h;simp [hx]
  ·cases hr:fO r s with
   | none=>rw [hr] at h;cases h
   | some j=>rw [hr] at h;simp only [Option.map_some,Option.some.injEq] at h;subst h;simpa using qP hr
theorem BS {l:List af} {s t:af} {k:Nat} (h1:fO l s=some k) (h2:fO l t=some k):s=t:=by have e1:=qP h1;have e2:=qP h2;rw [e1] at e2;exact Option.some.inj e2
theorem mf: ∀{l:List af} {s:af},bX l s=true→ ∃k,fO l s=some k
 | [],s,h=>by simp [bX] at h
 | x::r,s,h=>by
  unfold fO;by_cases hx:x=s
  ·exact ⟨0,by rw [if_pos hx]⟩
  ·have:bX r s=true:=by unfold bX at h⊢;rw [List.any_cons,show (s==x)=false from by simpa using fun h=>hx h.symm] at h;simpa using h
   obtain ⟨k,hk⟩:=mf this;exact ⟨k+1,by rw [if_neg hx,hk];rfl⟩
def av (l:List af) (s:af):List af:=match fO l s with | some i=>s::(l.take i++l.drop (i+1)) | none=> []
def au (l:List af) (s:af):List af:=s::l.filter (fun x=> !(x==s))
def Diff:List af→Prop
 | []=>True
 | x::r=>x∉r∧Diff r
theorem filter_all: ∀(l:List af) (s:af),s∉l→l.filter (fun x=> !(x==s))=l
 | [],_,_=>rfl
 | x::r,s,h=>by
  simp only [List.mem_cons,not_or] at h;rw [List.filter_cons,show (!(x==s))=true from by simpa using fun hx=>h.1 hx.symm,filter_all r s h.2];rfl
theorem nh: ∀{l:List af} {s:af},Diff l→bX l s=true→av l s=au l s
 | [],s,_,h=>by simp [bX] at h
 | x::r,s,hd,h=>by
  unfold av au;by_cases hx:x=s
  ·subst hx;rw [fO,if_pos rfl];simp only [List.take_zero,List.nil_append,Nat.zero_add,List.drop_succ_cons,List.drop_zero];rw [List.filter_cons];simp only [beq_self_eq_true,Bool.not_true,Bool.false_eq_true,if_false];rw [filter_all r x hd.1]
  ·have hr:bX r s=true:=by unfold bX at h⊢;rw [List.any_cons,show (s==x)=false from by simpa using fun h=>hx h.symm] at h;simpa using h
   obtain ⟨k,hk⟩:=mf hr;have ih:=nh hd.2 hr;unfold av au at ih;rw [hk] at ih;rw [fO,if_neg hx,hk];simp only [Option.map_some,List.take_succ_cons,List.drop_succ_cons,List.cons_append];rw [List.filter_cons,show (!(x==s))=true from by simpa using hx,if_pos rfl];have:=(List.cons.inj ih).2;rw [this]
theorem vT {l:List af} {s t:af} (ht:bX l t=true):bX (au l s) t=true:=by
 unfold bX au at*
 rw [List.any_eq_true] at ht;obtain ⟨x,hx,he⟩:=ht;rw [List.any_cons];by_cases hts:t=s
 ·simp [hts]
 ·rw [Bool.or_eq_true];right;rw [List.any_eq_true];refine ⟨x,?_,he⟩;rw [List.mem_filter];refine ⟨hx,?_⟩;have:=eq_of_beq he;subst this;simpa using hts
def rk (order:List af) (s:af):Int:=match fO order s with | some k=>k | none=> -1
def fB (order:List af) (cur:Fc):List Fc→List Fc
 | []=> [cur]
 | f::r=>if cur.el≠f.el then cur::fB order f r else if rk order f.lang<rk order cur.lang then fB order f r else fB order cur r
def aC (order:List af):List Fc→List Fc
 | []=> []
 | f::r=>fB order f r
def ik (l:List Fc) (el:Int) (lang:af):Option Fc:=l.find? fun f=>decide (f.el=el)&&(f.lang==lang)
def oE (order:List af) (l:List Fc) (el:Int):List Fc:=match order.findSome? (ik l el) with | some f=> [f] | none=> []
def bR (order:List af) (l:List Fc):Option Int→List Fc→List Fc
 | _, []=> []
 | p,f::r=>if p=some f.el then bR order l (some f.el) r else oE order l f.el++bR order l (some f.el) r
def aW (order:List af) (l:List Fc):List Fc:=bR order l none l
def Hc:List Fc→Prop
 | []=>True
 | f::r=>(∀g∈r,f.el<g.el∨f.el=g.el∧f.lang≠g.lang)∧Hc r
theorem E9: ∀{a b:List Fc},Hc (a++b)→Hc a∧Hc b∧ ∀f∈a,∀g∈b,f.el<g.el∨f.el=g.el∧f.lang≠g.lang
 | [],b,h=>⟨trivial,h,by simp⟩
 | x::a,b,h=>by
  obtain ⟨h1,h2⟩:=h;obtain ⟨i1,i2,i3⟩:=E9 h2;refine ⟨⟨fun g hg=>h1 g (List.mem_append_left _ hg),i1⟩,i2,fun f hf g hg=> ?_⟩;rcases List.mem_cons.1 hf with rfl | hf
  ·exact h1 g (List.mem_append_right _ hg)
  ·exact i3 f hf g hg
theorem Fa: ∀{l:List Fc},Hc l→ ∀f∈l,∀g∈l,f.el=g.el→f.lang=g.lang→f=g
 | x::r,h,f,hf,g,hg,h1,h2=>by
  rcases List.mem_cons.1 hf with hfx | hfr
  ·rcases List.mem_cons.1 hg with hgx | hgr
   ·rw [hfx,hgx]
   ·rcases h.1 g hgr with h3 | h3
    ·rw [hfx] at h1;omega
    ·rw [hfx] at h2;exact absurd h2 h3.2
  ·rcases List.mem_cons.1 hg with hgx | hgr
   ·rcases h.1 f hfr with h3 | h3
    ·rw [hgx] at h1;omega
    ·rw [hgx] at h2;exact absurd h2.symm h3.2
   ·exact Fa h.2 f hfr g hgr h1 h2
theorem ko {order:List af} {l:List Fc} {el:Int} {f:Fc}: ∀(o:List af),o.findSome? (ik l el)=some f→f∈l∧f.el=el∧ ∃k,fO o f.lang=some k∧ ∀g∈l,g.el=el→ ∀j,fO o g.lang=some j→k≤j
 | [],h=>by cases h
 | x::o,h=>by
  rw [List.findSome?_cons] at h;cases hx:ik l el x with
  | some y=>rw [hx] at h;cases h;have h1:=List.mem_of_find?_eq_some hx;have h2:=List.find?_some hx;simp only [Bool.and_eq_true,decide_eq_true_eq,beq_iff_eq] at h2;refine ⟨h1,h2.1,0,by rw [fO,if_pos h2.2.symm],fun _ _ _ _ _=>Nat.zero_le _⟩
  | none=>
   rw [hx] at h;obtain ⟨h1,h2,k,h3,h4⟩:=ko (order:=order) o h
   have hno: ∀g∈l,g.el=el→x≠g.lang:=fun g hg he hxg=>by
    have:=List.find?_eq_none.1 hx g hg;simp [he,hxg] at this
   refine ⟨h1,h2,k+1,by rw [fO,if_neg (hno f h1 h2),h3];rfl,fun g hg he j hj=> ?_⟩;rw [fO,if_neg (hno g hg he)] at hj;cases hjg:fO o g.lang with
   | none=>rw [hjg] at hj;cases hj
   | some m=>rw [hjg] at hj;cases hj;have:=h4 g hg he m hjg;simp only;omega
theorem oF {l:List Fc} {el:Int}: ∀{o:List af} {g:Fc},g∈l→g.el=el→bX o g.lang=true→ ∃f,o.findSome? (ik l el)=some f
 | [],g,_,_,h=>by simp [bX] at h
 | x::o,g,hg,he,h=>by
  rw [List.findSome?_cons];cases hx:ik l el x with
  | some y=>exact ⟨y,rfl⟩
  | none=>
   simp only;refine oF hg he ?_;unfold bX at h⊢;rw [List.any_cons,Bool.or_eq_true] at h;rcases h with h | h
   ·have hl:=eq_of_beq h;have:=List.find?_eq_none.1 hx g hg;simp [he,hl] at this
   ·exact h
theorem BT {order:List af} {l:List Fc} (hl:Hc l) (ho: ∀g∈l,bX order g.lang=true) {f:Fc} (hf:f∈l) (hb: ∀g∈l,g.el=f.el→rk order f.lang≤rk order g.lang):oE order l f.el= [f]:=by
 obtain ⟨b,hbs⟩:=oF hf rfl (ho f hf);obtain ⟨h1,h2,k,h3,h4⟩:=ko (order:=order) order hbs;unfold oE;rw [hbs];obtain ⟨j,hj⟩:=mf (ho f hf);have e1:=h4 f hf rfl j hj;have e2:=hb b h1 h2;unfold rk at e2;rw [hj,h3] at e2;simp only at e2;have:k=j:=by omega
 subst this;have:=BS hj h3;rw [Fa hl f hf b h1 h2.symm this]
theorem r9 {order:List af} {l:List Fc} (hl:Hc l) (ho: ∀g∈l,bX order g.lang=true): ∀(r pre:List Fc) (cur:Fc),l=pre++r→cur∈pre→
  (∀g∈pre,g.el≤cur.el)→(∀g∈pre,g.el=cur.el→rk order cur.lang≤rk order g.lang)→fB order cur r=oE order l cur.el++bR order l (some cur.el) r
 | [],pre,cur,he,hc,h1,h2=>by
  rw [List.append_nil] at he;rw [BT hl ho (by rw [he];exact hc) (by rw [he];exact h2)];rfl
 | f::r,pre,cur,he,hc,h1,h2=>by
  have hsp:=E9 (by rw [←he];exact hl:Hc (pre++f::r));have hcf:=hsp.2.2 cur hc f (by simp);unfold fB bR;by_cases hel:cur.el=f.el
  ·rw [if_neg (fun h:cur.el≠f.el=>h hel),if_pos (show some cur.el=some f.el by rw [hel])]
   have hstep: ∀c':Fc,(c'=f∨c'=cur)→(rk order c'.lang≤rk order f.lang∧rk order c'.lang≤rk order cur.lang)→fB order c' r=oE order l cur.el++bR order l (some f.el) r:=fun c' hc' hr=>by
    have hce:c'.el=cur.el:=by
     rcases hc' with rfl | rfl
     ·exact hel.symm
     ·rfl
    have ih:=r9 hl ho r (pre++ [f]) c' (by rw [he];simp) (by
      rcases hc' with rfl | rfl
      ·simp
      ·simp [hc]) (fun g hg=>by
      rw [hce];rcases List.mem_append.1 hg with hg | hg
      ·exact h1 g hg
      ·rw [List.mem_singleton.1 hg];omega) (fun g hg hge=>by
      rcases List.mem_append.1 hg with hg | hg
      ·have:=h2 g hg (by rw [hge,hce]);omega
      ·rw [List.mem_singleton.1 hg];exact hr.1)
    rw [ih,hce,hel]
   by_cases hlt:rk order f.lang<rk order cur.lang
   ·rw [if_pos hlt];exact hstep f (.inl rfl) ⟨Int.le_refl _,by omega⟩
   ·rw [if_neg hlt];exact hstep cur (.inr rfl) ⟨by omega,Int.le_refl _⟩
  ·rw [if_pos (show cur.el≠f.el from hel),if_neg (show¬ some cur.el=some f.el by simpa using hel)]
   have hlt:cur.el<f.el:=by
    rcases hcf with h | h
    ·exact h
    ·exact absurd h.1 hel
   have ih:=r9 hl ho r (pre++ [f]) f (by rw [he];simp) (by simp) (fun g hg=>by
     rcases List.mem_append.1 hg with hg | hg
     ·have:=h1 g hg;omega
     ·rw [List.mem_singleton.1 hg];omega) (fun g hg hge=>by
     rcases List.mem_append.1 hg with hg | hg
     ·have:=h1 g hg;omega
     ·rw [List.mem_singleton.1 hg];omega)
   rw [ih,BT hl ho (f:=cur) (by rw [he];exact List.mem_append_left _ hc) (fun g hg hge=>by
     rw [he] at hg;rcases List.mem_append.1 hg with hg | hg
     ·exact h2 g hg hge
     ·rcases hsp.2.2 cur hc g hg with h3 | h3
      ·omega
      ·rcases List.mem_cons.1 hg with rfl | hg
       ·omega
       ·have:=hsp.2.1.1 g hg;omega)]
   rfl
theorem tu {order:List af} {l:List Fc} (hl:Hc l) (ho: ∀g∈l,bX order g.lang=true):aC order l=aW order l:=by
 unfold aW;cases l with
 | nil=>rfl
 | cons f r=>
  have:=r9 hl ho r [f] f rfl (by simp) (fun g hg=>by rw [List.mem_singleton.1 hg];omega) (fun g hg _=>by rw [List.mem_singleton.1 hg];omega);have e1:aC order (f::r)=fB order f r:=rfl
  have e2:bR order (f::r) none (f::r)=oE order (f::r) f.el++bR order (f::r) (some f.el) r:=by rw [bR,if_neg (by simp)]
  rw [e1,e2,this]
def fv (order:List af) (el:Int):af→Int→List Lb→af
 | t,_, []=>t
 | t,b,l::r=>if l.el=el∧rk order l.lang<b then fv order el l.text (rk order l.lang) r else fv order el t b r
def gF (order:List af) (aq:List Lb) (el:Int) (dflt:af):af:=fv order el dflt order.length aq
def kZ (l:List Lb) (el:Int) (lang:af):Option af:=(l.find? fun f=>decide (f.el=el)&&(f.lang==lang)).map (·.text)
def il (order:List af) (aq:List Lb) (el:Int) (dflt:af):af:=match order.findSome? (kZ aq el) with | some t=>t | none=>dflt
def IH:List Lb→Prop
 | []=>True
 | f::r=>(∀g∈r,f.el=g.el→f.lang≠g.lang)∧IH r
theorem BU: ∀{l:List Lb},IH l→ ∀f∈l,∀g∈l,f.el=g.el→f.lang=g.lang→f=g
 | x::r,h,f,hf,g,hg,h1,h2=>by
  rcases List.mem_cons.1 hf with hfx | hfr
  ·rcases List.mem_cons.1 hg with hgx | hgr
   ·rw [hfx,hgx]
   ·rw [hfx] at h1 h2;exact absurd h2 (h.1 g hgr h1)
  ·rcases List.mem_cons.1 hg with hgx | hgr
   ·rw [hgx] at h1 h2;exact absurd h2.symm (h.1 f hfr h1.symm)
   ·exact BU h.2 f hfr g hgr h1 h2
theorem sa (order:List af) (el:Int): ∀(l:List Lb) (t:af) (b:Int),
  (fv order el t b l=t∧ ∀g∈l,g.el=el→b≤rk order g.lang)∨ ∃f∈l,f.el=el∧fv order el t b l=f.text∧rk order f.lang<b∧ ∀g∈l,g.el=el→rk order f.lang≤rk order g.lang
 | [],t,b=> .inl ⟨rfl,by simp⟩
 | l::r,t,b=>by
  unfold fv;by_cases h:l.el=el∧rk order l.lang<b
  ·rw [if_pos h];right;rcases sa order el r l.text (rk order l.lang) with ⟨h1,h2⟩ | ⟨f,hf,h1,h2,h3,h4⟩
   ·refine ⟨l,by simp,h.1,h1,h.2,fun g hg he=> ?_⟩;rcases List.mem_cons.1 hg with rfl | hg
    ·exact Int.le_refl _
    ·exact h2 g hg he
   ·refine ⟨f,by simp [hf],h1,h2,by omega,fun g hg he=> ?_⟩;rcases List.mem_cons.1 hg with rfl | hg
    ·omega
    ·exact h4 g hg he
  ·rw [if_neg h];rcases sa order el r t b with ⟨h1,h2⟩ | ⟨f,hf,h1,h2,h3,h4⟩
   ·refine .inl ⟨h1,fun g hg he=> ?_⟩;rcases List.mem_cons.1 hg with rfl | hg
    ·omega
    ·exact h2 g hg he
   ·refine .inr ⟨f,by simp [hf],h1,h2,h3,fun g hg he=> ?_⟩;rcases List.mem_cons.1 hg with rfl | hg
    ·omega
    ·exact h4 g hg he
theorem iz {l:List Lb} {el:Int} {t:af}: ∀(o:List af),o.findSome? (kZ l el)=some t→ ∃f∈l,f.text=t∧f.el=el∧ ∃k,fO o f.lang=some k∧ ∀g∈l,g.el=el→ ∀j,fO o g.lang=some j→k≤j
 | [],h=>by cases h
 | x::o,h=>by
  rw [List.findSome?_cons] at h;unfold kZ at h;cases hx:l.find? (fun f=>decide (f.el=el)&&(f.lang==x)) with
  | some y=>rw [hx] at h;cases h;have h1:=List.mem_of_find?_eq_some hx;have h2:=List.find?_some hx;simp only [Bool.and_eq_true,decide_eq_true_eq,beq_iff_eq] at h2;refine ⟨y,h1,rfl,h2.1,0,by rw [fO,if_pos h2.2.symm],fun _ _ _ _ _=>Nat.zero_le _⟩
  | none=>
   rw [hx] at h;obtain ⟨f,h1,h0,h2,k,h3,h4⟩:=iz o h
   have hno: ∀g∈l,g.el=el→x≠g.lang:=fun g hg he hxg=>by
    have:=List.find?_eq_none.1 hx g hg;simp [he,hxg] at this
   refine ⟨f,h1,h0,h2,k+1,by rw [fO,if_neg (hno f h1 h2),h3];rfl,fun g hg he j hj=> ?_⟩;rw [fO,if_neg (hno g hg he)] at hj;cases hjg:fO o g.lang with
   | none=>rw [hjg] at hj;cases hj
   | some m=>rw [hjg] at hj;cases hj;have:=h4 g hg he m hjg;simp only;omega
theorem oG {l:List Lb} {el:Int}: ∀{o:List af} {g:Lb},g∈l→g.el=el→bX o g.lang=true→ ∃f,o.findSome? (kZ l el)=some f
 | [],g,_,_,h=>by simp [bX] at h
 | x::o,g,hg,he,h=>by
  rw [List.findSome?_cons];unfold kZ;cases hx:l.find? (fun f=>decide (f.el=el)&&(f.lang==x)) with
  | some y=>exact ⟨y.text,rfl⟩
  | none=>
   simp only [Option.map_none]
   have:bX o g.lang=true:=by
    unfold bX at h⊢;rw [List.any_cons,Bool.or_eq_true] at h;rcases h with h | h
    ·have hl:=eq_of_beq h;have:=List.find?_eq_none.1 hx g hg;simp [he,hl] at this
    ·exact h
   have:=oG hg he this;unfold kZ at this;exact this
theorem EB: ∀{l:List af} {s:af} {k:Nat},fO l s=some k→k<l.length:=fun h=>by
 have:=qP h;exact (List.getElem?_eq_some_iff.1 this).1
theorem Gz {order:List af} {l:List Lb} (hl:IH l) (ho: ∀g∈l,bX order g.lang=true) (el:Int) (d:af):gF order l el d=il order l el d:=by
 unfold gF il;rcases sa order el l d order.length with ⟨h1,h2⟩ | ⟨f,hf,h0,h1,h2,h3⟩
 ·rw [h1];cases hx:order.findSome? (kZ l el) with
  | none=>rfl
  | some t=>
   obtain ⟨g,hg,_,he,k,hk,_⟩:=iz order hx;have:=h2 g hg he;unfold rk at this;rw [hk] at this;have:=EB hk;simp only at*
   omega
 ·obtain ⟨t,ht⟩:=oG hf h0 (ho f hf);obtain ⟨g,hg,h4,h5,k,h6,h7⟩:=iz order ht;rw [h1,ht];simp only;rw [←h4];obtain ⟨j,hj⟩:=mf (ho f hf);have e1:=h7 f hf h0 j hj;have e2:=h3 g hg h5;unfold rk at e2;rw [hj,h6] at e2;simp only at e2;have:k=j:=by omega
  subst this;rw [BU hl f hf g hg (by rw [h0,h5]) (BS hj h6)]
end Go.Proofs.YtfnkchadeaedlaaGreatDoor
namespace Go.Proofs.YtfnkchadeaedlaaGreatDoor
theorem vU: ∀(l pre:List af),dG pre l=0→Diff l∧(∀s∈l,yz s=true)∧ ∀s∈l,s∉pre
 | [],_,_=>⟨trivial,by simp,by simp⟩
 | x::r,pre,h=>by
  unfold dG at h;split at h
  ·cases h
  ·rename_i h1;split at h
   ·cases h
   ·rename_i h2;obtain ⟨i1,i2,i3⟩:=vU r _ h;refine ⟨⟨fun hx=>i3 x hx (by simp),i1⟩,fun s hs=> ?_,fun s hs hp=> ?_⟩
    ·rcases List.mem_cons.1 hs with rfl | hs
     ·simpa using h1
     ·exact i2 s hs
    ·rcases List.mem_cons.1 hs with rfl | hs
     ·apply h2;unfold bX;rw [List.any_eq_true];exact ⟨s,hp,by simp⟩
     ·exact i3 s hs (by simp [hp])
theorem qQ {e f:Int} {s t:af} (h:kz e s f t=true):e<f∨e=f∧Lib.compareBytes s t<0:=by simpa [kz] using h
theorem BV {a b c:af} (h1:Lib.compareBytes a b<0) (h2:Lib.compareBytes b c<0):Lib.compareBytes a c<0:=by
 have h:=BW a b c (by omega) (by omega);by_cases h0:Lib.compareBytes a c=0
 ·have:=(h.2 h0).1;omega
 ·omega
theorem vV {e f g:Int} {s t u:af} (h1:kz e s f t=true) (h2:kz f t g u=true):kz e s g u=true:=by
 unfold kz;rw [decide_eq_true_eq];rcases qQ h1 with h1 | h1 <;> rcases qQ h2 with h2 | h2
 ·left;omega
 ·left;omega
 ·left;omega
 ·right;exact ⟨by omega,BV h1.2 h2.2⟩
theorem Fb {e f:Int} {s t:af} (h:kz e s f t=true):e<f∨e=f∧s≠t:=by
 rcases qQ h with h | h
 ·exact .inl h
 ·exact .inr ⟨h.1,fun hs=>by rw [hs,K4] at h;exact absurd h.2 (by decide)⟩
theorem K5 {aa:List af} {p:Option Lb} {l:Lb} (h:q9 aa p l=0):bX aa l.lang=true∧1≤l.el∧l.el≤64∧0≤l.ix∧l.ix≤3∧l.text≠ []∧l.text.length≤64∧ ∀q,p=some q→kz q.el q.lang l.el l.lang=true∧(q.el=l.el→q.ix=l.ix):=by
 unfold q9 at h;split at h
 ·cases h
 ·rename_i h1;split at h
  ·cases h
  ·rename_i h2;split at h
   ·cases h
   ·rename_i h3;refine ⟨by simpa using h2,by omega,by omega,by omega,by omega,fun h0=>by rw [h0] at h3;simp at h3,by omega,fun q hq=> ?_⟩;subst hq;simp only at h;split at h
    ·cases h
    ·rename_i h4;split at h
     ·cases h
     ·rename_i h5
      exact ⟨by simpa using h4,fun he=>by
       by_cases hi:q.ix=l.ix
       ·exact hi
       ·exact absurd ⟨he,hi⟩ h5⟩
structure OT (aa:List af) (l:Lb):Prop where
 lang:bX aa l.lang=true
 Hy:1≤l.el
 Hz:l.el≤64
 XX:0≤l.ix
 XY:l.ix≤3
 text:l.text≠ []
 len:l.text.length≤64
theorem xY {aa:List af}: ∀(l:List Lb) (p:Option Lb),ey aa p l=0→
  IH l∧(∀x∈l,OT aa x)∧(∀x∈l,∀q,p=some q→kz q.el q.lang x.el x.lang=true∧(q.el=x.el→q.ix=x.ix))∧ ∀x∈l,∀y∈l,x.el=y.el→x.ix=y.ix
 | [],_,_=>⟨trivial,by simp,by simp,by simp⟩
 | x::r,p,h=>by
  unfold ey at h;split at h
  ·rename_i h0;obtain ⟨a1,a2,a3,a4,a5,a6,a7,a8⟩:=K5 h0;obtain ⟨i1,i2,i3,i4⟩:=xY r _ h;have hx:OT aa x:=⟨a1,a2,a3,a4,a5,a6,a7⟩;refine ⟨⟨fun g hg he hl=> ?_,i1⟩,fun y hy=> ?_,fun y hy q hq=> ?_,fun y hy z hz he=> ?_⟩
   ·rcases Fb (i3 g hg x rfl).1 with h | h
    ·omega
    ·exact h.2 hl
   ·rcases List.mem_cons.1 hy with rfl | hy
    ·exact hx
    ·exact i2 y hy
   ·rcases List.mem_cons.1 hy with rfl | hy
    ·exact a8 q hq
    ·have e1:=a8 q hq;have e2:=i3 y hy x rfl;have e3:=vV e1.1 e2.1;refine ⟨e3,fun he=> ?_⟩
     have:q.el=x.el:=by
      rcases qQ e1.1 with h1 | h1
      ·rcases qQ e2.1 with h2 | h2 <;> omega
      ·exact h1.1
     rw [e1.2 this,e2.2 (by omega)]
   ·rcases List.mem_cons.1 hy with hyx | hyr
    ·rcases List.mem_cons.1 hz with hzx | hzr
     ·rw [hyx,hzx]
     ·rw [hyx] at he⊢;exact (i3 z hzr x rfl).2 he
    ·rcases List.mem_cons.1 hz with hzx | hzr
     ·rw [hzx] at he⊢;exact ((i3 y hyr x rfl).2 he.symm).symm
     ·exact i4 y hyr z hzr he
  ·rename_i h0;exact absurd h h0
structure wP (aa:List af) (l:Fc):Prop where
 lang:bX aa l.lang=true
 Hy:1≤l.el
 Hz:l.el≤64
 text:l.text≠ []
 len:l.text.length≤4096
theorem K6 {aa:List af} {p:Option Fc} {l:Fc} (h:tF aa p l=0):wP aa l∧ ∀q,p=some q→kz q.el q.lang l.el l.lang=true:=by
 unfold tF at h;split at h
 ·cases h
 ·rename_i h1;split at h
  ·cases h
  ·rename_i h2;split at h
   ·cases h
   ·rename_i h3;refine ⟨⟨by simpa using h2,by omega,by omega,fun h0=>by rw [h0] at h3;simp at h3,by omega⟩,fun q hq=> ?_⟩;subst hq;simp only at h;split at h
    ·cases h
    ·rename_i h4;simpa using h4
theorem xZ {aa:List af}: ∀(l:List Fc) (p:Option Fc),ez aa p l=0→
  Hc l∧(∀x∈l,wP aa x)∧ ∀x∈l,∀q,p=some q→kz q.el q.lang x.el x.lang=true
 | [],_,_=>⟨trivial,by simp,by simp⟩
 | x::r,p,h=>by
  unfold ez at h;split at h
  ·rename_i h0;obtain ⟨hx,a8⟩:=K6 h0;obtain ⟨i1,i2,i3⟩:=xZ r _ h;refine ⟨⟨fun g hg=>Fb (i3 g hg x rfl),i1⟩,fun y hy=> ?_,fun y hy q hq=> ?_⟩
   ·rcases List.mem_cons.1 hy with rfl | hy
    ·exact hx
    ·exact i2 y hy
   ·rcases List.mem_cons.1 hy with rfl | hy
    ·exact a8 q hq
    ·exact vV (a8 q hq) (i3 y hy x rfl)
  ·rename_i h0;exact absurd h h0
structure S9 (aa:List af) (s:Sh):Prop where
 u1:1≤s.unit
 u2:s.unit≤1073741824
 l1:1≤s.level
 l2:s.level≤4
 mark:s.mark.length≤64
 title:s.title≠ []
 wB:s.title.length≤64
 DX:s.facts.length≤32
 inc:Hc s.facts
 facts: ∀f∈s.facts,wP aa f
theorem II {aa:List af} {l:List Fc} (h:jA aa l=0):l.length≤32∧Hc l∧ ∀x∈l,wP aa x:=by
 unfold jA at h;split at h
 ·cases h
 ·obtain ⟨h1,h2,_⟩:=xZ l none h;exact ⟨by omega,h1,h2⟩
theorem zw {pre:List Sh} {s:Sh} (h:jv pre s=0):1≤s.unit∧s.unit≤1073741824∧1≤s.level∧s.level≤4∧s.mark.length≤64∧s.title≠ []∧s.title.length≤64∧aG pre s.unit=none:=by
 unfold jv at h;split at h
 ·cases h
 ·split at h
  ·cases h
  ·rename_i h1;split at h
   ·cases h
   ·rename_i h2;refine ⟨by omega,by omega,by omega,by omega,by omega,fun h0=>by rw [h0] at h1;simp at h1,by omega,by simpa using h2⟩
theorem x8 {aa:List af} {l:List Sh}: ∀(r:List Sh) (i:Nat),l.drop i=r→kj aa l i r=0→ ∀(k:Nat) (s:Sh),i≤k→l[k]?=some s→qO aa l k s=0
 | [],i,hd,_,k,s,hk,hs=>by
  have:=(List.getElem?_eq_some_iff.1 hs).1;have h0:=List.drop_eq_nil_iff.1 hd;omega
 | x::r,i,hd,h,k,s,hk,hs=>by
  unfold kj at h;split at h
  ·rename_i h0;by_cases hki:k=i
   ·subst hki;have:l[k]?=some x:=by rw [←List.head?_drop,hd];rfl
    rw [this] at hs;cases hs;exact h0
   ·exact x8 r (i+1) (by rw [←List.tail_drop,hd];rfl) h k s (by omega) hs
  ·rename_i h0;exact absurd h h0
theorem K7 {aa:List af} {l:List Sh} (h:uj aa l=0):l.length≤256∧Valid l∧(∀s∈l,S9 aa s)∧ ∀(k:Nat) (s:Sh),l[k]?=some s→(chain l k).length≤12:=by
 rw [BR] at h;unfold K0 at h;split at h
 ·cases h
 ·rename_i hlen;have key:=x8 l 0 rfl h
  have one: ∀(k:Nat) (s:Sh),l[k]?=some s→jv (l.take k) s=0∧ ∃n,gz l k s=some n∧n<12∧jA aa s.facts=0:=fun k s hs=>by
   have:=key k s (Nat.zero_le _) hs;unfold qO at this;split at this
   ·rename_i h1;refine ⟨h1,?_⟩;split at this
    ·cases this
    ·rename_i n hn;split at this
     ·cases this
     ·exact ⟨n,hn,by omega,this⟩
   ·rename_i h1;exact absurd this h1
  have hu:kg l:=fun i s hs=>(zw (one i s hs).1).2.2.2.2.2.2.2;refine ⟨by omega,⟨hu,fun i s hs hp=> ?_,fun s hs=> ?_⟩,fun s hs=> ?_,fun k s hs=> ?_⟩
  ·obtain ⟨_,n,hn,_⟩:=one i s hs;unfold gz at hn;rw [if_neg hp] at hn;split at hn
   ·cases hn
   ·rename_i h0;split at hn
    ·rename_i hc;obtain ⟨j,t,h1,h2,h3⟩:=ng (i-1) s.par (by simpa using hc);exact ⟨j,by rw [←h3];exact xV hu h2 (by omega)⟩
    ·cases hn
  ·obtain ⟨i,hi⟩:=List.mem_iff_getElem?.1 hs;exact (zw (one i s hi).1).1
  ·obtain ⟨i,hi⟩:=List.mem_iff_getElem?.1 hs;obtain ⟨h1,n,_,_,h4⟩:=one i s hi;obtain ⟨b1,b2,b3,b4,b5,b6,b7,_⟩:=zw h1;obtain ⟨f1,f2,f3⟩:=II h4;exact ⟨b1,b2,b3,b4,b5,b6,b7,f1,f2,f3⟩
  ·obtain ⟨_,n,hn,hn2,_⟩:=one k s hs;rw [cA hs];unfold gz at hn;split
   ·simp
   ·rename_i hp;rw [if_neg hp] at hn;split at hn
    ·cases hn
    ·split at hn
     ·rename_i hc;cases hn;split
      ·rename_i j hj;rw [hj] at hn2;have hn3:(chain l j).length<12:=hn2;simp only [List.length_cons];omega
      ·simp
     ·cases hn
structure yH (c:Ct):Prop where
 l1:1≤c.aa.length
 l2:c.aa.length≤8
 diff:Diff c.aa
 two: ∀s∈c.aa,yz s=true
 Xv:c.aq.length≤256
 VW:IH c.aq
 aq: ∀x∈c.aq,OT c.aa x
 kinds: ∀x∈c.aq,∀y∈c.aq,x.el=y.el→x.ix=y.ix
 FI:c.ag.length≤256
 valid:Valid c.ag
 ag: ∀s∈c.ag,S9 c.aa s
 deep: ∀(k:Nat) (s:Sh),c.ag[k]?=some s→(chain c.ag k).length≤12
theorem b9 {c:Ct} (h:dh c=0):yH c:=by
 unfold dh at h;split at h
 ·rename_i h1;split at h
  ·rename_i h2;unfold j4 at h1;split at h1
   ·cases h1
   ·unfold oo at h2;split at h2
    ·cases h2
    ·obtain ⟨d1,d2,_⟩:=vU _ _ h1;obtain ⟨b1,b2,_,b4⟩:=xY _ _ h2;obtain ⟨s1,s2,s3,s4⟩:=K7 h;exact ⟨by omega,by omega,d1,d2,by omega,b1,b2,b4,s1,s2,s3,s4⟩
  ·rename_i h2;exact absurd h h2
 ·rename_i h1;exact absurd h h1
end Go.Proofs.YtfnkchadeaedlaaGreatDoor
namespace Go.Proofs.YtfnkchadeaedlaaGreatDoor
def pN (acc:Nat):af→Option Nat
 | []=>some acc
 | c::r=>if 48≤c.toNat∧c.toNat≤57 then (if 1099511627775<acc*10+(c.toNat-48) then none else pN (acc*10+(c.toNat-48)) r) else none
def tR (s:af):Option Nat:=if s= [] then none else pN 0 s
def oP (s:af):Int×Int:=
 if Lib.indexByte s 93<2∨11<Lib.indexByte s 93∨s.getD 1 0=48 then (0,0) else
 match tR ((s.take (Lib.indexByte s 93).toNat).drop 1) with
 | some n=>if 1073741824<n then (0,0) else ((n:Int),Lib.indexByte s 93+1)
 | none=>(0,0)
def qR:af→Nat→Nat→Option (Nat×Nat)
 | [],_,_=>none
 | c::r,n,k=>if 48≤c.toNat∧c.toNat≤57 then (if 1073741824<10*n+(c.toNat-48) then none else qR r (10*n+(c.toNat-48)) (k+1)) else if c=93 then some (n,k+1) else none
def ak (s:af):Int×Int:=
 if s.length<3∨s.getD 0 0≠91∨ ¬ (49≤(s.getD 1 0).toNat∧(s.getD 1 0).toNat≤57) then (0,0) else
 match qR (s.drop 1) 0 1 with
 | some (n,k)=>((n:Int),(k:Int))
 | none=>(0,0)
theorem zx: ∀(u:af) (n m:Nat),pN n u=some m→n*10^u.length≤m
 | [],n,m,h=>by cases h;simp
 | c::r,n,m,h=>by
  unfold pN at h;split at h
  ·split at h
   ·cases h
   ·have:=zx r _ m h;rw [List.length_cons,Nat.pow_succ];have h2:n*(10^r.length*10)=(n*10)*10^r.length:=by rw [Nat.mul_comm (10^r.length) 10,Nat.mul_assoc]
    rw [h2];exact Nat.le_trans (Nat.mul_le_mul_right _ (by omega)) this
  ·cases h
theorem K8 (u:af) (n m:Nat) (h:pN n u=some m):n≤m:=by have:=zx u n m h;exact Nat.le_trans (Nat.le_mul_of_pos_right n (Nat.pow_pos (by decide))) this
theorem x9: ∀(t:af) (n k:Nat),(93:UInt8)∉t→qR t n k=none
 | [],_,_,_=>rfl
 | c::r,n,k,h=>by
  simp only [List.mem_cons,not_or] at h;unfold qR;split
  ·split
   ·rfl
   ·exact x9 r _ _ h.2
  ·rw [if_neg (fun hc=>h.1 hc.symm)]
theorem Fe: ∀(u v:af) (n k:Nat),(93:UInt8)∉u→n≤1073741824→qR (u++93::v) n k=match pN n u with
  | some m=>if 1073741824<m then none else some (m,k+u.length+1)
  | none=>none
 | [],v,n,k,_,hn=>by
  simp only [List.nil_append,pN];unfold qR;rw [if_neg (by decide),if_pos rfl,if_neg (by omega)];rfl
 | c::r,v,n,k,h,hn=>by
  simp only [List.mem_cons,not_or] at h;rw [List.cons_append];unfold qR pN;by_cases hd:48≤c.toNat∧c.toNat≤57
  ·rw [if_pos hd,if_pos hd,Nat.mul_comm 10 n];by_cases hb:1073741824<n*10+(c.toNat-48)
   ·rw [if_pos hb];split
    ·rename_i m hm;split at hm
     ·cases hm
     ·have:=K8 _ _ _ hm;rw [if_pos (by omega)]
    ·rfl
   ·rw [if_neg hb,if_neg (show¬ 1099511627775<n*10+(c.toNat-48) by omega),Fe r v _ (k+1) h.2 (by omega)];simp only [List.length_cons];split
    ·split
     ·rfl
     ·congr 2;omega
    ·rfl
  ·rw [if_neg hd,if_neg hd,if_neg (fun hc=>h.1 hc.symm)]
theorem BX: ∀(t:af),(93:UInt8)∉t→Lib.indexByte t 93= -1
 | [],_=>rfl
 | c::r,h=>by
  simp only [List.mem_cons,not_or] at h;have hc:(c==93)=false:=by simpa using fun h'=>h.1 h'.symm
  rw [Lib.indexByte,hc,BX r h.2];rfl
theorem BY: ∀(u v:af),(93:UInt8)∉u→Lib.indexByte (u++93::v) 93=(u.length:Int)
 | [],v,_=>by simp [Lib.indexByte]
 | c::r,v,h=>by
  simp only [List.mem_cons,not_or] at h;have hc:(c==93)=false:=by simpa using fun h'=>h.1 h'.symm
  rw [List.cons_append,Lib.indexByte,hc,BY r v h.2];have:((r.length:Int)== -1)=false:=by simp
  rw [this];simp
theorem BZ: ∀(t:af),(93:UInt8)∈t→ ∃u v,t=u++93::v∧(93:UInt8)∉u
 | c::r,h=>by
  by_cases hc:c=93
  ·exact ⟨[],r,by rw [hc];rfl,by simp⟩
  ·rcases List.mem_cons.1 h with h | h
   ·exact absurd h.symm hc
   ·obtain ⟨u,v,h1,h2⟩:=BZ r h;exact ⟨c::u,v,by rw [h1];rfl,by simp only [List.mem_cons,not_or];exact ⟨fun h=>hc h.symm,h2⟩⟩
theorem oQ (t:af):oP (91::t)=ak (91::t):=by
 by_cases h:(93:UInt8)∈t
 ·obtain ⟨u,v,rfl,hu⟩:=BZ t h
  have hi:Lib.indexByte (91::(u++93::v)) 93=((u.length+1:Nat):Int):=by have:=BY (91::u) v (by simp only [List.mem_cons,not_or];exact ⟨by decide,hu⟩);rw [List.cons_append] at this;rw [this];rfl
  unfold oP ak;rw [hi];cases u with
  | nil=>simp
  | cons c r=>
   have g1:(91::(c::r++93::v)).getD 1 0=c:=rfl;have g0:(91::(c::r++93::v)).getD 0 0=91:=rfl;rw [g1,g0]
   have htake:((91::(c::r++93::v)).take (((c::r).length+1:Nat):Int).toNat).drop 1=c::r:=by rw [Int.toNat_natCast,List.take_succ_cons,List.drop_succ_cons,List.drop_zero,List.take_left]
   rw [htake];have hgo:=Fe (c::r) v 0 1 hu (by decide);have hdrop:(91::(c::r++93::v)).drop 1=c::r++93::v:=rfl;rw [hdrop,hgo];have hlen: ¬ (91::(c::r++93::v)).length<3:=by simp;omega
   unfold tR;rw [if_neg (show¬ c::r= [] by simp)];by_cases hd:49≤c.toNat∧c.toNat≤57
   ·have hc48:c≠48:=fun h=>by subst h;exact absurd hd.1 (by decide)
    rw [if_neg (show¬ ((91::(c::r++93::v)).length<3∨(91:UInt8)≠91∨ ¬ (49≤c.toNat∧c.toNat≤57)) by
     simp only [not_or,Classical.not_not];exact ⟨hlen,trivial,hd⟩)]
    by_cases hl:r.length≤9
    ·rw [if_neg (show¬ ((((c::r).length+1:Nat):Int)<2∨11<(((c::r).length+1:Nat):Int)∨c=48) by
      simp only [List.length_cons,not_or];exact ⟨by omega,by omega,hc48⟩)]
     cases hn:pN 0 (c::r) with
     | none=>rfl
     | some m=>
      simp only;by_cases hm:1073741824<m
      ·rw [if_pos hm,if_pos hm]
      ·rw [if_neg hm,if_neg hm];simp only [List.length_cons];congr 1;omega
    ·rw [if_pos (show ((((c::r).length+1:Nat):Int)<2∨11<(((c::r).length+1:Nat):Int)∨c=48) by
      simp only [List.length_cons];right;left;omega)]
     cases hn:pN 0 (c::r) with
     | none=>rfl
     | some m=>
      have h1:=hn;unfold pN at h1;rw [if_pos (by omega),if_neg (by omega)] at h1;have h2:=zx _ _ _ h1;have h3:(10:Nat)^10≤10^r.length:=Nat.pow_le_pow_right (by decide) (by omega);have h4:1*10^r.length≤(0*10+(c.toNat-48))*10^r.length:=Nat.mul_le_mul_right _ (by omega);have h5:(10:Nat)^10=10000000000:=by decide
      simp only;rw [if_pos (show 1073741824<m by omega)]
   ·rw [if_pos (show ((91::(c::r++93::v)).length<3∨(91:UInt8)≠91∨ ¬ (49≤c.toNat∧c.toNat≤57)) from Or.inr (Or.inr hd))];by_cases hb:(((c::r).length+1:Nat):Int)<2∨11<(((c::r).length+1:Nat):Int)∨c=48
    ·rw [if_pos hb]
    ·rw [if_neg hb]
     have hc: ¬ (48≤c.toNat∧c.toNat≤57):=fun h=>by
      have:c=48:=UInt8.toNat_inj.1 (by show c.toNat=48;have h6:=h.1;have h7:=h.2;omega);exact hb (.inr (.inr this))
     rw [pN,if_neg hc]
 ·have hi:Lib.indexByte (91::t) 93= -1:=BX _ (by simp only [List.mem_cons,not_or];exact ⟨by decide,h⟩);unfold oP ak;rw [hi,if_pos (.inl (by decide))];split
  ·rfl
  ·have:=x9 t 0 1 h;rw [List.drop_succ_cons,List.drop_zero,this]
def yC (s:af):Int×Int:=if s.getD 0 0≠91 then (0,0) else oP s
theorem tv: ∀{s:af},s≠ []→yC s=ak s
 | c::t,_=>by
  unfold yC;by_cases h:c=91
  ·subst h;rw [if_neg (by simp),oQ]
  ·have h0:(c::t).getD 0 0≠91:=h;rw [if_pos h0];unfold ak;rw [if_pos (.inr (.inl h0))]
theorem B1: ∀(t:af) (n k a b:Nat),qR t n k=some (a,b)→n≤a∧k<b∧b≤k+t.length∧a≤1073741824∨(n≤a∧k<b∧b≤k+t.length∧a=n)
 | [],_,_,_,_,h=>by cases h
 | c::r,n,k,a,b,h=>by
  unfold qR at h;split at h
  ·split at h
   ·cases h
   ·rename_i hb;rcases B1 r _ _ a b h with h | h
    ·left;simp only [List.length_cons];omega
    ·left;simp only [List.length_cons];omega
  ·split at h
   ·cases h;right;exact ⟨Nat.le_refl _,Nat.lt_succ_self _,by simp only [List.length_cons];omega,rfl⟩
   ·cases h
theorem di (s:af):ak s=(0,0)∨(1≤(ak s).1∧(ak s).1≤1073741824∧2≤(ak s).2∧(ak s).2≤s.length∧s.getD 0 0=91):=by
 unfold ak;split
 ·exact .inl rfl
 ·rename_i h;simp only [not_or,Classical.not_not] at h;split
  ·rename_i n k hg;right;obtain ⟨h1,h2,h3⟩:=h
   match s,h1,h2,h3,hg with
   | a::c::r,h1,h2,h3,hg=>
    have g1:(a::c::r).getD 1 0=c:=rfl;rw [g1] at h3;have g2:(a::c::r).drop 1=c::r:=rfl;rw [g2] at hg;unfold qR at hg;rw [if_pos (show 48≤c.toNat∧c.toNat≤57 by omega)] at hg;split at hg
    ·cases hg
    ·have:=B1 _ _ _ _ _ hg;simp only [List.length_cons];refine ⟨by omega,by omega,by omega,by omega,h2⟩
   | [a],h1,_,_,_=>exact absurd (by simp) h1
   | [],h1,_,_,_=>exact absurd (by simp) h1
  ·exact .inl rfl
end Go.Proofs.YtfnkchadeaedlaaGreatDoor
namespace Go.Proofs.YtfnkchadeaedlaaGreatDoor
def cL (l:List Sh) (u:Int):af:=
 match aG l u with
 | none=> [63]
 | some i=>match l[i]? with
  | some s=>if s.mark= [] then s.title else s.mark++ [32]++s.title
  | none=> []
def bw (cite:Int→af) (s:af):af:=
 match s with
 | []=> []
 | c::r=>if h:(ak (c::r)).2=0 then c::bw cite r else cite (ak (c::r)).1++bw cite ((c::r).drop (ak (c::r)).2.toNat)
termination_by s.length
decreasing_by
 ·simp
 ·rcases di (c::r) with h' | h'
  ·exact absurd (by rw [h']) h
  ·simp only [List.length_drop,List.length_cons] at*;omega
theorem jB (cite:Int→af):bw cite []= []:=by rw [bw]
theorem lp (cite:Int→af) (c:UInt8) (r:af) (h:(ak (c::r)).2=0):bw cite (c::r)=c::bw cite r:=by rw [bw,dif_pos h]
theorem j7 (cite:Int→af) (s:af) (h:(ak s).2≠0):bw cite s=cite (ak s).1++bw cite (s.drop (ak s).2.toNat):=by
 cases s with
 | nil=>exact absurd rfl h
 | cons c r=>rw [bw,dif_neg h]
structure Nd where
 depth:Int
 tag:af
 text:af
structure pO where
 unit:Int
 num:af
 nodes:List Nd
instance:DecidableEq Nd:=fun a b=>decidable_of_iff (a.depth=b.depth∧a.tag=b.tag∧a.text=b.text) (by cases a;cases b;simp)
instance:DecidableEq pO:=fun a b=>decidable_of_iff (a.unit=b.unit∧a.num=b.num∧a.nodes=b.nodes) (by cases a;cases b;simp)
def dD (level:Int):af:=if level=1 then [102,111,110,100,115] else if level=2 then [115,101,114,105,101,115] else if level=3 then [102,105,108,101] else [105,116,101,109]
def ba (s:af):Nat:=s.count 46
def mm (d:Int) (s:Sh):List Nd:=if s.mark= [] then [] else [⟨d, [109,97,114,107],s.mark⟩]
def cV (it:Int→af) (el:Int):af:= [101,108,101,109,101,110,116,32]++it el
def Ag (it:Int→af) (order:List af) (c:Ct) (d:Int) (f:Fc):Nd:=⟨d, [112],gF order c.aq f.el (cV it f.el)++ [58,32]++bw (cL c.ag) f.text⟩
def fg (it:Int→af) (order:List af) (c:Ct) (x:Sh×af):pO:=
 ⟨x.1.unit,x.2,⟨ba x.2,dD x.1.level,x.2++ [32]++x.1.title⟩::(mm (ba x.2+1) x.1++(aC order x.1.facts).map (Ag it order c (ba x.2+1)))⟩
def vW (it:Int→af) (order:List af) (c:Ct) (d:Int) (f:Fc):Nd:=⟨d, [112],il order c.aq f.el (cV it f.el)++ [58,32]++bw (cL c.ag) f.text⟩
def DY (it:Int→af) (order:List af) (c:Ct) (x:Sh×af):pO:=
 ⟨x.1.unit,x.2,⟨ba x.2,dD x.1.level,x.2++ [32]++x.1.title⟩::(mm (ba x.2+1) x.1++(aW order x.1.facts).map (vW it order c (ba x.2+1)))⟩
def fK (it:Int→af) (c:Ct) (root:Int) (lang:af):List pO:=(dj it root ⟨[], []⟩ c.ag).map (fg it (av c.aa lang) c)
def K9 (it:Int→af) (c:Ct) (root:Int) (lang:af):List pO:=(fG it c.ag root 0 c.ag).map (DY it (au c.aa lang) c)
theorem nT {it:Int→af} {l:List Sh} {root:Int}: ∀(r:List Sh) (i:Nat) (x:Sh×af),x∈fG it l root i r→x.1∈r
 | [],_,_,h=>by cases h
 | s::r,i,x,h=>by
  unfold fG at h;split at h
  ·rcases List.mem_cons.1 h with rfl | h
   ·simp
   ·simp [nT r _ x h]
  ·simp [nT r _ x h]
def fb (u:Int):af→List (Sh×af)→af
 | f, []=>f
 | f,x::r=>if x.1.unit=u then fb u x.2 r else fb u f r
def dy (it:Int→af) (c:Ct) (root u:Int):af:=fb u [] (dj it root ⟨[], []⟩ c.ag)
def gb (it:Int→af) (c:Ct) (root u:Int):af:=match aG c.ag u with
 | some i=>if pz c.ag root i=true then kX it c.ag root i else []
 | none=> []
theorem sb {u:Int}: ∀(r:List (Sh×af)) (f:af),(∀x∈r,x.1.unit≠u)→fb u f r=f
 | [],_,_=>rfl
 | x::r,f,h=>by
  unfold fb;rw [if_neg (h x (by simp)),sb r f (fun y hy=>h y (by simp [hy]))]
theorem B4 {it:Int→af} {l:List Sh} (hu:kg l) (root u:Int): ∀(r:List Sh) (i:Nat) (f:af),l.drop i=r→
  fb u f (fG it l root i r)=match aG r u with
   | some j=>if pz l root (i+j)=true then kX it l root (i+j) else f
   | none=>f
 | [],_,_,_=>rfl
 | s::r,i,f,hd=>by
  have hs:l[i]?=some s:=by rw [←List.head?_drop,hd];rfl
  have hd':l.drop (i+1)=r:=by rw [←List.tail_drop,hd];rfl
  have hno: ∀x∈r,x.unit≠s.unit:=fun x hx hxu=>by
   obtain ⟨k,hk⟩:=List.mem_iff_getElem?.1 hx;rw [←hd',List.getElem?_drop] at hk;have:=nR hu hk hs hxu;omega
  unfold fG;by_cases h1:s.unit=u
  ·have hi:aG (s::r) u=some 0:=by rw [aG,if_pos h1]
   rw [hi];simp only [Nat.add_zero];by_cases h2:pz l root i=true
   ·rw [if_pos h2,if_pos h2,fb,if_pos h1];refine sb _ _ fun x hx=> ?_;have:=hno _ (nT _ _ x hx);rw [←h1];exact this
   ·rw [if_neg h2,if_neg h2];refine sb _ _ fun x hx=> ?_;have:=hno _ (nT _ _ x hx);rw [←h1];exact this
  ·have hi:aG (s::r) u=(aG r u).map (· +1):=by rw [aG,if_neg h1]
   have ih:=B4 (it:=it) hu root u r (i+1) f hd';rw [hi]
   have e:fb u f (if pz l root i=true then (s,kX it l root i)::fG it l root (i+1) r else fG it l root (i+1) r)=fb u f (fG it l root (i+1) r):=by
    split
    ·rw [fb,if_neg h1]
    ·rfl
   rw [e,ih];cases aG r u with
   | none=>rfl
   | some j=>simp only [Option.map_some];rw [show i+1+j=i+(j+1) by omega]
theorem tw {c:Ct} (h:yH c) (it:Int→af) (root u:Int):dy it c root u=gb it c root u:=by
 unfold dy gb;rw [Gy it h.valid root,B4 h.valid.uniq root u c.ag 0 [] rfl];cases aG c.ag u with
 | none=>rfl
 | some j=>simp only [Nat.zero_add]
end Go.Proofs.YtfnkchadeaedlaaGreatDoor
namespace Go.Proofs.YtfnkchadeaedlaaGreatDoor
def eP:af→Option (af×af)
 | []=>none
 | c::r=>if c=32 then some ([],r) else (eP r).map fun p=>(c::p.1,p.2)
theorem fI: ∀{s a b:af},eP s=some (a,b)→s=a++32::b∧(32:UInt8)∉a
 | c::r,a,b,h=>by
  unfold eP at h;split at h
  ·rename_i hc;cases h;exact ⟨by rw [hc];rfl,by simp⟩
  ·rename_i hc;cases hr:eP r with
   | none=>rw [hr] at h;cases h
   | some p=>rw [hr] at h;simp only [Option.map_some,Option.some.injEq,Prod.mk.injEq] at h;obtain ⟨rfl,rfl⟩:=h;obtain ⟨h1,h2⟩:=fI (a:=p.1) (b:=p.2) hr;exact ⟨by rw [h1];rfl,by simp only [List.mem_cons,not_or];exact ⟨fun h=>hc h.symm,h2⟩⟩
def tH (acc:Nat):af→Option Nat
 | []=>some acc
 | c::r=>if 48≤c.toNat∧c.toNat≤57 then (if 65535<acc*10+(c.toNat-48) then none else tH (acc*10+(c.toNat-48)) r) else none
def nw (s:af):Option Nat:=if s= [] then none else tH 0 s
def mb (aZ:af→Option af) (line:af):Option (Nat×af):=
 match eP line with
 | some (num,rest)=>match nw num,aZ rest with
  | some n,some t=>if t= []∨num.getD 0 0=48∨64<n then none else some (n,t)
  | _,_=>none
 | none=>none
def zy (n:Nat):af:=if n<10 then [UInt8.ofNat (48+n)] else [UInt8.ofNat (48+n / 10),UInt8.ofNat (48+n%10)]
theorem Ff: ∀(u:af) (n m:Nat),tH n u=some m→n*10^u.length≤m
 | [],n,m,h=>by cases h;simp
 | c::r,n,m,h=>by
  unfold tH at h;split at h
  ·split at h
   ·cases h
   ·have:=Ff r _ m h;rw [List.length_cons,Nat.pow_succ];have h2:n*(10^r.length*10)=(n*10)*10^r.length:=by rw [Nat.mul_comm (10^r.length) 10,Nat.mul_assoc]
    rw [h2];exact Nat.le_trans (Nat.mul_le_mul_right _ (by omega)) this
  ·cases h
theorem La {s:af} {n:Nat} (h:nw s=some n) (h0:s.getD 0 0≠48) (hn:n≤64):s=zy n∧1≤n:=by
 unfold nw at h;split at h
 ·cases h
 ·rename_i hne
  match s,hne,h,h0 with
  | [c],_,h,h0=>
   unfold tH at h;split at h
   ·rename_i hc;split at h
    ·cases h
    ·simp only [tH,Option.some.injEq] at h;have h0':c.toNat≠48:=fun hh=>h0 (UInt8.toNat_inj.1 (by show c.toNat=48;exact hh));refine ⟨?_,by omega⟩;unfold zy;rw [if_pos (by omega)];congr 1;apply UInt8.toNat_inj.1;rw [UInt8.toNat_ofNat'];omega
   ·cases h
  | [c,d],_,h,h0=>
   unfold tH at h;split at h
   ·rename_i hc;split at h
    ·cases h
    ·unfold tH at h;split at h
     ·rename_i hd;split at h
      ·cases h
      ·simp only [tH,Option.some.injEq] at h;have h0':c.toNat≠48:=fun hh=>h0 (UInt8.toNat_inj.1 (by show c.toNat=48;exact hh));refine ⟨?_,by omega⟩;unfold zy;rw [if_neg (by omega)]
       have e1:c=UInt8.ofNat (48+n / 10):=by apply UInt8.toNat_inj.1;rw [UInt8.toNat_ofNat'];omega
       have e2:d=UInt8.ofNat (48+n%10):=by apply UInt8.toNat_inj.1;rw [UInt8.toNat_ofNat'];omega
       rw [←e1,←e2]
     ·cases h
   ·cases h
  | c::d::e::r,_,h,h0=>
   exfalso;unfold tH at h;split at h
   ·rename_i hc;split at h
    ·cases h
    ·have hg:=Ff _ _ _ h;have h0':c.toNat≠48:=fun hh=>h0 (UInt8.toNat_inj.1 (by show c.toNat=48;exact hh));have hp:(10:Nat)^2≤10^(d::e::r).length:=Nat.pow_le_pow_right (by decide) (by simp);have hm:1*10^(d::e::r).length≤(0*10+(c.toNat-48))*10^(d::e::r).length:=Nat.mul_le_mul_right _ (by omega);omega
   ·cases h
end Go.Proofs.YtfnkchadeaedlaaGreatDoor
namespace Go.Proofs.YtfnkchadeaedlaaGreatDoor
set_option maxRecDepth 10000
set_option maxHeartbeats 4000000
def splitB (c:UInt8):List UInt8→List (List UInt8)
 | []=> [[]]
 | x::s=>if x=c then []::splitB c s else match splitB c s with
  | p::r=>(x::p)::r
  | []=> [[x]]
theorem GA (c:UInt8): ∀s,splitB c s≠ []
 | []=>by simp [splitB]
 | x::s=>by
  simp only [splitB];split
  ·simp
  ·split <;> simp
theorem ya {c:UInt8}: ∀{s:List UInt8},c∉s→splitB c s= [s]
 | [],_=>rfl
 | x::s,h=>by
  simp only [List.mem_cons,not_or] at h;simp only [splitB,if_neg (Ne.symm h.1),ya h.2]
theorem vX {c:UInt8}: ∀{a:List UInt8} (s:List UInt8),c∉a→splitB c (a++c::s)=a::splitB c s
 | [],s,_=>by simp [splitB]
 | x::a,s,h=>by
  simp only [List.mem_cons,not_or] at h;simp only [List.cons_append,splitB,if_neg (Ne.symm h.1),vX s h.2]
theorem iB (c:UInt8): ∀s:List UInt8,(splitB c s).length=s.count c+1
 | []=>by simp [splitB]
 | x::s=>by
  have:=iB c s;simp only [splitB];split
  ·rename_i h;subst h;simp [this]
  ·rename_i h;rw [List.count_cons_of_ne h];split
   ·rename_i h;rw [h] at this;simp at this⊢;omega
   ·rename_i h;exact absurd h (GA c s)
end Go.Proofs.YtfnkchadeaedlaaGreatDoor
namespace Go.Proofs.YtfnkchadeaedlaaGreatDoor
def DZ (v:af):Option (List af):=if v.getLast?=some 10 then some (splitB 10 v.dropLast) else none
def sc (n:Nat):af:=if n=1 then [102,111,110,100,115] else if n=2 then [115,101,114,105,101,115] else if n=3 then [102,105,108,101] else [105,116,101,109]
def jV (w:af):Nat:=if w=sc 1 then 1 else if w=sc 2 then 2 else if w=sc 3 then 3 else if w=sc 4 then 4 else 0
def yb (aZ:af→Option af) (l:af):Option (Nat×af):=
 match eP l with
 | some (w,r)=>match aZ r with
  | some t=>if jV w=0∨t= [] then none else some (jV w,t)
  | none=>none
 | none=>none
def qS:af:= [109,97,114,107]
def yc (aZ:af→Option af) (l:af):Option af:=
 match eP l with
 | some (w,r)=>if w=qS then aZ r else none
 | none=>none
def lU (aZ:af→Option af):Nat→List af→Option (List (Nat×af))
 | _, []=>some []
 | last,l::r=>match mb aZ l with
  | some (n,t)=>if n≤last then none else (lU aZ n r).map ((n,t):: ·)
  | none=>none
structure VX where
 level:Nat
 title:af
 mark:af
 facts:List (Nat×af)
def pA (hd:af→Option (Nat×af)) (mk:af→Option af) (fs:List af→Option (List (Nat×af))):Option (List af)→Option VX
 | some (a::b::r)=>match hd a,mk b,fs r with
  | some (n,t),some m,some f=>some ⟨n,t,m,f⟩
  | _,_,_=>none
 | _=>none
def pB (aZ:af→Option af) (v:af):Option VX:=pA (yb aZ) (yc aZ) (lU aZ 0) (DZ v)
end Go.Proofs.YtfnkchadeaedlaaGreatDoor
namespace Go.Proofs.YtfnkchadeaedlaaGreatDoor
section
variable (aB:af→af) (aZ:af→Option af)
def IJ (f:Nat×af):af:=zy f.1++32::aB f.2
def IK (lev:Nat) (title mark:af) (facts:List (Nat×af)):List af:=(sc lev++32::aB title)::(qS++32::aB mark)::facts.map (IJ aB)
def IL (lev:Nat) (title mark:af) (facts:List (Nat×af)):af:=(IK aB lev title mark facts).flatMap fun p=>p++ [10]
variable {aB aZ} (h1: ∀s,aZ (aB s)=some s) (h2: ∀s,(10:UInt8)∉aB s)
include h1
include h2
end
end Go.Proofs.YtfnkchadeaedlaaGreatDoor
namespace Go.Proofs.YtfnkchadeaedlaaGreatDoor
theorem nU (order:List af): ∀(r:List Fc) (cur x:Fc),x∈fB order cur r→x=cur∨x∈r
 | [],cur,x,h=>by simpa [fB] using h
 | f::r,cur,x,h=>by
  unfold fB at h;split at h
  ·rcases List.mem_cons.1 h with h | h
   ·exact .inl h
   ·rcases nU order r f x h with h | h
    ·right;rw [h];simp
    ·right;simp [h]
  ·split at h
   ·rcases nU order r f x h with h | h
    ·right;rw [h];simp
    ·right;simp [h]
   ·rcases nU order r cur x h with h | h
    ·exact .inl h
    ·right;simp [h]
theorem fC {order:List af} {l:List Fc} {x:Fc} (h:x∈aC order l):x∈l:=by
 cases l with
 | nil=>simp [aC] at h
 | cons f r=>
  rcases nU order r f x h with h | h
  ·rw [h];simp
  ·simp [h]
def iR (text:af):List Cell:=(List.range text.length).filterMap fun i=>if (ak (text.drop i)).2=0 then none else some (4,(ak (text.drop i)).1)
def dP (f:Fc):List Cell:=(3,f.el)::iR f.text
def cellsOf (u:Int) (facts:List Fc):List Cell:=(facts.flatMap dP).foldl gB [(1,u),(2,u)]
theorem B5 (u:Int) (facts:List Fc):jr (cellsOf u facts):=yd _ _ ⟨by simp [dQ],by simp,trivial⟩
theorem B6 {u:Int} {facts:List Fc} {z:Cell}:z∈cellsOf u facts↔z∈facts.flatMap dP∨z=(1,u)∨z=(2,u):=by unfold cellsOf;rw [ye];simp
def aJ (l:List (Cell×af)) (c:Cell):Option af:=(l.find? fun x=>decide (x.1=c)).map (·.2)
def eZ (look:Int→Option af) (s:af):Option af:=
 match s with
 | []=>some []
 | c::r=>if h:(ak (c::r)).2=0 then (eZ look r).map (c:: ·) else
  match look (ak (c::r)).1,eZ look ((c::r).drop (ak (c::r)).2.toNat) with
  | some a,some b=>some (a++b)
  | _,_=>none
termination_by s.length
decreasing_by
 ·simp
 ·rcases di (c::r) with h' | h'
  ·exact absurd (by rw [h']) h
  ·simp only [List.length_drop,List.length_cons] at*;omega
def sd (l:List (Cell×af)) (d:Int):List (Nat×af)→Option (List Nd)
 | []=>some []
 | f::r=>match aJ l (3,(f.1:Int)),eZ (fun u=>aJ l (4,u)) f.2,sd l d r with
  | some lab,some t,some ns=>some (⟨d, [112],lab++ [58,32]++t⟩::ns)
  | _,_,_=>none
def yf (d:Int) (m:af):List Nd:=if m= [] then [] else [⟨d, [109,97,114,107],m⟩]
def OU (aZ:af→Option af) (unit:Int) (l:List (Cell×af)):Int×Option pO:=
 if (aJ l (1,unit)).getD []= []∨(aJ l (2,unit)).getD []= [] then (7,none) else
 match pB aZ ((aJ l (2,unit)).getD []) with
 | none=>(3,none)
 | some x=>match sd l (ba ((aJ l (1,unit)).getD [])+1) x.facts with
  | none=>(7,none)
  | some ns=>(0,some ⟨unit,(aJ l (1,unit)).getD [],⟨ba ((aJ l (1,unit)).getD []),sc x.level,(aJ l (1,unit)).getD []++ [32]++x.title⟩::(yf (ba ((aJ l (1,unit)).getD [])+1) x.mark++ns)⟩)
def Fg (f:Fc):Nat×af:=(f.el.toNat,f.text)
def OV (aB:af→af) (order:List af) (s:Sh):af:=IL aB s.level.toNat s.title s.mark ((aC order s.facts).map Fg)
def IM (it:Int→af) (aB:af→af) (c:Ct) (order:List af) (root:Int) (x:Cell):af:=
 if x.1=1 then dy it c root x.2 else if x.1=2 then (match aG c.ag x.2 with
  | some i=>match c.ag[i]? with
   | some s=>OV aB order s
   | none=> []
  | none=> []) else if x.1=3 then gF order c.aq x.2 (cV it x.2) else if x.1=4 then cL c.ag x.2 else []
theorem IN {lev:Int} (h1:1≤lev) (h2:lev≤4):sc lev.toNat=dD lev:=by
 have:lev=1∨lev=2∨lev=3∨lev=4:=by omega
 rcases this with rfl | rfl | rfl | rfl <;> decide
end Go.Proofs.YtfnkchadeaedlaaGreatDoor
namespace Go.Proofs.YtfnkchadeaedlaaGreatDoor
end Go.Proofs.YtfnkchadeaedlaaGreatDoor
namespace Go.Proofs.YtfnkchadeaedlaaGreatDoor
def Lc (it:Int→af) (aB:af→af) (c:Ct) (order:List af) (root:Int) (x:Cell):af:=
 if x.1=3∧(x.2<1∨64<x.2) then [] else IM it aB c order root x
def kp (val:Cell→af) (l:List (Cell×af)):Bool:=l.any fun r=>decide (val r.1≠r.2)
def ef (f g:Cell→af) (l:List Cell):List Cell:=l.filter fun x=>decide (f x≠g x)
end Go.Proofs.YtfnkchadeaedlaaGreatDoor
namespace Go.Proofs.YtfnkchadeaedlaaGreatDoor
def aH (look:Int→Option af) (s:af):af×Bool:=
 match s with
 | []=>([],false)
 | c::r=>if h:(ak (c::r)).2=0 then (c::(aH look r).1,(aH look r).2) else
  match look (ak (c::r)).1 with
  | some a=>(a++(aH look ((c::r).drop (ak (c::r)).2.toNat)).1,(aH look ((c::r).drop (ak (c::r)).2.toNat)).2)
  | none=>((aH look ((c::r).drop (ak (c::r)).2.toNat)).1,true)
termination_by s.length
decreasing_by
 all_goals first
  | (simp;done)
  | (rcases di (c :: r) with h' | h'
     ·exact absurd (by rw [h']) h
     ·simp only [List.length_drop, List.length_cons] at *; omega)
theorem jW (look:Int→Option af):aH look []=([],false):=by rw [aH]
theorem lV (look:Int→Option af) (c:UInt8) (r:af) (h:(ak (c::r)).2=0):aH look (c::r)=(c::(aH look r).1,(aH look r).2):=by rw [aH,dif_pos h]
theorem kq (look:Int→Option af) (s:af) (h:(ak s).2≠0):aH look s=(match look (ak s).1 with
  | some a=>(a++(aH look (s.drop (ak s).2.toNat)).1,(aH look (s.drop (ak s).2.toNat)).2)
  | none=>((aH look (s.drop (ak s).2.toNat)).1,true)):=by
 cases s with
 | nil=>exact absurd rfl h
 | cons c r=>rw [aH,dif_neg h]
theorem B7 (look:Int→Option af):eZ look []=some []:=by rw [eZ]
theorem zz (look:Int→Option af) (c:UInt8) (r:af) (h:(ak (c::r)).2=0):eZ look (c::r)=(eZ look r).map (c:: ·):=by rw [eZ,dif_pos h]
theorem wQ (look:Int→Option af) (s:af) (h:(ak s).2≠0):eZ look s=(match look (ak s).1,eZ look (s.drop (ak s).2.toNat) with
  | some a,some b=>some (a++b)
  | _,_=>none):=by
 cases s with
 | nil=>exact absurd rfl h
 | cons c r=>
  rw [eZ,dif_neg h]
  first | done | (cases look (ak (c::r)).1 <;> cases eZ look ((c::r).drop (ak (c::r)).2.toNat) <;> rfl)
theorem se (look:Int→Option af): ∀(n:Nat) (s:af),s.length≤n→eZ look s=if (aH look s).2=true then none else some (aH look s).1
 | _, [],_=>by rw [B7,jW];rfl
 | 0,c::r,h=>by simp at h
 | n+1,c::r,h=>by
  simp only [List.length_cons] at h;by_cases hp:(ak (c::r)).2=0
  ·rw [zz look c r hp,lV look c r hp,se look n r (by omega)];split <;> rfl
  ·have hlen:((c::r).drop (ak (c::r)).2.toNat).length≤n:=by
    rcases di (c::r) with h' | h'
    ·exact absurd (by rw [h']) hp
    ·simp only [List.length_drop,List.length_cons];omega
   rw [wQ look _ hp,kq look _ hp,se look n _ hlen];cases look (ak (c::r)).1 with
   | none=>rfl
   | some a=>cases hb:(aH look ((c::r).drop (ak (c::r)).2.toNat)).2 <;> simp
def eh (l:List (Cell×af)) (d:Int):List (Nat×af)→List Nd×Bool
 | []=>([],false)
 | f::r=>(⟨d, [112],(aJ l (3,(f.1:Int))).getD []++ [58,32]++(aH (fun u=>aJ l (4,u)) f.2).1⟩::(eh l d r).1,
   (aJ l (3,(f.1:Int))).isNone || ((aH (fun u=>aJ l (4,u)) f.2).2 || (eh l d r).2))
theorem B8 (l:List (Cell×af)) (d:Int): ∀fs:List (Nat×af),sd l d fs=if (eh l d fs).2=true then none else some (eh l d fs).1
 | []=>rfl
 | f::r=>by
  rw [sd,eh,B8 l d r,se _ f.2.length f.2 (Nat.le_refl _)];cases h3:aJ l (3,(f.1:Int)) with
  | none=>simp
  | some a=>
   simp only [Option.isNone_some,Bool.false_or,Option.getD_some];cases h4:(aH (fun u=>aJ l (4,u)) f.2).2 with
   | true=>simp
   | false=>
    simp only [Bool.false_or,Bool.false_eq_true,if_false];cases h5:(eh l d r).2 with
    | true=>simp
    | false=>simp
theorem oH {x:Cell×af} {r:List (Cell×af)} {c:Cell} (h:x.1≠c):aJ (x::r) c=aJ r c:=by
 unfold aJ;rw [List.find?_cons];have:decide (x.1=c)=false:=by simpa using h
 simp only [this]
theorem wR {x:Cell×af} {r:List (Cell×af)} {c:Cell} (h:x.1=c):aJ (x::r) c=some x.2:=by
 unfold aJ;rw [List.find?_cons];have:decide (x.1=c)=true:=by simpa using h
 simp only [this];rfl
theorem vY {c:Cell}: ∀{l:List (Cell×af)},(∀x∈l,x.1≠c)→aJ l c=none
 | [],_=>rfl
 | x::r,h=>by rw [oH (h x (by simp)),vY (fun y hy=>h y (by simp [hy]))]
theorem Fh {c:Cell}: ∀(l:List (Cell×af)) (i:Nat),jr (l.map Prod.fst)→(∀j r,j<i→l[j]?=some r→dQ r.1 c=true)→(∀j r,i≤j→l[j]?=some r→ ¬ dQ r.1 c=true)→
  aJ l c=match l[i]? with
   | some r=>if r.1=c then some r.2 else none
   | none=>none
 | [],i,_,_,_=>by simp [aJ]
 | x::r,0,hi,_,h2=>by
  simp only [List.getElem?_cons_zero];by_cases h:x.1=c
  ·rw [if_pos h,wR h]
  ·rw [if_neg h];have hc:=lW (h2 0 x (Nat.le_refl _) rfl) h;refine vY fun y hy=> ?_;rcases List.mem_cons.1 hy with hy | hy
   ·rw [hy];exact h
   ·intro he;have:=hi.1 y.1 (List.mem_map.2 ⟨y,hy,rfl⟩);rw [he] at this;exact fJ _ (eR this hc)
 | x::r,i+1,hi,h1,h2=>by
  have hx:=h1 0 x (by omega) rfl;have hne:x.1≠c:=fun h=>by rw [h] at hx;exact fJ _ hx
  rw [oH hne,List.getElem?_cons_succ];exact Fh r i hi.2 (fun j y hj hy=>h1 (j+1) y (by omega) (by simpa using hy)) (fun j y hj hy=>h2 (j+1) y (by omega) (by simpa using hy))
end Go.Proofs.YtfnkchadeaedlaaGreatDoor
namespace Go.Proofs.YtfnkchadeaedlaaGreatDoor
def aD (c:Ct) (lang:af):Bool:=decide (dh c=0)&&bX c.aa lang
def cO (c:Ct) (root:Int) (lang:af):Int:=if dh c≠0 then 1 else if bX c.aa lang=false then 10 else if (aG c.ag root).isSome=false then 7 else 0
theorem Aj {c:Ct} {root:Int} {lang:af} (h:cO c root lang=0):dh c=0∧bX c.aa lang=true∧ ∃i,aG c.ag root=some i:=by
 unfold cO at h;split at h
 ·cases h
 ·split at h
  ·cases h
  ·split at h
   ·cases h
   ·rename_i h1 h2 h3;refine ⟨by simpa using h1,by simpa using h2,?_⟩;cases hi:aG c.ag root with
    | none=>rw [hi] at h3;simp at h3
    | some i=>exact ⟨i,rfl⟩
theorem dR {c:Ct} {lang:af} (h:aD c lang=true):dh c=0∧bX c.aa lang=true:=by simpa [aD] using h
theorem B9 {c:Ct} {lang:af} (h1:dh c=0) (h2:bX c.aa lang=true):aD c lang=true:=by simp [aD,h1,h2]
def bD (c:Ct) (u:Int):Option Sh:=match aG c.ag u with
 | some i=>c.ag[i]?
 | none=>none
theorem eS {c:Ct} {u:Int} {s:Sh} (h:bD c u=some s): ∃i,aG c.ag u=some i∧c.ag[i]?=some s∧s.unit=u∧s∈c.ag:=by
 unfold bD at h;cases hi:aG c.ag u with
 | none=>rw [hi] at h;cases h
 | some i=>rw [hi] at h;obtain ⟨t,h1,h2⟩:=nf hi;have h:c.ag[i]?=some s:=h;rw [h1] at h;cases h;exact ⟨i,rfl,h1,h2,List.mem_of_getElem? h1⟩
def dZ (c:Ct) (u:Int):List Fc:=match bD c u with
 | some s=>s.facts
 | none=> []
def bh (c:Ct) (u:Int) (lang:af):List Fc:=if aD c lang=true then aC (av c.aa lang) (dZ c u) else []
def cn (c:Ct) (u:Int) (lang:af):List Fc:=if aD c lang=true then aW (au c.aa lang) (dZ c u) else []
theorem yg {c:Ct} (hc:yH c) {lang:af} {s:Sh} (hs:s∈c.ag): ∀g∈s.facts,bX (au c.aa lang) g.lang=true:=fun g hg=>vT ((hc.ag s hs).facts g hg).lang
theorem Ca {c:Ct} {u:Int} {lang:af}:bh c u lang=cn c u lang:=by
 unfold bh cn;cases hr:aD c lang with
 | false=>rfl
 | true=>
  obtain ⟨h1,h2⟩:=dR hr;have hc:=b9 h1;rw [if_pos rfl,if_pos rfl,nh hc.diff h2];unfold dZ;cases hs:bD c u with
  | none=>rfl
  | some s=>obtain ⟨_,_,_,_,hm⟩:=eS hs;exact tu (hc.ag s hm).inc (yg hc hm)
def qT (it:Int→af) (aB:af→af) (tag title mark:af) (facts:List Fc):af:=tag++ [32]++aB title++ [10]++(qS++ [32]++aB mark++ [10])++facts.flatMap fun f=>it f.el++ [32]++aB f.text++ [10]
theorem yh (it:Int→af) (aB:af→af) (hit: ∀n:Int,1≤n→n≤64→it n=zy n.toNat): ∀(l:List Fc),(∀f∈l,1≤f.el∧f.el≤64)→(l.flatMap fun f=>it f.el++ [32]++aB f.text++ [10])=((l.map Fg).map (IJ aB)).flatMap fun p=>p++ [10]
 | [],_=>rfl
 | f::r,h=>by
  obtain ⟨h1,h2⟩:=h f (by simp);rw [List.flatMap_cons,List.map_cons,List.map_cons,List.flatMap_cons,yh it aB hit r (fun g hg=>h g (by simp [hg])),hit _ h1 h2];simp [IJ,Fg]
theorem Ld {it:Int→af} {aB:af→af} (hit: ∀n:Int,1≤n→n≤64→it n=zy n.toNat) {lev:Int} (h1:1≤lev) (h2:lev≤4) (title mark:af) {facts:List Fc} (hf: ∀f∈facts,1≤f.el∧f.el≤64):qT it aB (dD lev) title mark facts=IL aB lev.toNat title mark (facts.map Fg):=by unfold qT IL IK;rw [yh it aB hit facts hf,List.flatMap_cons,List.flatMap_cons,IN h1 h2];simp
def bC (it:Int→af) (aB:af→af) (c:Ct) (lang:af) (root:Int) (x:Cell):af:=if aD c lang=true then Lc it aB c (av c.aa lang) root x else []
def sf (it:Int→af) (aB:af→af) (c:Ct) (lang:af) (root:Int) (x:Cell):af:=
 if x.1=1 then dy it c root x.2 else if x.1=2 then (match bD c x.2 with
  | some s=>qT it aB (dD s.level) s.title s.mark (aC (av c.aa lang) s.facts)
  | none=> []) else if x.1=3 then (if x.2<1∨64<x.2 then [] else gF (av c.aa lang) c.aq x.2 (cV it x.2)) else if x.1=4 then cL c.ag x.2 else []
def Cb (it:Int→af) (aB:af→af) (c:Ct) (lang:af) (root:Int) (x:Cell):af:=
 if x.1=1 then gb it c root x.2 else if x.1=2 then (match bD c x.2 with
  | some s=>qT it aB (dD s.level) s.title s.mark (aW (au c.aa lang) s.facts)
  | none=> []) else if x.1=3 then (if x.2<1∨64<x.2 then [] else il (au c.aa lang) c.aq x.2 (cV it x.2)) else if x.1=4 then cL c.ag x.2 else []
theorem zA {it:Int→af} {aB:af→af} (hit: ∀n:Int,1≤n→n≤64→it n=zy n.toNat) {c:Ct} (hc:yH c) (lang:af) (root:Int) (x:Cell):sf it aB c lang root x=Lc it aB c (av c.aa lang) root x:=by
 unfold sf Lc IM;by_cases h1:x.1=1
 ·simp [h1]
 by_cases h2:x.1=2
 ·simp only [h2,show¬ (2:Int)=1 by decide,show¬ (2:Int)=3 by decide,if_false,if_true,false_and];unfold bD;cases hi:aG c.ag x.2 with
  | none=>rfl
  | some i=>
   simp only;cases hs:c.ag[i]? with
   | none=>rfl
   | some s=>have hm:=List.mem_of_getElem? hs;have ho:=hc.ag s hm;exact Ld hit ho.l1 ho.l2 _ _ (fun f hf=>⟨(ho.facts f (fC hf)).Hy,(ho.facts f (fC hf)).Hz⟩)
 by_cases h3:x.1=3
 ·simp only [h3,show¬ (3:Int)=1 by decide,show¬ (3:Int)=2 by decide,if_false,if_true,true_and]
 ·simp [h1,h2,h3]
theorem Fi {it:Int→af} {aB:af→af} {c:Ct} (hc:yH c) {lang:af} (hl:bX c.aa lang=true) (root:Int) (x:Cell):Cb it aB c lang root x=sf it aB c lang root x:=by
 unfold sf Cb;rw [nh hc.diff hl,tw hc];have hn:=Gz (order:=au c.aa lang) hc.VW (fun g hg=>vT (hc.aq g hg).lang) x.2 (cV it x.2);rw [hn];cases hs:bD c x.2 with
 | none=>rfl
 | some s=>obtain ⟨_,_,_,_,hm⟩:=eS hs;have:=tu (order:=au c.aa lang) (hc.ag s hm).inc (yg hc hm);simp only [this]
def aM (it:Int→af) (aB:af→af) (c:Ct) (root:Int) (lang:af) (u:Int):List (Cell×af)×Int:=
 if cO c root lang≠0 then ([],cO c root lang) else if dy it c root u= [] then ([],7) else ((cellsOf u (bh c u lang)).map fun z=>(z,bC it aB c lang root z),0)
end Go.Proofs.YtfnkchadeaedlaaGreatDoor
namespace Go.Proofs.YtfnkchadeaedlaaGreatDoor
variable {it:Int→af} {aB:af→af} {aZ:af→Option af}
def zB:List (Cell×af)→Bool
 | []=>true
 | [_]=>true
 | a::b::r=>dQ a.1 b.1&&zB (b::r)
theorem Fj: ∀{l:List (Cell×af)},zB l=true→jr (l.map Prod.fst)
 | [],_=>trivial
 | [a],_=>⟨by simp,trivial⟩
 | a::b::r,h=>by
  simp only [zB,Bool.and_eq_true] at h;have ih:=Fj h.2;refine ⟨fun y hy=> ?_,ih⟩;rcases List.mem_cons.1 hy with hy | hy
  ·rw [hy];exact h.1
  ·exact eR h.1 (ih.1 y hy)
def mc (aZ:af→Option af) (unit:Int) (l:List (Cell×af)):Int×Option pO:=if zB l=true then OU aZ unit l else (5,none)
theorem ei {c:Ct} {root:Int} {lang:af} (h:cO c root lang=0):aD c lang=true:=by obtain ⟨h1,h2,_⟩:=Aj h;exact B9 h1 h2
end Go.Proofs.YtfnkchadeaedlaaGreatDoor
namespace Go.Proofs.YtfnkchadeaedlaaGreatDoor
def Sh.jX (s:Sh):Sh:=⟨s.unit,s.par,s.level,s.mark,s.title,s.facts,none,0⟩
def Ct.jX (c:Ct):Ct:=⟨c.aa,c.aq,c.ag.map Sh.jX,none,0,none,0,none,0⟩
def Ct.Q1 (a b:Ct):Prop:=a.jX=b.jX
theorem k7: ∀(l:List Sh) (u:Int),aG (l.map Sh.jX) u=aG l u
 | [],_=>rfl
 | s::r,u=>by simp only [List.map_cons,aG,k7 r u];rfl
theorem IP (pre:List Sh) (s:Sh):jv (pre.map Sh.jX) s.jX=jv pre s:=by unfold jv;rw [k7];rfl
theorem yi (aa:List af): ∀(l pre:List Sh) (path:List Int),me aa (pre.map Sh.jX) path (l.map Sh.jX)=me aa pre path l
 | [],_,_=>rfl
 | s::r,pre,path=>by
  have h1:(pre.map Sh.jX)++ [s.jX]=(pre++ [s]).map Sh.jX:=by simp
  have h2:fQ path s.jX=fQ path s:=rfl;simp only [List.map_cons,me,IP,h2,h1,yi aa r];rfl
theorem Fk (c:Ct):dh c.jX=dh c:=by
 have h:uj c.aa (c.ag.map Sh.jX)=uj c.aa c.ag:=by unfold uj;have:=yi c.aa c.ag [] [];rw [List.length_map];rw [show ([]:List Sh).map Sh.jX= [] from rfl] at this;rw [this]
 unfold dh;show (if j4 c.aa=0 then (if oo c.aa c.aq=0 then uj c.aa (c.ag.map Sh.jX) else _) else _)=_;rw [h];rfl
theorem nV (c:Ct) (lang:af):aD c.jX lang=aD c lang:=by unfold aD;rw [Fk];rfl
theorem IQ (c:Ct) (root:Int) (lang:af):cO c.jX root lang=cO c root lang:=by unfold cO;rw [Fk,show c.jX.ag=c.ag.map Sh.jX from rfl,k7];rfl
theorem pC (it:Int→af) (root:Int): ∀(l:List Sh) (st:NS),dj it root st (l.map Sh.jX)=(dj it root st l).map fun x=>(x.1.jX,x.2)
 | [],_=>rfl
 | s::r,st=>by
  have h:dY it root st s.jX=dY it root st s:=rfl;simp only [List.map_cons,dj,h];rw [show s.jX.unit=s.unit from rfl];cases cW (dY it root st s).DV s.unit with
  | none=>exact pC it root r _
  | some n=>simp only [List.map_cons];rw [pC it root r]
theorem yj (u:Int): ∀(l:List (Sh×af)) (f:af),fb u f (l.map fun x=>(x.1.jX,x.2))=fb u f l
 | [],_=>rfl
 | x::r,f=>by
  simp only [List.map_cons,fb,yj u r];rfl
theorem vZ (it:Int→af) (c:Ct) (root u:Int):dy it c.jX root u=dy it c root u:=by unfold dy;rw [show c.jX.ag=c.ag.map Sh.jX from rfl,pC,yj]
theorem D1 (c:Ct) (u:Int):bD c.jX u=(bD c u).map Sh.jX:=by
 unfold bD;rw [show c.jX.ag=c.ag.map Sh.jX from rfl,k7];cases aG c.ag u with
 | none=>rfl
 | some i=>simp
theorem GB (c:Ct) (u:Int):dZ c.jX u=dZ c u:=by unfold dZ;rw [D1];cases bD c u <;> rfl
theorem D2 (c:Ct) (u:Int) (lang:af):bh c.jX u lang=bh c u lang:=by unfold bh;rw [nV,GB];rfl
theorem IS (c:Ct):cL c.jX.ag=cL c.ag:=by
 funext u;unfold cL;rw [show c.jX.ag=c.ag.map Sh.jX from rfl,k7];cases aG c.ag u with
 | none=>rfl
 | some i=>simp only [List.getElem?_map];cases c.ag[i]? <;> rfl
theorem IT (it:Int→af) (aB:af→af) (c:Ct) (order:List af) (root:Int) (x:Cell):IM it aB c.jX order root x=IM it aB c order root x:=by
 unfold IM;rw [vZ,IS,show c.jX.ag=c.ag.map Sh.jX from rfl,k7];cases aG c.ag x.2 with
 | none=>rfl
 | some i=>simp only [List.getElem?_map];cases c.ag[i]? <;> rfl
theorem v7 (it:Int→af) (aB:af→af) (c:Ct) (lang:af) (root:Int):bC it aB c.jX lang root=bC it aB c lang root:=by funext x;unfold bC Lc;rw [nV,IT];rfl
theorem yk (it:Int→af) (aB:af→af) (c:Ct) (root:Int) (lang:af) (u:Int):aM it aB c.jX root lang u=aM it aB c root lang u:=by unfold aM;rw [IQ,vZ,D2,v7]
section
variable {a b:Ct} (h:a.Q1 b)
include h
theorem Ct.Q1.right (lang:af):aD a lang=aD b lang:=by rw [←nV a,←nV b,h]
theorem Ct.Q1.bC (it:Int→af) (aB:af→af) (lang:af) (root:Int):bC it aB a lang root=bC it aB b lang root:=by rw [←v7 it aB a,←v7 it aB b,h]
theorem Ct.Q1.reads (it:Int→af) (aB:af→af) (root:Int) (lang:af) (u:Int):aM it aB a root lang u=aM it aB b root lang u:=by rw [←yk it aB a,←yk it aB b,h]
end
end Go.Proofs.YtfnkchadeaedlaaGreatDoor
