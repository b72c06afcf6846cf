/-
 Catalogs as plain values: their faults, the way to a sheet, the numbers of sections: the program's way and the reference's are one. No program. Catalogs as plain values: preferences, chosen facts, labels: the program's way and the reference's are one. No program. What a catalog without a fault is. No program. The piece of a text with the number of a unit: the program's way and the reference's are one. No program. Citations, expanded texts, sections, the number of a unit's section, finding aids: in plain words, the program's way and the reference's are one. No program. The text of a unit, read by the program's way and by the reference's: the fact of a line. No program. Texts split at a byte. No program. The text of a unit, read by the program's way and by the reference's. No program. The text of a unit is read back. No program. The reads of a section, and the section from its reads: it is that of the finding aid. No program. Reads that are not stale: the other catalog's section is the same. No program. Values of the cells that a section reads are there; stale reads and differences. No program. The section from reads of any kind: the program notes that a read is missing and goes on, the reference stops. No program. What the functions of packages aid and depend answer, as plain functions; the reference's way is the program's. No program. The laws of package depend, as plain facts. No program. How a catalog's slices came in does not matter for any answer. No program.
-/
import Derived.Test.YtfnkchadeaedlaaGreatDoorStrM
set_option linter.all false
namespace Go.Proofs.YtfnkchadeaedlaaGreatDoor
def nu (e:Int) (s:ag) (f:Int) (t:ag):Bool:=decide (e<f∨e=f∧Lib.compareBytes s t<0)
structure Lb where
 el:Int
 aa:ag
 text:ag
 ix:Int
structure Fc where
 el:Int
 aa:ag
 text:ag
structure Sh where
 unit:Int
 par:Int
 level:Int
 mark:ag
 title:ag
 facts:List Fc
 fn:Option Bool
 fz:Nat
structure Ct where
 ae:List ag
 aA:List Lb
 ay:List Sh
 ln:Option Bool
 lz:Nat
 bn:Option Bool
 bz:Nat
 sn:Option Bool
 sz:Nat
def D7 (s:ag):Bool:=decide (s.length=2)&&(decide (97≤(s.getD 0 0).toNat∧(s.getD 0 0).toNat≤122)&&decide (97≤(s.getD 1 0).toNat∧(s.getD 1 0).toNat≤122))
def fE (l:List ag) (s:ag):Bool:=l.any (s== ·)
def fW:List ag→List ag→Int
 | _, []=>0
 | pre,s::r=>if D7 s=false then 4 else if fE pre s=true then 6 else fW (pre++ [s]) r
def nT (l:List ag):Int:=if l.length<1∨8<l.length then 2 else fW [] l
def xw (ae:List ag) (p:Option Lb) (l:Lb):Int:=
 if l.el<1∨64<l.el∨l.ix<0∨3<l.ix then 2 else if fE ae l.aa=false then 7 else if l.text.length<1∨64<l.text.length then 4 else
 match p with
 | none=>0
 | some p=>if nu p.el p.aa l.el l.aa=false then 5 else if p.el=l.el∧p.ix≠l.ix then 10 else 0
def ij (ae:List ag):Option Lb→List Lb→Int
 | _, []=>0
 | p,l::r=>if xw ae p l=0 then ij ae (some l) r else xw ae p l
def sX (ae:List ag) (l:List Lb):Int:=if 256<l.length then 8 else ij ae none l
def yM (ae:List ag) (p:Option Fc) (f:Fc):Int:=
 if f.el<1∨64<f.el then 2 else if fE ae f.aa=false then 7 else if f.text.length<1∨4096<f.text.length then 4 else
 match p with
 | none=>0
 | some p=>if nu p.el p.aa f.el f.aa=false then 5 else 0
def ik (ae:List ag):Option Fc→List Fc→Int
 | _, []=>0
 | p,f::r=>if yM ae p f=0 then ik ae (some f) r else yM ae p f
def nA (ae:List ag) (l:List Fc):Int:=if 32<l.length then 8 else ik ae none l
def cb:List Sh→Int→Option Nat
 | [],_=>none
 | s::r,u=>if s.unit=u then some 0 else (cb r u).map (· +1)
def nS:List Int→Int→Option Nat
 | [],_=>none
 | x::r,u=>if x=u then some 0 else (nS r u).map (· +1)
def cC (o:Option Nat):Int:=match o with | some n=>n | none=> -1
def kG (pre:List Sh) (s:Sh):Int:=
 if s.unit<1∨1073741824<s.unit∨s.level<1∨4<s.level then 2 else
 if 64<s.mark.length∨s.title.length<1∨64<s.title.length then 4 else if (cb pre s.unit).isSome=true then 6 else 0
def fj (path:List Int) (s:Sh):Option Nat:=if s.par=0 then some 0 else (nS path s.par).map (· +1)
def lJ (ae:List ag):List Sh→List Int→List Sh→Int
 | _,_, []=>0
 | pre,path,s::r=>if kG pre s=0 then
   (match fj path s with
   | none=>7
   | some k=>if 12≤k then 15 else if nA ae s.facts=0 then lJ ae (pre++ [s]) (path.take k++ [s.unit]) r else nA ae s.facts)
  else kG pre s
def sY (ae:List ag) (l:List Sh):Int:=if 256<l.length then 8 else lJ ae [] [] l
def gf (c:Ct):Int:=if nT c.ae=0 then (if sX c.ae c.aA=0 then sY c.ae c.ay else sX c.ae c.aA) else nT c.ae
theorem gN: ∀{l:List Sh} {u:Int} {k:Nat},cb l u=some k→k<l.length
 | s::r,u,k,h=>by
  unfold cb at h;split at h
  ·cases h;simp
  ·cases hr:cb r u with
   | none=>rw [hr] at h;cases h
   | some j=>rw [hr] at h;simp only [Option.map_some,Option.some.injEq] at h;have:=gN hr;simp only [List.length_cons];omega
def chain (l:List Sh) (i:Nat):List Int:=
 match h:l[i]? with
 | none=> []
 | some s=>s.unit::(if s.par=0 then [] else
  match hj:cb (l.take i) s.par with
  | some j=>chain l j
  | none=> [])
termination_by i
decreasing_by
 have:=gN hj;simp only [List.length_take] at this;omega
def jN (l:List Sh) (i:Nat) (s:Sh):Option Nat:=
 if s.par=0 then some 0 else if i=0 then none else if (chain l (i-1)).contains s.par=true then
  some (match cb (l.take i) s.par with | some j=>(chain l j).length | none=>0) else none
def AE (ae:List ag) (l:List Sh) (i:Nat) (s:Sh):Int:=
 if kG (l.take i) s=0 then
  (match jN l i s with
  | none=>7
  | some k=>if 12≤k then 15 else nA ae s.facts)
 else kG (l.take i) s
def qZ (ae:List ag) (l:List Sh):Nat→List Sh→Int
 | _, []=>0
 | i,s::r=>if AE ae l i s=0 then qZ ae l (i+1) r else AE ae l i s
def MC (ae:List ag) (l:List Sh):Int:=if 256<l.length then 8 else qZ ae l 0 l
theorem eu {l:List Sh} {i:Nat} {s:Sh} (h:l[i]?=some s):chain l i=s.unit::(if s.par=0 then [] else match cb (l.take i) s.par with | some j=>chain l j | none=> []):=by
 rw [chain];split
 ·rename_i h';rw [h'] at h;cases h
 ·rename_i s' h';rw [h'] at h;cases h;congr 1;split
  ·rfl
  ·split
   ·rename_i h1;rw [h1]
   ·rename_i h1;rw [h1]
theorem AF: ∀{l:List Sh} {u:Int} {k:Nat},cb l u=some k→ ∃s,l[k]?=some s∧s.unit=u
 | s::r,u,k,h=>by
  unfold cb at h;split at h
  ·cases h;exact ⟨s,rfl,by assumption⟩
  ·cases hr:cb r u with
   | none=>rw [hr] at h;cases h
   | some j=>rw [hr] at h;simp only [Option.map_some,Option.some.injEq] at h;subst h;obtain ⟨x,h1,h2⟩:=AF hr;exact ⟨x,by simpa using h1,h2⟩
def kY (l:List Sh):Prop:= ∀(i:Nat) (s:Sh),l[i]?=some s→cb (l.take i) s.unit=none
theorem ng: ∀{l:List Sh} {j:Nat} {s:Sh},l[j]?=some s→cb (l.take j) s.unit=none→cb l s.unit=some j
 | x::r,0,s,h,_=>by cases h;simp [cb]
 | x::r,j+1,s,h,hn=>by
  simp only [List.take_succ_cons,cb] at hn;split at hn
  ·cases hn
  ·rename_i hx
   rw [cb,if_neg hx,ng (l:=r) (j:=j) h (by
    cases hr:cb (r.take j) s.unit with
    | none=>rfl
    | some k=>rw [hr] at hn;cases hn)]
   rfl
theorem uO {l:List Sh}: ∀(i:Nat) (u:Int),u∈chain l i→ ∃(p:List Int) (j:Nat) (s:Sh),j≤i∧l[j]?=some s∧s.unit=u∧chain l i=p++chain l j∧u∉p:=by
 intro i
 induction i using Nat.strongRecOn with
 | _ i ih=>
  intro u hu;cases hs:l[i]? with
  | none=>
   rw [chain] at hu;split at hu
   ·cases hu
   ·rename_i h;rw [hs] at h;cases h
  | some s=>
   by_cases hsu:s.unit=u
   ·exact ⟨[],i,s,Nat.le_refl _,hs,hsu,rfl,by simp⟩
   ·rw [eu hs] at hu⊢;rcases List.mem_cons.1 hu with rfl | hu
    ·exact absurd rfl hsu
    ·split at hu
     ·cases hu
     ·rename_i hp;rw [if_neg hp];split at hu
      ·rename_i j hj;have hlt:=gN hj;simp only [List.length_take] at hlt;obtain ⟨p,k,t,h1,h2,h3,h4,h5⟩:=ih j (by omega) u hu;refine ⟨s.unit::p,k,t,by omega,h2,h3,by rw [h4];rfl,?_⟩;simp only [List.mem_cons,not_or];exact ⟨fun h=>hsu h.symm,h5⟩
      ·cases hu
theorem sa {l:List Sh} (i:Nat) (u:Int) (h:u∈chain l i): ∃(j:Nat) (s:Sh),j≤i∧l[j]?=some s∧s.unit=u:=by obtain ⟨_,j,s,h1,h2,h3,_⟩:=uO i u h;exact ⟨j,s,h1,h2,h3⟩
theorem CG {l:List Sh} {j:Nat} {s:Sh} (h:l[j]?=some s): ∃t,chain l j=s.unit::t:=⟨_,eu h⟩
theorem E0 {l:List Sh} (hu:kY l) {i j:Nat} {s t:Sh} (h1:l[i]?=some s) (h2:l[j]?=some t) (h:s.unit=t.unit):i=j:=by have e1:=ng h1 (hu i s h1);have e2:=ng h2 (hu j t h2);rw [h] at e1;rw [e1] at e2;exact Option.some.inj e2
theorem AG {l:List Sh} (hu:kY l): ∀i,(chain l i).Nodup:=by
 intro i
 induction i using Nat.strongRecOn with
 | _ i ih=>
  cases hs:l[i]? with
  | none=>
   rw [chain];split
   ·exact List.nodup_nil
   ·rename_i h;rw [hs] at h;cases h
  | some s=>
   rw [eu hs];split
   ·simp
   ·split
    ·rename_i j hj;have hlt:=gN hj;simp only [List.length_take] at hlt;refine List.nodup_cons.2 ⟨fun hm=> ?_,ih j (by omega)⟩;obtain ⟨k,t,h1,h2,h3⟩:=sa j _ hm;have:=E0 hu h2 hs h3;omega
    ·simp
theorem AH: ∀(a:List Int) (u:Int) (b:List Int),u∉a→nS (a++u::b) u=some a.length
 | [],u,b,_=>by simp [nS]
 | x::a,u,b,h=>by
  simp only [List.mem_cons,not_or] at h;rw [List.cons_append,nS,if_neg (fun hx=>h.1 hx.symm),AH a u b h.2];rfl
theorem wT: ∀(a:List Int) (u:Int),u∉a→nS a u=none
 | [],u,_=>rfl
 | x::a,u,h=>by
  simp only [List.mem_cons,not_or] at h;rw [nS,if_neg (fun hx=>h.1 hx.symm),wT a u h.2];rfl
theorem wU {l:List Sh} (hu:kY l) {i j:Nat} {s:Sh} (hj:l[j]?=some s) (hji:j<i):cb (l.take i) s.unit=some j:=by refine ng (l:=l.take i) (by rw [List.getElem?_take,if_pos hji];exact hj) ?_;rw [List.take_take,Nat.min_eq_left (by omega)];exact hu j s hj
def fS (l:List Sh) (i:Nat):List Int:=if i=0 then [] else (chain l (i-1)).reverse
theorem CJ {l:List Sh} (hu:kY l) (i:Nat) (s:Sh) (hs:l[i]?=some s):
  fj (fS l i) s=jN l i s∧ ∀k,fj (fS l i) s=some k→(fS l i).take k++ [s.unit]=(chain l i).reverse:=by
 unfold fj jN fS;by_cases hp:s.par=0
 ·rw [if_pos hp,if_pos hp];refine ⟨rfl,fun k hk=> ?_⟩;cases hk;rw [eu hs,if_pos hp];simp
 ·rw [if_neg hp,if_neg hp];by_cases h0:i=0
  ·rw [if_pos h0,if_pos h0];exact ⟨rfl,fun k hk=>by cases hk⟩
  ·rw [if_neg h0,if_neg h0];by_cases hm:s.par∈chain l (i-1)
   ·obtain ⟨p,j,t,h1,h2,h3,h4,h5⟩:=uO (i-1) s.par hm;obtain ⟨r,hr⟩:=CG h2;have hnd:=AG hu (i-1)
    have e1:(chain l (i-1)).reverse=r.reverse++s.par::p.reverse:=by rw [h4,hr,h3];simp
    have hnr:s.par∉r.reverse:=by rw [h4,hr,h3] at hnd;have:=(List.nodup_append.1 hnd).2.1;exact fun h=>(List.nodup_cons.1 this).1 (List.mem_reverse.1 h)
    have e2:nS ((chain l (i-1)).reverse) s.par=some r.length:=by rw [e1,AH _ _ _ hnr,List.length_reverse]
    have e3:cb (l.take i) s.par=some j:=by rw [←h3];exact wU hu h2 (by omega)
    rw [e2,if_pos (by simpa using hm),e3];refine ⟨by simp [hr],fun k hk=> ?_⟩;simp only [Option.map_some,Option.some.injEq] at hk;subst hk;rw [eu hs,if_neg hp,e3,e1];simp only [hr,h3];simp [List.take_append];rw [List.take_of_length_le (by simp)]
   ·rw [wT _ _ (fun h=>hm (List.mem_reverse.1 h)),if_neg (by simpa using hm)];exact ⟨rfl,fun k hk=>by cases hk⟩
theorem lj {l:List Sh} {n:Nat}: ∀i,i<n→chain (l.take n) i=chain l i:=by
 intro i
 induction i using Nat.strongRecOn with
 | _ i ih=>
  intro hi;have hg:(l.take n)[i]?=l[i]?:=by rw [List.getElem?_take,if_pos hi]
  cases hs:l[i]? with
  | none=>
   rw [chain,chain];split
   ·split
    ·rfl
    ·rename_i h;rw [hs] at h;cases h
   ·rename_i h;rw [hg,hs] at h;cases h
  | some s=>
   rw [eu hs,eu (hg.trans hs),List.take_take,Nat.min_eq_left (by omega)];congr 1;split
   ·rfl
   ·split
    ·rename_i j hj;have hlt:=gN hj;simp only [List.length_take] at hlt;exact ih j (by omega) (by omega)
    ·rfl
theorem AI {l:List Sh} {n i:Nat} (h:i<n) (s:Sh):jN (l.take n) i s=jN l i s:=by
 unfold jN;by_cases h0:i=0
 ·subst h0;rfl
 ·rw [List.take_take,Nat.min_eq_left (by omega),lj (i-1) (by omega)];congr 3;split
  ·rename_i j hj;have hlt:=gN hj;simp only [List.length_take] at hlt;rw [lj j (by omega)]
  ·rfl
theorem sb (ae:List ag) (l:List Sh): ∀(r pre:List Sh),l=pre++r→kY pre→lJ ae pre (fS l pre.length) r=qZ ae l pre.length r
 | [],_,_,_=>rfl
 | s::r,pre,hl,hu=>by
  have hs:l[pre.length]?=some s:=by rw [hl];simp
  have ht:l.take pre.length=pre:=by rw [hl];simp
  unfold lJ qZ AE;rw [ht];by_cases h1:kG pre s=0
  ·have hn:cb pre s.unit=none:=by
    unfold kG at h1;split at h1
    ·cases h1
    ·split at h1
     ·cases h1
     ·split at h1
      ·cases h1
      ·rename_i h;simpa using h
   have hu':kY (pre++ [s]):=fun i t hi=>by
    rcases Nat.lt_trichotomy i pre.length with h | h | h
    ·rw [List.getElem?_append_left h] at hi;rw [List.take_append_of_le_length (by omega)];exact hu i t hi
    ·subst h;simp at hi;subst hi;simp [hn]
    ·rw [List.getElem?_eq_none (by simp;omega)] at hi;cases hi
   have hpl: ∀m,fj (fS l pre.length) s=m→jN l pre.length s=m∧ ∀k,m=some k→(fS l pre.length).take k++ [s.unit]=fS l (pre++ [s]).length:=fun m hm=>by
    have hw:l.take (pre.length+1)=pre++ [s]:=by rw [hl];simp [List.take_append];rw [List.take_of_length_le (by omega)]
    have key:=CJ (l:=pre++ [s]) hu' pre.length s (by simp);rw [←hw,AI (by omega),lj _ (by omega)] at key
    have hp:fS (l.take (pre.length+1)) pre.length=fS l pre.length:=by
     unfold fS;split
     ·rfl
     ·rw [lj _ (by omega)]
    rw [hp,hm] at key;refine ⟨key.1.symm,fun k hk=> ?_⟩;rw [key.2 k hk];unfold fS;simp
   rw [if_pos h1,if_pos h1];cases hm:fj (fS l pre.length) s with
   | none=>rw [(hpl _ hm).1];rfl
   | some k=>
    obtain ⟨e1,e2⟩:=hpl _ hm;rw [e1];simp only;by_cases hk:12≤k
    ·rw [if_pos hk,if_pos hk];rfl
    ·rw [if_neg hk,if_neg hk];by_cases hf:nA ae s.facts=0
     ·rw [if_pos hf,if_pos hf,e2 k rfl];have:=sb ae l r (pre++ [s]) (by rw [hl];simp) hu';rw [this];simp
     ·rw [if_neg hf,if_neg hf]
  ·rw [if_neg h1,if_neg h1,if_neg h1]
theorem G2 (ae:List ag) (l:List Sh):sY ae l=MC ae l:=by
 unfold sY MC;split
 ·rfl
 ·have:=sb ae l l [] rfl (fun i s h=>by simp at h);exact this
variable (it:Int→ag)
def dp {α:Type}:List (Int×α)→Int→Option α
 | [],_=>none
 | (x,v)::r,u=>if x=u then some v else dp r u
def iZ {α:Type}:List (Int×α)→Int→α→List (Int×α)
 | [],u,v=> [(u,v)]
 | (x,w)::r,u,v=>if x=u then (x,v)::r else (x,w)::iZ r u v
theorem lM {α:Type}: ∀(l:List (Int×α)) (u:Int) (v:α) (t:Int),dp (iZ l u v) t=if u=t then some v else dp l t
 | [],u,v,t=>by simp [iZ,dp]
 | (x,w)::r,u,v,t=>by
  unfold iZ;by_cases h:x=u
  ·subst h;rw [if_pos rfl];simp only [dp];split <;> rfl
  ·rw [if_neg h];simp only [dp,lM r u v t];by_cases h2:x=t
   ·rw [if_pos h2,if_pos h2,if_neg (fun h3=>h (h2.trans h3.symm))]
   ·rw [if_neg h2,if_neg h2]
structure NS where
 I0:List (Int×ag)
 kids:List (Int×Int)
def fX (root:Int) (st:NS) (s:Sh):NS:=
 if s.unit=root then ⟨iZ st.I0 s.unit [49],st.kids⟩ else
 match dp st.I0 s.par with
 | some above=>⟨iZ st.I0 s.unit (above++ [46]++it ((dp st.kids s.par).getD 0+1)),iZ st.kids s.par ((dp st.kids s.par).getD 0+1)⟩
 | none=>st
def ec (root:Int):NS→List Sh→List (Sh×ag)
 | _, []=> []
 | st,s::r=>match dp (fX it root st s).I0 s.unit with
  | some n=>(s,n)::ec root (fX it root st s) r
  | none=>ec root (fX it root st s) r
structure Valid (l:List Sh):Prop where
 uniq:kY l
 par: ∀(i:Nat) (s:Sh),l[i]?=some s→s.par≠0→ ∃j,cb (l.take i) s.par=some j
 pos: ∀s∈l,1≤s.unit
end Go.Proofs.YtfnkchadeaedlaaGreatDoor
namespace Go.Proofs.YtfnkchadeaedlaaGreatDoor
def qp:List ag→ag→Option Nat
 | [],_=>none
 | x::r,s=>if x=s then some 0 else (qp r s).map (· +1)
theorem AJ: ∀{l:List ag} {s:ag} {k:Nat},qp l s=some k→l[k]?=some s
 | x::r,s,k,h=>by
  unfold qp at h;split at h
  ·rename_i hx;cases h;simp [hx]
  ·cases hr:qp r s with
   | none=>rw [hr] at h;cases h
   | some j=>rw [hr] at h;simp only [Option.map_some,Option.some.injEq] at h;subst h;simpa using AJ hr
theorem yS: ∀{l:List ag} {s:ag},fE l s=true→ ∃k,qp l s=some k
 | [],s,h=>by simp [fE] at h
 | x::r,s,h=>by
  unfold qp;by_cases hx:x=s
  ·exact ⟨0,by rw [if_pos hx]⟩
  ·have:fE r s=true:=by unfold fE at h⊢;rw [List.any_cons,show (s==x)=false from by simpa using fun h=>hx h.symm] at h;simpa using h
   obtain ⟨k,hk⟩:=yS this;exact ⟨k+1,by rw [if_neg hx,hk];rfl⟩
def ar (l:List ag) (s:ag):List ag:=match qp l s with | some i=>s::(l.take i++l.drop (i+1)) | none=> []
def Diff:List ag→Prop
 | []=>True
 | x::r=>x∉r∧Diff r
def rk (order:List ag) (s:ag):Int:=match qp order s with | some k=>k | none=> -1
def gJ (order:List ag) (cur:Fc):List Fc→List Fc
 | []=> [cur]
 | f::r=>if cur.el≠f.el then cur::gJ order f r else if rk order f.aa<rk order cur.aa then gJ order f r else gJ order cur r
def aD (order:List ag):List Fc→List Fc
 | []=> []
 | f::r=>gJ order f r
def SB:List Fc→Prop
 | []=>True
 | f::r=>(∀g∈r,f.el<g.el∨f.el=g.el∧f.aa≠g.aa)∧SB r
def gA (order:List ag) (el:Int):ag→Int→List Lb→ag
 | t,_, []=>t
 | t,b,l::r=>if l.el=el∧rk order l.aa<b then gA order el l.text (rk order l.aa) r else gA order el t b r
def iq (order:List ag) (aA:List Lb) (el:Int) (dflt:ag):ag:=gA order el dflt order.length aA
def MD:List Lb→Prop
 | []=>True
 | f::r=>(∀g∈r,f.el=g.el→f.aa≠g.aa)∧MD r
theorem HV: ∀{l:List ag} {s:ag} {k:Nat},qp l s=some k→k<l.length:=fun h=>by
 have:=AJ h;exact (List.getElem?_eq_some_iff.1 this).1
end Go.Proofs.YtfnkchadeaedlaaGreatDoor
namespace Go.Proofs.YtfnkchadeaedlaaGreatDoor
theorem uP: ∀(l pre:List ag),fW pre l=0→Diff l∧(∀s∈l,D7 s=true)∧ ∀s∈l,s∉pre
 | [],_,_=>⟨trivial,by simp,by simp⟩
 | x::r,pre,h=>by
  unfold fW at h;split at h
  ·cases h
  ·rename_i h1;split at h
   ·cases h
   ·rename_i h2;obtain ⟨i1,i2,i3⟩:=uP r _ h;refine ⟨⟨fun hx=>i3 x hx (by simp),i1⟩,fun s hs=> ?_,fun s hs hp=> ?_⟩
    ·rcases List.mem_cons.1 hs with rfl | hs
     ·simpa using h1
     ·exact i2 s hs
    ·rcases List.mem_cons.1 hs with rfl | hs
     ·apply h2;unfold fE;rw [List.any_eq_true];exact ⟨s,hp,by simp⟩
     ·exact i3 s hs (by simp [hp])
theorem qd {e f:Int} {s t:ag} (h:nu e s f t=true):e<f∨e=f∧Lib.compareBytes s t<0:=by simpa [nu] using h
theorem AK {a b c:ag} (h1:Lib.compareBytes a b<0) (h2:Lib.compareBytes b c<0):Lib.compareBytes a c<0:=by
 have h:=AM a b c (by omega) (by omega);by_cases h0:Lib.compareBytes a c=0
 ·have:=(h.2 h0).1;omega
 ·omega
theorem uQ {e f g:Int} {s t u:ag} (h1:nu e s f t=true) (h2:nu f t g u=true):nu e s g u=true:=by
 unfold nu;rw [decide_eq_true_eq];rcases qd h1 with h1 | h1 <;> rcases qd h2 with h2 | h2
 ·left;omega
 ·left;omega
 ·left;omega
 ·right;exact ⟨by omega,AK h1.2 h2.2⟩
theorem DO {e f:Int} {s t:ag} (h:nu e s f t=true):e<f∨e=f∧s≠t:=by
 rcases qd h with h | h
 ·exact .inl h
 ·exact .inr ⟨h.1,fun hs=>by rw [hs,I1] at h;exact absurd h.2 (by decide)⟩
theorem I2 {ae:List ag} {p:Option Lb} {l:Lb} (h:xw ae p l=0):fE ae l.aa=true∧1≤l.el∧l.el≤64∧0≤l.ix∧l.ix≤3∧l.text≠ []∧l.text.length≤64∧ ∀q,p=some q→nu q.el q.aa l.el l.aa=true∧(q.el=l.el→q.ix=l.ix):=by
 unfold xw at h;split at h
 ·cases h
 ·rename_i h1;split at h
  ·cases h
  ·rename_i h2;split at h
   ·cases h
   ·rename_i h3;refine ⟨by simpa using h2,by omega,by omega,by omega,by omega,fun h0=>by rw [h0] at h3;simp at h3,by omega,fun q hq=> ?_⟩;subst hq;simp only at h;split at h
    ·cases h
    ·rename_i h4;split at h
     ·cases h
     ·rename_i h5
      exact ⟨by simpa using h4,fun he=>by
       by_cases hi:q.ix=l.ix
       ·exact hi
       ·exact absurd ⟨he,hi⟩ h5⟩
structure ME (ae:List ag) (l:Lb):Prop where
 aa:fE ae l.aa=true
 PH:1≤l.el
 PI:l.el≤64
 U6:0≤l.ix
 U7:l.ix≤3
 text:l.text≠ []
 len:l.text.length≤64
theorem wV {ae:List ag}: ∀(l:List Lb) (p:Option Lb),ij ae p l=0→
  MD l∧(∀x∈l,ME ae x)∧(∀x∈l,∀q,p=some q→nu q.el q.aa x.el x.aa=true∧(q.el=x.el→q.ix=x.ix))∧ ∀x∈l,∀y∈l,x.el=y.el→x.ix=y.ix
 | [],_,_=>⟨trivial,by simp,by simp,by simp⟩
 | x::r,p,h=>by
  unfold ij at h;split at h
  ·rename_i h0;obtain ⟨a1,a2,a3,a4,a5,a6,a7,a8⟩:=I2 h0;obtain ⟨i1,i2,i3,i4⟩:=wV r _ h;have hx:ME ae x:=⟨a1,a2,a3,a4,a5,a6,a7⟩;refine ⟨⟨fun g hg he hl=> ?_,i1⟩,fun y hy=> ?_,fun y hy q hq=> ?_,fun y hy z hz he=> ?_⟩
   ·rcases DO (i3 g hg x rfl).1 with h | h
    ·omega
    ·exact h.2 hl
   ·rcases List.mem_cons.1 hy with rfl | hy
    ·exact hx
    ·exact i2 y hy
   ·rcases List.mem_cons.1 hy with rfl | hy
    ·exact a8 q hq
    ·have e1:=a8 q hq;have e2:=i3 y hy x rfl;have e3:=uQ e1.1 e2.1;refine ⟨e3,fun he=> ?_⟩
     have:q.el=x.el:=by
      rcases qd e1.1 with h1 | h1
      ·rcases qd e2.1 with h2 | h2 <;> omega
      ·exact h1.1
     rw [e1.2 this,e2.2 (by omega)]
   ·rcases List.mem_cons.1 hy with hyx | hyr
    ·rcases List.mem_cons.1 hz with hzx | hzr
     ·rw [hyx,hzx]
     ·rw [hyx] at he⊢;exact (i3 z hzr x rfl).2 he
    ·rcases List.mem_cons.1 hz with hzx | hzr
     ·rw [hzx] at he⊢;exact ((i3 y hyr x rfl).2 he.symm).symm
     ·exact i4 y hyr z hzr he
  ·rename_i h0;exact absurd h h0
structure E1 (ae:List ag) (l:Fc):Prop where
 aa:fE ae l.aa=true
 PH:1≤l.el
 PI:l.el≤64
 text:l.text≠ []
 len:l.text.length≤4096
theorem I3 {ae:List ag} {p:Option Fc} {l:Fc} (h:yM ae p l=0):E1 ae l∧ ∀q,p=some q→nu q.el q.aa l.el l.aa=true:=by
 unfold yM at h;split at h
 ·cases h
 ·rename_i h1;split at h
  ·cases h
  ·rename_i h2;split at h
   ·cases h
   ·rename_i h3;refine ⟨⟨by simpa using h2,by omega,by omega,fun h0=>by rw [h0] at h3;simp at h3,by omega⟩,fun q hq=> ?_⟩;subst hq;simp only at h;split at h
    ·cases h
    ·rename_i h4;simpa using h4
theorem wW {ae:List ag}: ∀(l:List Fc) (p:Option Fc),ik ae p l=0→
  SB l∧(∀x∈l,E1 ae x)∧ ∀x∈l,∀q,p=some q→nu q.el q.aa x.el x.aa=true
 | [],_,_=>⟨trivial,by simp,by simp⟩
 | x::r,p,h=>by
  unfold ik at h;split at h
  ·rename_i h0;obtain ⟨hx,a8⟩:=I3 h0;obtain ⟨i1,i2,i3⟩:=wW r _ h;refine ⟨⟨fun g hg=>DO (i3 g hg x rfl),i1⟩,fun y hy=> ?_,fun y hy q hq=> ?_⟩
   ·rcases List.mem_cons.1 hy with rfl | hy
    ·exact hx
    ·exact i2 y hy
   ·rcases List.mem_cons.1 hy with rfl | hy
    ·exact a8 q hq
    ·exact uQ (a8 q hq) (i3 y hy x rfl)
  ·rename_i h0;exact absurd h h0
structure QP (ae:List ag) (s:Sh):Prop where
 u1:1≤s.unit
 u2:s.unit≤1073741824
 l1:1≤s.level
 l2:s.level≤4
 mark:s.mark.length≤64
 title:s.title≠ []
 Eb:s.title.length≤64
 MF:s.facts.length≤32
 inc:SB s.facts
 facts: ∀f∈s.facts,E1 ae f
theorem G3 {ae:List ag} {l:List Fc} (h:nA ae l=0):l.length≤32∧SB l∧ ∀x∈l,E1 ae x:=by
 unfold nA at h;split at h
 ·cases h
 ·obtain ⟨h1,h2,_⟩:=wW l none h;exact ⟨by omega,h1,h2⟩
theorem yo {pre:List Sh} {s:Sh} (h:kG pre s=0):1≤s.unit∧s.unit≤1073741824∧1≤s.level∧s.level≤4∧s.mark.length≤64∧s.title≠ []∧s.title.length≤64∧cb pre s.unit=none:=by
 unfold kG at h;split at h
 ·cases h
 ·split at h
  ·cases h
  ·rename_i h1;split at h
   ·cases h
   ·rename_i h2;refine ⟨by omega,by omega,by omega,by omega,by omega,fun h0=>by rw [h0] at h1;simp at h1,by omega,by simpa using h2⟩
theorem wX {ae:List ag} {l:List Sh}: ∀(r:List Sh) (i:Nat),l.drop i=r→qZ ae l i r=0→ ∀(k:Nat) (s:Sh),i≤k→l[k]?=some s→AE ae l k s=0
 | [],i,hd,_,k,s,hk,hs=>by
  have:=(List.getElem?_eq_some_iff.1 hs).1;have h0:=List.drop_eq_nil_iff.1 hd;omega
 | x::r,i,hd,h,k,s,hk,hs=>by
  unfold qZ at h;split at h
  ·rename_i h0;by_cases hki:k=i
   ·subst hki;have:l[k]?=some x:=by rw [←List.head?_drop,hd];rfl
    rw [this] at hs;cases hs;exact h0
   ·exact wX r (i+1) (by rw [←List.tail_drop,hd];rfl) h k s (by omega) hs
  ·rename_i h0;exact absurd h h0
theorem I4 {ae:List ag} {l:List Sh} (h:sY ae l=0):l.length≤256∧Valid l∧(∀s∈l,QP ae s)∧ ∀(k:Nat) (s:Sh),l[k]?=some s→(chain l k).length≤12:=by
 rw [G2] at h;unfold MC at h;split at h
 ·cases h
 ·rename_i hlen;have key:=wX l 0 rfl h
  have one: ∀(k:Nat) (s:Sh),l[k]?=some s→kG (l.take k) s=0∧ ∃n,jN l k s=some n∧n<12∧nA ae s.facts=0:=fun k s hs=>by
   have:=key k s (Nat.zero_le _) hs;unfold AE at this;split at this
   ·rename_i h1;refine ⟨h1,?_⟩;split at this
    ·cases this
    ·rename_i n hn;split at this
     ·cases this
     ·exact ⟨n,hn,by omega,this⟩
   ·rename_i h1;exact absurd this h1
  have hu:kY l:=fun i s hs=>(yo (one i s hs).1).2.2.2.2.2.2.2;refine ⟨by omega,⟨hu,fun i s hs hp=> ?_,fun s hs=> ?_⟩,fun s hs=> ?_,fun k s hs=> ?_⟩
  ·obtain ⟨_,n,hn,_⟩:=one i s hs;unfold jN at hn;rw [if_neg hp] at hn;split at hn
   ·cases hn
   ·rename_i h0;split at hn
    ·rename_i hc;obtain ⟨j,t,h1,h2,h3⟩:=sa (i-1) s.par (by simpa using hc);exact ⟨j,by rw [←h3];exact wU hu h2 (by omega)⟩
    ·cases hn
  ·obtain ⟨i,hi⟩:=List.mem_iff_getElem?.1 hs;exact (yo (one i s hi).1).1
  ·obtain ⟨i,hi⟩:=List.mem_iff_getElem?.1 hs;obtain ⟨h1,n,_,_,h4⟩:=one i s hi;obtain ⟨b1,b2,b3,b4,b5,b6,b7,_⟩:=yo h1;obtain ⟨f1,f2,f3⟩:=G3 h4;exact ⟨b1,b2,b3,b4,b5,b6,b7,f1,f2,f3⟩
  ·obtain ⟨_,n,hn,hn2,_⟩:=one k s hs;rw [eu hs];unfold jN at hn;split
   ·simp
   ·rename_i hp;rw [if_neg hp] at hn;split at hn
    ·cases hn
    ·split at hn
     ·rename_i hc;cases hn;split
      ·rename_i j hj;rw [hj] at hn2;have hn3:(chain l j).length<12:=hn2;simp only [List.length_cons];omega
      ·simp
     ·cases hn
structure FU (c:Ct):Prop where
 l1:1≤c.ae.length
 l2:c.ae.length≤8
 diff:Diff c.ae
 two: ∀s∈c.ae,D7 s=true
 UD:c.aA.length≤256
 UE:MD c.aA
 aA: ∀x∈c.aA,ME c.ae x
 kinds: ∀x∈c.aA,∀y∈c.aA,x.el=y.el→x.ix=y.ix
 H3:c.ay.length≤256
 valid:Valid c.ay
 ay: ∀s∈c.ay,QP c.ae s
 deep: ∀(k:Nat) (s:Sh),c.ay[k]?=some s→(chain c.ay k).length≤12
theorem fY {c:Ct} (h:gf c=0):FU c:=by
 unfold gf at h;split at h
 ·rename_i h1;split at h
  ·rename_i h2;unfold nT at h1;split at h1
   ·cases h1
   ·unfold sX at h2;split at h2
    ·cases h2
    ·obtain ⟨d1,d2,_⟩:=uP _ _ h1;obtain ⟨b1,b2,_,b4⟩:=wV _ _ h2;obtain ⟨s1,s2,s3,s4⟩:=I4 h;exact ⟨by omega,by omega,d1,d2,by omega,b1,b2,b4,s1,s2,s3,s4⟩
  ·rename_i h2;exact absurd h h2
 ·rename_i h1;exact absurd h h1
end Go.Proofs.YtfnkchadeaedlaaGreatDoor
namespace Go.Proofs.YtfnkchadeaedlaaGreatDoor
def oX (acc:Nat):ag→Option Nat
 | []=>some acc
 | c::r=>if 48≤c.toNat∧c.toNat≤57 then (if 1099511627775<acc*10+(c.toNat-48) then none else oX (acc*10+(c.toNat-48)) r) else none
def sI (s:ag):Option Nat:=if s= [] then none else oX 0 s
def nV (s:ag):Int×Int:=
 if Lib.indexByte s 93<2∨11<Lib.indexByte s 93∨s.getD 1 0=48 then (0,0) else
 match sI ((s.take (Lib.indexByte s 93).toNat).drop 1) with
 | some n=>if 1073741824<n then (0,0) else ((n:Int),Lib.indexByte s 93+1)
 | none=>(0,0)
def qe:ag→Nat→Nat→Option (Nat×Nat)
 | [],_,_=>none
 | c::r,n,k=>if 48≤c.toNat∧c.toNat≤57 then (if 1073741824<10*n+(c.toNat-48) then none else qe r (10*n+(c.toNat-48)) (k+1)) else if c=93 then some (n,k+1) else none
def an (s:ag):Int×Int:=
 if s.length<3∨s.getD 0 0≠91∨ ¬ (49≤(s.getD 1 0).toNat∧(s.getD 1 0).toNat≤57) then (0,0) else
 match qe (s.drop 1) 0 1 with
 | some (n,k)=>((n:Int),(k:Int))
 | none=>(0,0)
theorem yp: ∀(u:ag) (n m:Nat),oX n u=some m→n*10^u.length≤m
 | [],n,m,h=>by cases h;simp
 | c::r,n,m,h=>by
  unfold oX at h;split at h
  ·split at h
   ·cases h
   ·have:=yp r _ m h;rw [List.length_cons,Nat.pow_succ];have h2:n*(10^r.length*10)=(n*10)*10^r.length:=by rw [Nat.mul_comm (10^r.length) 10,Nat.mul_assoc]
    rw [h2];exact Nat.le_trans (Nat.mul_le_mul_right _ (by omega)) this
  ·cases h
theorem I5 (u:ag) (n m:Nat) (h:oX n u=some m):n≤m:=by have:=yp u n m h;exact Nat.le_trans (Nat.le_mul_of_pos_right n (Nat.pow_pos (by decide))) this
theorem wY: ∀(t:ag) (n k:Nat),(93:UInt8)∉t→qe t n k=none
 | [],_,_,_=>rfl
 | c::r,n,k,h=>by
  simp only [List.mem_cons,not_or] at h;unfold qe;split
  ·split
   ·rfl
   ·exact wY r _ _ h.2
  ·rw [if_neg (fun hc=>h.1 hc.symm)]
theorem DP: ∀(u v:ag) (n k:Nat),(93:UInt8)∉u→n≤1073741824→qe (u++93::v) n k=match oX n u with
  | some m=>if 1073741824<m then none else some (m,k+u.length+1)
  | none=>none
 | [],v,n,k,_,hn=>by
  simp only [List.nil_append,oX];unfold qe;rw [if_neg (by decide),if_pos rfl,if_neg (by omega)];rfl
 | c::r,v,n,k,h,hn=>by
  simp only [List.mem_cons,not_or] at h;rw [List.cons_append];unfold qe oX;by_cases hd:48≤c.toNat∧c.toNat≤57
  ·rw [if_pos hd,if_pos hd,Nat.mul_comm 10 n];by_cases hb:1073741824<n*10+(c.toNat-48)
   ·rw [if_pos hb];split
    ·rename_i m hm;split at hm
     ·cases hm
     ·have:=I5 _ _ _ hm;rw [if_pos (by omega)]
    ·rfl
   ·rw [if_neg hb,if_neg (show¬ 1099511627775<n*10+(c.toNat-48) by omega),DP r v _ (k+1) h.2 (by omega)];simp only [List.length_cons];split
    ·split
     ·rfl
     ·congr 2;omega
    ·rfl
  ·rw [if_neg hd,if_neg hd,if_neg (fun hc=>h.1 hc.symm)]
theorem AN: ∀(t:ag),(93:UInt8)∉t→Lib.indexByte t 93= -1
 | [],_=>rfl
 | c::r,h=>by
  simp only [List.mem_cons,not_or] at h;have hc:(c==93)=false:=by simpa using fun h'=>h.1 h'.symm
  rw [Lib.indexByte,hc,AN r h.2];rfl
theorem AO: ∀(u v:ag),(93:UInt8)∉u→Lib.indexByte (u++93::v) 93=(u.length:Int)
 | [],v,_=>by simp [Lib.indexByte]
 | c::r,v,h=>by
  simp only [List.mem_cons,not_or] at h;have hc:(c==93)=false:=by simpa using fun h'=>h.1 h'.symm
  rw [List.cons_append,Lib.indexByte,hc,AO r v h.2];have:((r.length:Int)== -1)=false:=by simp
  rw [this];simp
theorem AQ: ∀(t:ag),(93:UInt8)∈t→ ∃u v,t=u++93::v∧(93:UInt8)∉u
 | c::r,h=>by
  by_cases hc:c=93
  ·exact ⟨[],r,by rw [hc];rfl,by simp⟩
  ·rcases List.mem_cons.1 h with h | h
   ·exact absurd h.symm hc
   ·obtain ⟨u,v,h1,h2⟩:=AQ r h;exact ⟨c::u,v,by rw [h1];rfl,by simp only [List.mem_cons,not_or];exact ⟨fun h=>hc h.symm,h2⟩⟩
theorem nW (t:ag):nV (91::t)=an (91::t):=by
 by_cases h:(93:UInt8)∈t
 ·obtain ⟨u,v,rfl,hu⟩:=AQ t h
  have hi:Lib.indexByte (91::(u++93::v)) 93=((u.length+1:Nat):Int):=by have:=AO (91::u) v (by simp only [List.mem_cons,not_or];exact ⟨by decide,hu⟩);rw [List.cons_append] at this;rw [this];rfl
  unfold nV an;rw [hi];cases u with
  | nil=>simp
  | cons c r=>
   have g1:(91::(c::r++93::v)).getD 1 0=c:=rfl;have g0:(91::(c::r++93::v)).getD 0 0=91:=rfl;rw [g1,g0]
   have htake:((91::(c::r++93::v)).take (((c::r).length+1:Nat):Int).toNat).drop 1=c::r:=by rw [Int.toNat_natCast,List.take_succ_cons,List.drop_succ_cons,List.drop_zero,List.take_left]
   rw [htake];have hgo:=DP (c::r) v 0 1 hu (by decide);have hdrop:(91::(c::r++93::v)).drop 1=c::r++93::v:=rfl;rw [hdrop,hgo];have hlen: ¬ (91::(c::r++93::v)).length<3:=by simp;omega
   unfold sI;rw [if_neg (show¬ c::r= [] by simp)];by_cases hd:49≤c.toNat∧c.toNat≤57
   ·have hc48:c≠48:=fun h=>by subst h;exact absurd hd.1 (by decide)
    rw [if_neg (show¬ ((91::(c::r++93::v)).length<3∨(91:UInt8)≠91∨ ¬ (49≤c.toNat∧c.toNat≤57)) by
     simp only [not_or,Classical.not_not];exact ⟨hlen,trivial,hd⟩)]
    by_cases hl:r.length≤9
    ·rw [if_neg (show¬ ((((c::r).length+1:Nat):Int)<2∨11<(((c::r).length+1:Nat):Int)∨c=48) by
      simp only [List.length_cons,not_or];exact ⟨by omega,by omega,hc48⟩)]
     cases hn:oX 0 (c::r) with
     | none=>rfl
     | some m=>
      simp only;by_cases hm:1073741824<m
      ·rw [if_pos hm,if_pos hm]
      ·rw [if_neg hm,if_neg hm];simp only [List.length_cons];congr 1;omega
    ·rw [if_pos (show ((((c::r).length+1:Nat):Int)<2∨11<(((c::r).length+1:Nat):Int)∨c=48) by
      simp only [List.length_cons];right;left;omega)]
     cases hn:oX 0 (c::r) with
     | none=>rfl
     | some m=>
      have h1:=hn;unfold oX at h1;rw [if_pos (by omega),if_neg (by omega)] at h1;have h2:=yp _ _ _ h1;have h3:(10:Nat)^10≤10^r.length:=Nat.pow_le_pow_right (by decide) (by omega);have h4:1*10^r.length≤(0*10+(c.toNat-48))*10^r.length:=Nat.mul_le_mul_right _ (by omega);have h5:(10:Nat)^10=10000000000:=by decide
      simp only;rw [if_pos (show 1073741824<m by omega)]
   ·rw [if_pos (show ((91::(c::r++93::v)).length<3∨(91:UInt8)≠91∨ ¬ (49≤c.toNat∧c.toNat≤57)) from Or.inr (Or.inr hd))];by_cases hb:(((c::r).length+1:Nat):Int)<2∨11<(((c::r).length+1:Nat):Int)∨c=48
    ·rw [if_pos hb]
    ·rw [if_neg hb]
     have hc: ¬ (48≤c.toNat∧c.toNat≤57):=fun h=>by
      have:c=48:=UInt8.toNat_inj.1 (by show c.toNat=48;have h6:=h.1;have h7:=h.2;omega);exact hb (.inr (.inr this))
     rw [oX,if_neg hc]
 ·have hi:Lib.indexByte (91::t) 93= -1:=AN _ (by simp only [List.mem_cons,not_or];exact ⟨by decide,h⟩);unfold nV an;rw [hi,if_pos (.inl (by decide))];split
  ·rfl
  ·have:=wY t 0 1 h;rw [List.drop_succ_cons,List.drop_zero,this]
def xz (s:ag):Int×Int:=if s.getD 0 0≠91 then (0,0) else nV s
theorem sc: ∀{s:ag},s≠ []→xz s=an s
 | c::t,_=>by
  unfold xz;by_cases h:c=91
  ·subst h;rw [if_neg (by simp),nW]
  ·have h0:(c::t).getD 0 0≠91:=h;rw [if_pos h0];unfold an;rw [if_pos (.inr (.inl h0))]
theorem AR: ∀(t:ag) (n k a b:Nat),qe t n k=some (a,b)→n≤a∧k<b∧b≤k+t.length∧a≤1073741824∨(n≤a∧k<b∧b≤k+t.length∧a=n)
 | [],_,_,_,_,h=>by cases h
 | c::r,n,k,a,b,h=>by
  unfold qe at h;split at h
  ·split at h
   ·cases h
   ·rename_i hb;rcases AR r _ _ a b h with h | h
    ·left;simp only [List.length_cons];omega
    ·left;simp only [List.length_cons];omega
  ·split at h
   ·cases h;right;exact ⟨Nat.le_refl _,Nat.lt_succ_self _,by simp only [List.length_cons];omega,rfl⟩
   ·cases h
theorem dh (s:ag):an s=(0,0)∨(1≤(an s).1∧(an s).1≤1073741824∧2≤(an s).2∧(an s).2≤s.length∧s.getD 0 0=91):=by
 unfold an;split
 ·exact .inl rfl
 ·rename_i h;simp only [not_or,Classical.not_not] at h;split
  ·rename_i n k hg;right;obtain ⟨h1,h2,h3⟩:=h
   match s,h1,h2,h3,hg with
   | a::c::r,h1,h2,h3,hg=>
    have g1:(a::c::r).getD 1 0=c:=rfl;rw [g1] at h3;have g2:(a::c::r).drop 1=c::r:=rfl;rw [g2] at hg;unfold qe at hg;rw [if_pos (show 48≤c.toNat∧c.toNat≤57 by omega)] at hg;split at hg
    ·cases hg
    ·have:=AR _ _ _ _ _ hg;simp only [List.length_cons];refine ⟨by omega,by omega,by omega,by omega,h2⟩
   | [a],h1,_,_,_=>exact absurd (by simp) h1
   | [],h1,_,_,_=>exact absurd (by simp) h1
  ·exact .inl rfl
end Go.Proofs.YtfnkchadeaedlaaGreatDoor
namespace Go.Proofs.YtfnkchadeaedlaaGreatDoor
def gg (l:List Sh) (u:Int):ag:=
 match cb l u with
 | none=> [63]
 | some i=>match l[i]? with
  | some s=>if s.mark= [] then s.title else s.mark++ [32]++s.title
  | none=> []
def bL (cite:Int→ag) (s:ag):ag:=
 match s with
 | []=> []
 | c::r=>if h:(an (c::r)).2=0 then c::bL cite r else cite (an (c::r)).1++bL cite ((c::r).drop (an (c::r)).2.toNat)
termination_by s.length
decreasing_by
 ·simp
 ·rcases dh (c::r) with h' | h'
  ·exact absurd (by rw [h']) h
  ·simp only [List.length_drop,List.length_cons] at*;omega
theorem lL (cite:Int→ag):bL cite []= []:=by rw [bL]
theorem oY (cite:Int→ag) (c:UInt8) (r:ag) (h:(an (c::r)).2=0):bL cite (c::r)=c::bL cite r:=by rw [bL,dif_pos h]
theorem nC (cite:Int→ag) (s:ag) (h:(an s).2≠0):bL cite s=cite (an s).1++bL cite (s.drop (an s).2.toNat):=by
 cases s with
 | nil=>exact absurd rfl h
 | cons c r=>rw [bL,dif_neg h]
structure Nd where
 depth:Int
 tag:ag
 text:ag
structure qn where
 unit:Int
 num:ag
 nodes:List Nd
instance:DecidableEq Nd:=fun a b=>decidable_of_iff (a.depth=b.depth∧a.tag=b.tag∧a.text=b.text) (by cases a;cases b;simp)
instance:DecidableEq qn:=fun a b=>decidable_of_iff (a.unit=b.unit∧a.num=b.num∧a.nodes=b.nodes) (by cases a;cases b;simp)
def fk (level:Int):ag:=if level=1 then [102,111,110,100,115] else if level=2 then [115,101,114,105,101,115] else if level=3 then [102,105,108,101] else [105,116,101,109]
def aN (s:ag):Nat:=s.count 46
def vW (d:Int) (s:Sh):List Nd:=if s.mark= [] then [] else [⟨d, [109,97,114,107],s.mark⟩]
def gK (it:Int→ag) (el:Int):ag:= [101,108,101,109,101,110,116,32]++it el
def yX (it:Int→ag) (order:List ag) (c:Ct) (d:Int) (f:Fc):Nd:=⟨d, [112],iq order c.aA f.el (gK it f.el)++ [58,32]++bL (gg c.ay) f.text⟩
def eK (it:Int→ag) (order:List ag) (c:Ct) (x:Sh×ag):qn:=
 ⟨x.1.unit,x.2,⟨aN x.2,fk x.1.level,x.2++ [32]++x.1.title⟩::(vW (aN x.2+1) x.1++(aD order x.1.facts).map (yX it order c (aN x.2+1)))⟩
def fp (it:Int→ag) (c:Ct) (root:Int) (aa:ag):List qn:=(ec it root ⟨[], []⟩ c.ay).map (eK it (ar c.ae aa) c)
def qx (u:Int):ag→List (Sh×ag)→ag
 | f, []=>f
 | f,x::r=>if x.1.unit=u then qx u x.2 r else qx u f r
def fo (it:Int→ag) (c:Ct) (root u:Int):ag:=qx u [] (ec it root ⟨[], []⟩ c.ay)
end Go.Proofs.YtfnkchadeaedlaaGreatDoor
namespace Go.Proofs.YtfnkchadeaedlaaGreatDoor
def de:ag→Option (ag×ag)
 | []=>none
 | c::r=>if c=32 then some ([],r) else (de r).map fun p=>(c::p.1,p.2)
theorem qf: ∀(a b:ag),(32:UInt8)∉a→de (a++32::b)=some (a,b)
 | [],b,_=>by simp [de]
 | c::r,b,h=>by
  simp only [List.mem_cons,not_or] at h;rw [List.cons_append,de,if_neg (fun hc=>h.1 hc.symm),qf r b h.2];rfl
theorem dU: ∀{s a b:ag},de s=some (a,b)→s=a++32::b∧(32:UInt8)∉a
 | c::r,a,b,h=>by
  unfold de at h;split at h
  ·rename_i hc;cases h;exact ⟨by rw [hc];rfl,by simp⟩
  ·rename_i hc;cases hr:de r with
   | none=>rw [hr] at h;cases h
   | some p=>rw [hr] at h;simp only [Option.map_some,Option.some.injEq,Prod.mk.injEq] at h;obtain ⟨rfl,rfl⟩:=h;obtain ⟨h1,h2⟩:=dU (a:=p.1) (b:=p.2) hr;exact ⟨by rw [h1];rfl,by simp only [List.mem_cons,not_or];exact ⟨fun h=>hc h.symm,h2⟩⟩
def sv (acc:Nat):ag→Option Nat
 | []=>some acc
 | c::r=>if 48≤c.toNat∧c.toNat≤57 then (if 65535<acc*10+(c.toNat-48) then none else sv (acc*10+(c.toNat-48)) r) else none
def jc (s:ag):Option Nat:=if s= [] then none else sv 0 s
def fb (al:ag→Option ag) (line:ag):Option (Nat×ag):=
 match de line with
 | some (num,rest)=>match jc num,al rest with
  | some n,some t=>if t= []∨num.getD 0 0=48∨64<n then none else some (n,t)
  | _,_=>none
 | none=>none
def iP (al:ag→Option ag) (line w:ag):Option ag:=if (w++ [32]).isPrefixOf line=true then al (line.drop (w.length+1)) else none
def kr (n:Nat):ag:=if n<10 then [UInt8.ofNat (48+n)] else [UInt8.ofNat (48+n / 10),UInt8.ofNat (48+n%10)]
def lF (al:ag→Option ag) (line:ag):Nat→Nat→Option (Nat×ag)
 | 0,_=>none
 | k+1,e=>match iP al line (kr e) with
  | some t=>if t= [] then lF al line k (e+1) else some (e,t)
  | none=>lF al line k (e+1)
theorem oO {al:ag→Option ag} {line w t:ag} (h:iP al line w=some t): ∃r,line=w++32::r∧al r=some t:=by
 unfold iP at h;split at h
 ·rename_i hp;obtain ⟨r,hr⟩:=List.isPrefixOf_iff_prefix.1 hp;refine ⟨r,by rw [←hr];simp,?_⟩;rw [←hr] at h
  have:(w++ [32]++r).drop (w.length+1)=r:=by rw [show w.length+1=(w++ [32]).length by simp,List.drop_left]
  rwa [this] at h
 ·cases h
theorem wZ (al:ag→Option ag) (w r:ag):iP al (w++32::r) w=al r:=by
 unfold iP;rw [if_pos (List.isPrefixOf_iff_prefix.2 ⟨r,by simp⟩)]
 have:(w++32::r).drop (w.length+1)=r:=by rw [show w++32::r=(w++ [32])++r by simp,show w.length+1=(w++ [32]).length by simp,List.drop_left]
 rw [this]
theorem CK:((List.range 65).all fun n=>n==0 || (jc (kr n)==some n&&(!(kr n).contains 32&& !((kr n).getD 0 0==48))))=true:=by decide+kernel
theorem I6 {n:Nat} (h1:1≤n) (h2:n≤64):jc (kr n)=some n∧(32:UInt8)∉kr n∧(kr n).getD 0 0≠48:=by
 have:=List.all_eq_true.1 CK n (List.mem_range.2 (by omega));have h0:(n==0)=false:=by simp;omega
 simp only [h0,Bool.false_or,Bool.and_eq_true,beq_iff_eq,Bool.not_eq_true',List.contains_eq_mem,decide_eq_false_iff_not] at this;exact ⟨this.1,this.2.1,by simpa using this.2.2⟩
theorem DQ: ∀(u:ag) (n m:Nat),sv n u=some m→n*10^u.length≤m
 | [],n,m,h=>by cases h;simp
 | c::r,n,m,h=>by
  unfold sv at h;split at h
  ·split at h
   ·cases h
   ·have:=DQ r _ m h;rw [List.length_cons,Nat.pow_succ];have h2:n*(10^r.length*10)=(n*10)*10^r.length:=by rw [Nat.mul_comm (10^r.length) 10,Nat.mul_assoc]
    rw [h2];exact Nat.le_trans (Nat.mul_le_mul_right _ (by omega)) this
  ·cases h
theorem DR {s:ag} {n:Nat} (h:jc s=some n) (h0:s.getD 0 0≠48) (hn:n≤64):s=kr n∧1≤n:=by
 unfold jc at h;split at h
 ·cases h
 ·rename_i hne
  match s,hne,h,h0 with
  | [c],_,h,h0=>
   unfold sv at h;split at h
   ·rename_i hc;split at h
    ·cases h
    ·simp only [sv,Option.some.injEq] at h;have h0':c.toNat≠48:=fun hh=>h0 (UInt8.toNat_inj.1 (by show c.toNat=48;exact hh));refine ⟨?_,by omega⟩;unfold kr;rw [if_pos (by omega)];congr 1;apply UInt8.toNat_inj.1;rw [UInt8.toNat_ofNat'];omega
   ·cases h
  | [c,d],_,h,h0=>
   unfold sv at h;split at h
   ·rename_i hc;split at h
    ·cases h
    ·unfold sv at h;split at h
     ·rename_i hd;split at h
      ·cases h
      ·simp only [sv,Option.some.injEq] at h;have h0':c.toNat≠48:=fun hh=>h0 (UInt8.toNat_inj.1 (by show c.toNat=48;exact hh));refine ⟨?_,by omega⟩;unfold kr;rw [if_neg (by omega)]
       have e1:c=UInt8.ofNat (48+n / 10):=by apply UInt8.toNat_inj.1;rw [UInt8.toNat_ofNat'];omega
       have e2:d=UInt8.ofNat (48+n%10):=by apply UInt8.toNat_inj.1;rw [UInt8.toNat_ofNat'];omega
       rw [←e1,←e2]
     ·cases h
   ·cases h
  | c::d::e::r,_,h,h0=>
   exfalso;unfold sv at h;split at h
   ·rename_i hc;split at h
    ·cases h
    ·have hg:=DQ _ _ _ h;have h0':c.toNat≠48:=fun hh=>h0 (UInt8.toNat_inj.1 (by show c.toNat=48;exact hh));have hp:(10:Nat)^2≤10^(d::e::r).length:=Nat.pow_le_pow_right (by decide) (by simp);have hm:1*10^(d::e::r).length≤(0*10+(c.toNat-48))*10^(d::e::r).length:=Nat.mul_le_mul_right _ (by omega);omega
   ·cases h
theorem xa {al:ag→Option ag} {line:ag}: ∀(k e:Nat),1≤e→e+k=65→
  lF al line k e=match fb al line with | some (n,t)=>if e≤n then some (n,t) else none | none=>none
 | 0,e,h1,h2=>by
  unfold lF;split
  ·rename_i n t hf;unfold fb at hf;split at hf
   ·split at hf
    ·split at hf
     ·cases hf
     ·rename_i hh;cases hf;rw [if_neg (by omega)]
    ·cases hf
   ·cases hf
  ·rfl
 | k+1,e,h1,h2=>by
  unfold lF;rw [xa k (e+1) (by omega) (by omega)];obtain ⟨d1,d2,d3⟩:=I6 h1 (by omega:e≤64);cases hw:iP al line (kr e) with
  | some t=>
   obtain ⟨r,hl,hu⟩:=oO hw;have hc:de line=some (kr e,r):=by rw [hl];exact qf _ _ d2
   have hf:fb al line=if t= [] then none else some (e,t):=by
    unfold fb;rw [hc];simp only [d1,hu];by_cases ht:t= []
    ·rw [if_pos (.inl ht),if_pos ht]
    ·rw [if_neg (by simp only [not_or];exact ⟨ht,d3,by omega⟩),if_neg ht]
   rw [hf];by_cases ht:t= []
   ·simp [ht]
   ·simp [ht]
  | none=>
   simp only;split
   ·rename_i n t hf
    have hne:n≠e:=fun he=>by
     subst he;unfold fb at hf;split at hf
     ·rename_i num rest hc;split at hf
      ·rename_i n' t' hn hu;split at hf
       ·cases hf
       ·rename_i hh;simp only [not_or] at hh;cases hf;obtain ⟨hl,_⟩:=dU hc;have:=(DR hn hh.2.1 (by omega)).1;rw [hl,this,wZ,hu] at hw;cases hw
      ·cases hf
     ·cases hf
    by_cases hle:e≤n
    ·rw [if_pos hle,if_pos (by omega)]
    ·rw [if_neg hle,if_neg (by omega)]
   ·rfl
end Go.Proofs.YtfnkchadeaedlaaGreatDoor
namespace Go.Proofs.YtfnkchadeaedlaaGreatDoor
set_option maxRecDepth 10000
set_option maxHeartbeats 4000000
def splitB (c:UInt8):List UInt8→List (List UInt8)
 | []=> [[]]
 | x::s=>if x=c then []::splitB c s else match splitB c s with
  | p::r=>(x::p)::r
  | []=> [[x]]
theorem ic (c:UInt8): ∀s,splitB c s≠ []
 | []=>by simp [splitB]
 | x::s=>by
  simp only [splitB];split
  ·simp
  ·split <;> simp
theorem xb {c:UInt8}: ∀{s:List UInt8},c∉s→splitB c s= [s]
 | [],_=>rfl
 | x::s,h=>by
  simp only [List.mem_cons,not_or] at h;simp only [splitB,if_neg (Ne.symm h.1),xb h.2]
theorem uR {c:UInt8}: ∀{a:List UInt8} (s:List UInt8),c∉a→splitB c (a++c::s)=a::splitB c s
 | [],s,_=>by simp [splitB]
 | x::a,s,h=>by
  simp only [List.mem_cons,not_or] at h;simp only [List.cons_append,splitB,if_neg (Ne.symm h.1),uR s h.2]
theorem gb {c:UInt8}: ∀(s p:List UInt8),p∈splitB c s→c∉p∧p.length≤s.length
 | [],p,h=>by simp [splitB] at h;subst h;simp
 | x::s,p,h=>by
  simp only [splitB] at h;split at h
  ·rcases List.mem_cons.1 h with h | h
   ·subst h;simp
   ·have:=gb s p h;exact ⟨this.1,by simp;omega⟩
  ·rename_i hx;have ih:=gb (c:=c) s;have hne:=ic c s;generalize splitB c s=l at*
   cases l with
   | nil=>exact absurd rfl hne
   | cons q r=>
    simp only at h;rcases List.mem_cons.1 h with h | h
    ·subst h;have:=ih q List.mem_cons_self;simp only [List.mem_cons,not_or,List.length_cons];exact ⟨⟨Ne.symm hx,this.1⟩,by omega⟩
    ·have:=ih p (List.mem_cons_of_mem _ h);exact ⟨this.1,by simp;omega⟩
theorem gS (c:UInt8): ∀s:List UInt8,(splitB c s).length=s.count c+1
 | []=>by simp [splitB]
 | x::s=>by
  have:=gS c s;simp only [splitB];split
  ·rename_i h;subst h;simp [this]
  ·rename_i h;rw [List.count_cons_of_ne h];split
   ·rename_i h;rw [h] at this;simp at this⊢;omega
   ·rename_i h;exact absurd h (ic c s)
end Go.Proofs.YtfnkchadeaedlaaGreatDoor
namespace Go.Proofs.YtfnkchadeaedlaaGreatDoor
def bC (cur:ag):ag→List ag×Bool
 | []=>([],decide (cur= []))
 | x::s=>if x=10 then (cur::(bC [] s).1,(bC [] s).2) else bC (cur++ [x]) s
def lq (cur:ag):List ag→List ag
 | []=> []
 | p::r=>(cur++p)::r
theorem gd: ∀(s cur:ag),bC cur s=((lq cur (splitB 10 s)).dropLast,decide ((lq cur (splitB 10 s)).getLast?=some []))
 | [],cur=>by simp [bC,splitB,lq]
 | x::s,cur=>by
  unfold bC splitB;by_cases hx:x=10
  ·rw [if_pos hx,if_pos hx,gd s []];cases hs:splitB 10 s with
   | nil=>exact absurd hs (ic 10 s)
   | cons p r=>simp only [lq,List.nil_append,List.append_nil,List.dropLast_cons_cons,List.getLast?_cons_cons];congr
  ·rw [if_neg hx,if_neg hx,gd s (cur++ [x])];cases hs:splitB 10 s with
   | nil=>exact absurd hs (ic 10 s)
   | cons p r=>simp [lq];congr
theorem uS: ∀(u:ag),splitB 10 (u++ [10])=splitB 10 u++ [[]]
 | []=>by simp [splitB]
 | x::s=>by
  rw [List.cons_append];unfold splitB;rw [uS s];split
  ·rfl
  ·cases hs:splitB 10 s with
   | nil=>exact absurd hs (ic 10 s)
   | cons p r=>rfl
theorem mA: ∀(v:ag),v≠ []→(splitB 10 v).getLast?=some []→ ∃u,v=u++ [10]
 | [x],_,h=>by
  unfold splitB at h;split at h
  ·rename_i hx;exact ⟨[],by rw [hx];rfl⟩
  ·simp [splitB] at h
 | x::y::s,_,h=>by
  unfold splitB at h;cases hs:splitB 10 (y::s) with
  | nil=>exact absurd hs (ic 10 _)
  | cons p r=>
   rw [hs] at h;split at h
   ·have h':(splitB 10 (y::s)).getLast?=some []:=by rw [hs];simpa using h
    obtain ⟨u,hu⟩:=mA (y::s) (by simp) h';exact ⟨x::u,by rw [hu];rfl⟩
   ·cases r with
    | nil=>simp at h
    | cons q r=>
     have h':(splitB 10 (y::s)).getLast?=some []:=by rw [hs];simpa using h
     obtain ⟨u,hu⟩:=mA (y::s) (by simp) h';exact ⟨x::u,by rw [hu];rfl⟩
def uT (v:ag):Option (List ag):=if v.getLast?=some 10 then some (splitB 10 v.dropLast) else none
def uU (v:ag):Option (List ag):=if (bC [] v).2=true then some (bC [] v).1 else none
theorem CL {v:ag} (h:v≠ []):uT v=uU v:=by
 unfold uT uU
 have hh:lq [] (splitB 10 v)=splitB 10 v:=by
  cases hs:splitB 10 v with
  | nil=>rfl
  | cons p r=>rfl
 rw [gd,hh];simp only [decide_eq_true_eq];by_cases hl:v.getLast?=some 10
 ·obtain ⟨u,hu⟩: ∃u,v=u++ [10]:=⟨v.dropLast,by
   have hne:v≠ []:=h;have h1:=List.dropLast_concat_getLast hne;rw [List.getLast?_eq_some_getLast hne] at hl;have h2:v.getLast hne=10:=Option.some.inj hl;rw [h2] at h1;exact h1.symm⟩
  rw [if_pos hl];subst hu;rw [uS];simp
 ·rw [if_neg hl,if_neg];intro hc;obtain ⟨u,hu⟩:=mA v h hc;apply hl;rw [hu];simp
def cG (n:Nat):ag:=if n=1 then [102,111,110,100,115] else if n=2 then [115,101,114,105,101,115] else if n=3 then [102,105,108,101] else [105,116,101,109]
def iQ (w:ag):Nat:=if w=cG 1 then 1 else if w=cG 2 then 2 else if w=cG 3 then 3 else if w=cG 4 then 4 else 0
def qg (al:ag→Option ag) (l:ag):Option (Nat×ag):=
 match de l with
 | some (w,r)=>match al r with
  | some t=>if iQ w=0∨t= [] then none else some (iQ w,t)
  | none=>none
 | none=>none
def oP (al:ag→Option ag) (l:ag) (n:Nat) (o:Option (Nat×ag)):Option (Nat×ag):=
 match iP al l (cG n) with
 | some t=>if t= [] then o else some (n,t)
 | none=>o
def uV (al:ag→Option ag) (l:ag):Option (Nat×ag):=oP al l 4 (oP al l 3 (oP al l 2 (oP al l 1 none)))
theorem CM:(32:UInt8)∉cG 1∧(32:UInt8)∉cG 2∧(32:UInt8)∉cG 3∧(32:UInt8)∉cG 4:=by decide
theorem ku {al:ag→Option ag} {l w a b:ag} (hw:(32:UInt8)∉w) (hc:de l=some (a,b)):iP al l w=if a=w then al b else none:=by
 obtain ⟨h1,h2⟩:=dU hc;by_cases h:a=w
 ·rw [if_pos h,h1,h,wZ]
 ·rw [if_neg h];cases hr:iP al l w with
  | none=>rfl
  | some t=>obtain ⟨r,hl,_⟩:=oO hr;rw [hl,qf w r hw] at hc;cases hc;exact absurd rfl h
theorem iR {al:ag→Option ag} {l w:ag} (hw:(32:UInt8)∉w) (hc:de l=none):iP al l w=none:=by
 cases hr:iP al l w with
 | none=>rfl
 | some t=>obtain ⟨r,hl,_⟩:=oO hr;rw [hl,qf w r hw] at hc;cases hc
theorem xc (al:ag→Option ag) (l:ag):qg al l=uV al l:=by
 obtain ⟨t1,t2,t3,t4⟩:=CM;unfold qg uV oP;cases hc:de l with
 | none=>rw [iR t1 hc,iR t2 hc,iR t3 hc,iR t4 hc]
 | some p=>
  obtain ⟨a,b⟩:=p;rw [ku t1 hc,ku t2 hc,ku t3 hc,ku t4 hc];simp only;cases hu:al b with
  | none=>simp
  | some t=>
   unfold iQ;by_cases h1:a=cG 1
   ·subst h1;by_cases ht:t= [] <;> simp [ht,show¬ cG 1=cG 2 by decide,show¬ cG 1=cG 3 by decide,show¬ cG 1=cG 4 by decide]
   ·by_cases h2:a=cG 2
    ·subst h2;by_cases ht:t= [] <;> simp [ht,show¬ cG 2=cG 1 by decide,show¬ cG 2=cG 3 by decide,show¬ cG 2=cG 4 by decide]
    ·by_cases h3:a=cG 3
     ·subst h3;by_cases ht:t= [] <;> simp [ht,show¬ cG 3=cG 1 by decide,show¬ cG 3=cG 2 by decide,show¬ cG 3=cG 4 by decide]
     ·by_cases h4:a=cG 4
      ·subst h4;by_cases ht:t= [] <;> simp [ht,show¬ cG 4=cG 1 by decide,show¬ cG 4=cG 2 by decide,show¬ cG 4=cG 3 by decide]
      ·simp [h1,h2,h3,h4]
def kv:ag:= [109,97,114,107]
def sd (al:ag→Option ag) (l:ag):Option ag:=
 match de l with
 | some (w,r)=>if w=kv then al r else none
 | none=>none
theorem E2 (al:ag→Option ag) (l:ag):sd al l=iP al l kv:=by
 have h:(32:UInt8)∉kv:=by decide
 unfold sd;cases hc:de l with
 | none=>rw [iR h hc]
 | some p=>obtain ⟨a,b⟩:=p;rw [ku h hc]
def iS (al:ag→Option ag):Nat→List ag→Option (List (Nat×ag))
 | _, []=>some []
 | last,l::r=>match fb al l with
  | some (n,t)=>if n≤last then none else (iS al n r).map ((n,t):: ·)
  | none=>none
def jO (al:ag→Option ag):Nat→List ag→Option (List (Nat×ag))
 | _, []=>some []
 | last,l::r=>match lF al l (64-last) (last+1) with
  | some (n,t)=>(jO al n r).map ((n,t):: ·)
  | none=>none
theorem G4 {al:ag→Option ag} {l:ag} {n:Nat} {t:ag} (h:fb al l=some (n,t)):n≤64:=by
 unfold fb at h;split at h
 ·split at h
  ·split at h
   ·cases h
   ·rename_i hh;cases h;omega
  ·cases h
 ·cases h
theorem uW (al:ag→Option ag): ∀(l:List ag) (last:Nat),last≤64→iS al last l=jO al last l
 | [],_,_=>rfl
 | x::r,last,h=>by
  unfold iS jO;rw [xa (64-last) (last+1) (by omega) (by omega)];cases hf:fb al x with
  | none=>rfl
  | some p=>
   obtain ⟨n,t⟩:=p;simp only;by_cases hn:n≤last
   ·rw [if_pos hn,if_neg (by omega)]
   ·rw [if_neg hn,if_pos (by omega)];simp only;rw [uW al r n (G4 hf)]
structure MG where
 level:Nat
 title:ag
 mark:ag
 facts:List (Nat×ag)
def fT (hd:ag→Option (Nat×ag)) (mk:ag→Option ag) (fs:List ag→Option (List (Nat×ag))):Option (List ag)→Option MG
 | some (a::b::r)=>match hd a,mk b,fs r with
  | some (n,t),some m,some f=>some ⟨n,t,m,f⟩
  | _,_,_=>none
 | _=>none
def jP (al:ag→Option ag) (v:ag):Option MG:=fT (qg al) (sd al) (iS al 0) (uT v)
def mB (al:ag→Option ag) (v:ag):Option MG:=fT (uV al) (fun l=>iP al l kv) (jO al 0) (uU v)
theorem CN (al:ag→Option ag) {v:ag} (h:v≠ []):jP al v=mB al v:=by unfold jP mB;rw [CL h,funext (xc al),funext (E2 al),funext fun l=>uW al l 0 (by omega)]
end Go.Proofs.YtfnkchadeaedlaaGreatDoor
namespace Go.Proofs.YtfnkchadeaedlaaGreatDoor
section
variable (aQ:ag→ag) (al:ag→Option ag)
def G5 (f:Nat×ag):ag:=kr f.1++32::aQ f.2
def G6 (lev:Nat) (title mark:ag) (facts:List (Nat×ag)):List ag:=(cG lev++32::aQ title)::(kv++32::aQ mark)::facts.map (G5 aQ)
def G7 (lev:Nat) (title mark:ag) (facts:List (Nat×ag)):ag:=(G6 aQ lev title mark facts).flatMap fun p=>p++ [10]
variable {aQ al} (h1: ∀s,al (aQ s)=some s) (h2: ∀s,(10:UInt8)∉aQ s)
include h1
include h2
end
end Go.Proofs.YtfnkchadeaedlaaGreatDoor
namespace Go.Proofs.YtfnkchadeaedlaaGreatDoor
theorem nh (order:List ag): ∀(r:List Fc) (cur x:Fc),x∈gJ order cur r→x=cur∨x∈r
 | [],cur,x,h=>by simpa [gJ] using h
 | f::r,cur,x,h=>by
  unfold gJ at h;split at h
  ·rcases List.mem_cons.1 h with h | h
   ·exact .inl h
   ·rcases nh order r f x h with h | h
    ·right;rw [h];simp
    ·right;simp [h]
  ·split at h
   ·rcases nh order r f x h with h | h
    ·right;rw [h];simp
    ·right;simp [h]
   ·rcases nh order r cur x h with h | h
    ·exact .inl h
    ·right;simp [h]
theorem gi {order:List ag} {l:List Fc} {x:Fc} (h:x∈aD order l):x∈l:=by
 cases l with
 | nil=>simp [aD] at h
 | cons f r=>
  rcases nh order r f x h with h | h
  ·rw [h];simp
  ·simp [h]
def q8 (text:ag):List Cell:=(List.range text.length).filterMap fun i=>if (an (text.drop i)).2=0 then none else some (4,(an (text.drop i)).1)
def kx (f:Fc):List Cell:=(3,f.el)::q8 f.text
def cellsOf (u:Int) (facts:List Fc):List Cell:=(facts.flatMap kx).foldl yq [(1,u),(2,u)]
theorem AT (u:Int) (facts:List Fc):iT (cellsOf u facts):=xe _ _ ⟨by simp [eI],by simp,trivial⟩
theorem AU {u:Int} {facts:List Fc} {z:Cell}:z∈cellsOf u facts↔z∈facts.flatMap kx∨z=(1,u)∨z=(2,u):=by unfold cellsOf;rw [xf];simp
def au (l:List (Cell×ag)) (c:Cell):Option ag:=(l.find? fun x=>decide (x.1=c)).map (·.2)
def bZ (look:Int→Option ag) (s:ag):Option ag:=
 match s with
 | []=>some []
 | c::r=>if h:(an (c::r)).2=0 then (bZ look r).map (c:: ·) else
  match look (an (c::r)).1,bZ look ((c::r).drop (an (c::r)).2.toNat) with
  | some a,some b=>some (a++b)
  | _,_=>none
termination_by s.length
decreasing_by
 ·simp
 ·rcases dh (c::r) with h' | h'
  ·exact absurd (by rw [h']) h
  ·simp only [List.length_drop,List.length_cons] at*;omega
def dV (l:List (Cell×ag)) (d:Int):List (Nat×ag)→Option (List Nd)
 | []=>some []
 | f::r=>match au l (3,(f.1:Int)),bZ (fun u=>au l (4,u)) f.2,dV l d r with
  | some lab,some t,some ns=>some (⟨d, [112],lab++ [58,32]++t⟩::ns)
  | _,_,_=>none
def mC (d:Int) (m:ag):List Nd:=if m= [] then [] else [⟨d, [109,97,114,107],m⟩]
def I7 (al:ag→Option ag) (unit:Int) (l:List (Cell×ag)):Int×Option qn:=
 if (au l (1,unit)).getD []= []∨(au l (2,unit)).getD []= [] then (7,none) else
 match jP al ((au l (2,unit)).getD []) with
 | none=>(3,none)
 | some x=>match dV l (aN ((au l (1,unit)).getD [])+1) x.facts with
  | none=>(7,none)
  | some ns=>(0,some ⟨unit,(au l (1,unit)).getD [],⟨aN ((au l (1,unit)).getD []),cG x.level,(au l (1,unit)).getD []++ [32]++x.title⟩::(mC (aN ((au l (1,unit)).getD [])+1) x.mark++ns)⟩)
def DS (f:Fc):Nat×ag:=(f.el.toNat,f.text)
def MH (aQ:ag→ag) (order:List ag) (s:Sh):ag:=G7 aQ s.level.toNat s.title s.mark ((aD order s.facts).map DS)
def QQ (it:Int→ag) (aQ:ag→ag) (c:Ct) (order:List ag) (root:Int) (x:Cell):ag:=
 if x.1=1 then fo it c root x.2 else if x.1=2 then (match cb c.ay x.2 with
  | some i=>match c.ay[i]? with
   | some s=>MH aQ order s
   | none=> []
  | none=> []) else if x.1=3 then iq order c.aA x.2 (gK it x.2) else if x.1=4 then gg c.ay x.2 else []
theorem AW {lev:Int} (h1:1≤lev) (h2:lev≤4):cG lev.toNat=fk lev:=by
 have:lev=1∨lev=2∨lev=3∨lev=4:=by omega
 rcases this with rfl | rfl | rfl | rfl <;> decide
end Go.Proofs.YtfnkchadeaedlaaGreatDoor
namespace Go.Proofs.YtfnkchadeaedlaaGreatDoor
end Go.Proofs.YtfnkchadeaedlaaGreatDoor
namespace Go.Proofs.YtfnkchadeaedlaaGreatDoor
def MI (it:Int→ag) (aQ:ag→ag) (c:Ct) (order:List ag) (root:Int) (x:Cell):ag:=
 if x.1=3∧(x.2<1∨64<x.2) then [] else QQ it aQ c order root x
def jQ (val:Cell→ag) (l:List (Cell×ag)):Bool:=l.any fun r=>decide (val r.1≠r.2)
def dJ (f g:Cell→ag) (l:List Cell):List Cell:=l.filter fun x=>decide (f x≠g x)
end Go.Proofs.YtfnkchadeaedlaaGreatDoor
namespace Go.Proofs.YtfnkchadeaedlaaGreatDoor
def aB (look:Int→Option ag) (s:ag):ag×Bool:=
 match s with
 | []=>([],false)
 | c::r=>if h:(an (c::r)).2=0 then (c::(aB look r).1,(aB look r).2) else
  match look (an (c::r)).1 with
  | some a=>(a++(aB look ((c::r).drop (an (c::r)).2.toNat)).1,(aB look ((c::r).drop (an (c::r)).2.toNat)).2)
  | none=>((aB look ((c::r).drop (an (c::r)).2.toNat)).1,true)
termination_by s.length
decreasing_by
 all_goals first
  | (simp;done)
  | (rcases dh (c :: r) with h' | h'
     ·exact absurd (by rw [h']) h
     ·simp only [List.length_drop, List.length_cons] at *; omega)
theorem jz (look:Int→Option ag):aB look []=([],false):=by rw [aB]
theorem lr (look:Int→Option ag) (c:UInt8) (r:ag) (h:(an (c::r)).2=0):aB look (c::r)=(c::(aB look r).1,(aB look r).2):=by rw [aB,dif_pos h]
theorem jR (look:Int→Option ag) (s:ag) (h:(an s).2≠0):aB look s=(match look (an s).1 with
  | some a=>(a++(aB look (s.drop (an s).2.toNat)).1,(aB look (s.drop (an s).2.toNat)).2)
  | none=>((aB look (s.drop (an s).2.toNat)).1,true)):=by
 cases s with
 | nil=>exact absurd rfl h
 | cons c r=>rw [aB,dif_neg h]
theorem se (look:Int→Option ag):bZ look []=some []:=by rw [bZ]
theorem qh (look:Int→Option ag) (c:UInt8) (r:ag) (h:(an (c::r)).2=0):bZ look (c::r)=(bZ look r).map (c:: ·):=by rw [bZ,dif_pos h]
theorem nL (look:Int→Option ag) (s:ag) (h:(an s).2≠0):bZ look s=(match look (an s).1,bZ look (s.drop (an s).2.toNat) with
  | some a,some b=>some (a++b)
  | _,_=>none):=by
 cases s with
 | nil=>exact absurd rfl h
 | cons c r=>
  rw [bZ,dif_neg h]
  first | done | (cases look (an (c::r)).1 <;> cases bZ look ((c::r).drop (an (c::r)).2.toNat) <;> rfl)
theorem ni (look:Int→Option ag): ∀(n:Nat) (s:ag),s.length≤n→bZ look s=if (aB look s).2=true then none else some (aB look s).1
 | _, [],_=>by rw [se,jz];rfl
 | 0,c::r,h=>by simp at h
 | n+1,c::r,h=>by
  simp only [List.length_cons] at h;by_cases hp:(an (c::r)).2=0
  ·rw [qh look c r hp,lr look c r hp,ni look n r (by omega)];split <;> rfl
  ·have hlen:((c::r).drop (an (c::r)).2.toNat).length≤n:=by
    rcases dh (c::r) with h' | h'
    ·exact absurd (by rw [h']) hp
    ·simp only [List.length_drop,List.length_cons];omega
   rw [nL look _ hp,jR look _ hp,ni look n _ hlen];cases look (an (c::r)).1 with
   | none=>rfl
   | some a=>cases hb:(aB look ((c::r).drop (an (c::r)).2.toNat)).2 <;> simp
def dK (l:List (Cell×ag)) (d:Int):List (Nat×ag)→List Nd×Bool
 | []=>([],false)
 | f::r=>(⟨d, [112],(au l (3,(f.1:Int))).getD []++ [58,32]++(aB (fun u=>au l (4,u)) f.2).1⟩::(dK l d r).1,
   (au l (3,(f.1:Int))).isNone || ((aB (fun u=>au l (4,u)) f.2).2 || (dK l d r).2))
theorem AX (l:List (Cell×ag)) (d:Int): ∀fs:List (Nat×ag),dV l d fs=if (dK l d fs).2=true then none else some (dK l d fs).1
 | []=>rfl
 | f::r=>by
  rw [dV,dK,AX l d r,ni _ f.2.length f.2 (Nat.le_refl _)];cases h3:au l (3,(f.1:Int)) with
  | none=>simp
  | some a=>
   simp only [Option.isNone_some,Bool.false_or,Option.getD_some];cases h4:(aB (fun u=>au l (4,u)) f.2).2 with
   | true=>simp
   | false=>
    simp only [Bool.false_or,Bool.false_eq_true,if_false];cases h5:(dK l d r).2 with
    | true=>simp
    | false=>simp
theorem jS {x:Cell×ag} {r:List (Cell×ag)} {c:Cell} (h:x.1≠c):au (x::r) c=au r c:=by
 unfold au;rw [List.find?_cons];have:decide (x.1=c)=false:=by simpa using h
 simp only [this]
theorem nM {x:Cell×ag} {r:List (Cell×ag)} {c:Cell} (h:x.1=c):au (x::r) c=some x.2:=by
 unfold au;rw [List.find?_cons];have:decide (x.1=c)=true:=by simpa using h
 simp only [this];rfl
theorem uX {c:Cell}: ∀{l:List (Cell×ag)},(∀x∈l,x.1≠c)→au l c=none
 | [],_=>rfl
 | x::r,h=>by rw [jS (h x (by simp)),uX (fun y hy=>h y (by simp [hy]))]
theorem DT {c:Cell}: ∀(l:List (Cell×ag)) (i:Nat),iT (l.map Prod.fst)→(∀j r,j<i→l[j]?=some r→eI r.1 c=true)→(∀j r,i≤j→l[j]?=some r→ ¬ eI r.1 c=true)→
  au l c=match l[i]? with
   | some r=>if r.1=c then some r.2 else none
   | none=>none
 | [],i,_,_,_=>by simp [au]
 | x::r,0,hi,_,h2=>by
  simp only [List.getElem?_cons_zero];by_cases h:x.1=c
  ·rw [if_pos h,nM h]
  ·rw [if_neg h];have hc:=lu (h2 0 x (Nat.le_refl _) rfl) h;refine uX fun y hy=> ?_;rcases List.mem_cons.1 hy with hy | hy
   ·rw [hy];exact h
   ·intro he;have:=hi.1 y.1 (List.mem_map.2 ⟨y,hy,rfl⟩);rw [he] at this;exact fc _ (ew this hc)
 | x::r,i+1,hi,h1,h2=>by
  have hx:=h1 0 x (by omega) rfl;have hne:x.1≠c:=fun h=>by rw [h] at hx;exact fc _ hx
  rw [jS hne,List.getElem?_cons_succ];exact DT r i hi.2 (fun j y hj hy=>h1 (j+1) y (by omega) (by simpa using hy)) (fun j y hj hy=>h2 (j+1) y (by omega) (by simpa using hy))
end Go.Proofs.YtfnkchadeaedlaaGreatDoor
namespace Go.Proofs.YtfnkchadeaedlaaGreatDoor
def bo (c:Ct) (aa:ag):Bool:=decide (gf c=0)&&fE c.ae aa
def iv (c:Ct) (root:Int) (aa:ag):Int:=if gf c≠0 then 1 else if fE c.ae aa=false then 10 else if (cb c.ay root).isSome=false then 7 else 0
theorem y3 {c:Ct} {root:Int} {aa:ag} (h:iv c root aa=0):gf c=0∧fE c.ae aa=true∧ ∃i,cb c.ay root=some i:=by
 unfold iv at h;split at h
 ·cases h
 ·split at h
  ·cases h
  ·split at h
   ·cases h
   ·rename_i h1 h2 h3;refine ⟨by simpa using h1,by simpa using h2,?_⟩;cases hi:cb c.ay root with
    | none=>rw [hi] at h3;simp at h3
    | some i=>exact ⟨i,rfl⟩
theorem uY {c:Ct} {aa:ag} (h:bo c aa=true):gf c=0∧fE c.ae aa=true:=by simpa [bo] using h
theorem G8 {c:Ct} {aa:ag} (h1:gf c=0) (h2:fE c.ae aa=true):bo c aa=true:=by simp [bo,h1,h2]
def dD (c:Ct) (u:Int):Option Sh:=match cb c.ay u with
 | some i=>c.ay[i]?
 | none=>none
theorem sf {c:Ct} {u:Int} {s:Sh} (h:dD c u=some s): ∃i,cb c.ay u=some i∧c.ay[i]?=some s∧s.unit=u∧s∈c.ay:=by
 unfold dD at h;cases hi:cb c.ay u with
 | none=>rw [hi] at h;cases h
 | some i=>rw [hi] at h;obtain ⟨t,h1,h2⟩:=AF hi;have h:c.ay[i]?=some s:=h;rw [h1] at h;cases h;exact ⟨i,rfl,h1,h2,List.mem_of_getElem? h1⟩
def n9 (c:Ct) (u:Int):List Fc:=match dD c u with
 | some s=>s.facts
 | none=> []
def bQ (c:Ct) (u:Int) (aa:ag):List Fc:=if bo c aa=true then aD (ar c.ae aa) (n9 c u) else []
def AY (it:Int→ag) (aQ:ag→ag) (tag title mark:ag) (facts:List Fc):ag:=tag++ [32]++aQ title++ [10]++(kv++ [32]++aQ mark++ [10])++facts.flatMap fun f=>it f.el++ [32]++aQ f.text++ [10]
theorem xg (it:Int→ag) (aQ:ag→ag) (hit: ∀n:Int,1≤n→n≤64→it n=kr n.toNat): ∀(l:List Fc),(∀f∈l,1≤f.el∧f.el≤64)→(l.flatMap fun f=>it f.el++ [32]++aQ f.text++ [10])=((l.map DS).map (G5 aQ)).flatMap fun p=>p++ [10]
 | [],_=>rfl
 | f::r,h=>by
  obtain ⟨h1,h2⟩:=h f (by simp);rw [List.flatMap_cons,List.map_cons,List.map_cons,List.flatMap_cons,xg it aQ hit r (fun g hg=>h g (by simp [hg])),hit _ h1 h2];simp [G5,DS]
theorem I8 {it:Int→ag} {aQ:ag→ag} (hit: ∀n:Int,1≤n→n≤64→it n=kr n.toNat) {lev:Int} (h1:1≤lev) (h2:lev≤4) (title mark:ag) {facts:List Fc} (hf: ∀f∈facts,1≤f.el∧f.el≤64):AY it aQ (fk lev) title mark facts=G7 aQ lev.toNat title mark (facts.map DS):=by unfold AY G7 G6;rw [xg it aQ hit facts hf,List.flatMap_cons,List.flatMap_cons,AW h1 h2];simp
def bI (it:Int→ag) (aQ:ag→ag) (c:Ct) (aa:ag) (root:Int) (x:Cell):ag:=if bo c aa=true then MI it aQ c (ar c.ae aa) root x else []
def vL (it:Int→ag) (aQ:ag→ag) (c:Ct) (aa:ag) (root:Int) (x:Cell):ag:=
 if x.1=1 then fo it c root x.2 else if x.1=2 then (match dD c x.2 with
  | some s=>AY it aQ (fk s.level) s.title s.mark (aD (ar c.ae aa) s.facts)
  | none=> []) else if x.1=3 then (if x.2<1∨64<x.2 then [] else iq (ar c.ae aa) c.aA x.2 (gK it x.2)) else if x.1=4 then gg c.ay x.2 else []
theorem I9 {it:Int→ag} {aQ:ag→ag} (hit: ∀n:Int,1≤n→n≤64→it n=kr n.toNat) {c:Ct} (hc:FU c) (aa:ag) (root:Int) (x:Cell):vL it aQ c aa root x=MI it aQ c (ar c.ae aa) root x:=by
 unfold vL MI QQ;by_cases h1:x.1=1
 ·simp [h1]
 by_cases h2:x.1=2
 ·simp only [h2,show¬ (2:Int)=1 by decide,show¬ (2:Int)=3 by decide,if_false,if_true,false_and];unfold dD;cases hi:cb c.ay x.2 with
  | none=>rfl
  | some i=>
   simp only;cases hs:c.ay[i]? with
   | none=>rfl
   | some s=>have hm:=List.mem_of_getElem? hs;have ho:=hc.ay s hm;exact I8 hit ho.l1 ho.l2 _ _ (fun f hf=>⟨(ho.facts f (gi hf)).PH,(ho.facts f (gi hf)).PI⟩)
 by_cases h3:x.1=3
 ·simp only [h3,show¬ (3:Int)=1 by decide,show¬ (3:Int)=2 by decide,if_false,if_true,true_and]
 ·simp [h1,h2,h3]
def bD (it:Int→ag) (aQ:ag→ag) (c:Ct) (root:Int) (aa:ag) (u:Int):List (Cell×ag)×Int:=
 if iv c root aa≠0 then ([],iv c root aa) else if fo it c root u= [] then ([],7) else ((cellsOf u (bQ c u aa)).map fun z=>(z,bI it aQ c aa root z),0)
end Go.Proofs.YtfnkchadeaedlaaGreatDoor
namespace Go.Proofs.YtfnkchadeaedlaaGreatDoor
variable {it:Int→ag} {aQ:ag→ag} {al:ag→Option ag}
def sD:List (Cell×ag)→Bool
 | []=>true
 | [_]=>true
 | a::b::r=>eI a.1 b.1&&sD (b::r)
theorem DU: ∀{l:List (Cell×ag)},sD l=true→iT (l.map Prod.fst)
 | [],_=>trivial
 | [a],_=>⟨by simp,trivial⟩
 | a::b::r,h=>by
  simp only [sD,Bool.and_eq_true] at h;have ih:=DU h.2;refine ⟨fun y hy=> ?_,ih⟩;rcases List.mem_cons.1 hy with hy | hy
  ·rw [hy];exact h.1
  ·exact ew h.1 (ih.1 y hy)
def iU (al:ag→Option ag) (unit:Int) (l:List (Cell×ag)):Int×Option qn:=if sD l=true then I7 al unit l else (5,none)
theorem lx {c:Ct} {root:Int} {aa:ag} (h:iv c root aa=0):bo c aa=true:=by obtain ⟨h1,h2,_⟩:=y3 h;exact G8 h1 h2
end Go.Proofs.YtfnkchadeaedlaaGreatDoor
namespace Go.Proofs.YtfnkchadeaedlaaGreatDoor
def Sh.yI (s:Sh):Sh:=⟨s.unit,s.par,s.level,s.mark,s.title,s.facts,none,0⟩
def Ct.yI (c:Ct):Ct:=⟨c.ae,c.aA,c.ay.map Sh.yI,none,0,none,0,none,0⟩
def Ct.Uq (a b:Ct):Prop:=a.yI=b.yI
theorem AZ: ∀(l:List Sh) (u:Int),cb (l.map Sh.yI) u=cb l u
 | [],_=>rfl
 | s::r,u=>by simp only [List.map_cons,cb,AZ r u];rfl
theorem G9 (pre:List Sh) (s:Sh):kG (pre.map Sh.yI) s.yI=kG pre s:=by unfold kG;rw [AZ];rfl
theorem xh (ae:List ag): ∀(l pre:List Sh) (path:List Int),lJ ae (pre.map Sh.yI) path (l.map Sh.yI)=lJ ae pre path l
 | [],_,_=>rfl
 | s::r,pre,path=>by
  have h1:(pre.map Sh.yI)++ [s.yI]=(pre++ [s]).map Sh.yI:=by simp
  have h2:fj path s.yI=fj path s:=rfl;simp only [List.map_cons,lJ,G9,h2,h1,xh ae r];rfl
theorem Ja (c:Ct):gf c.yI=gf c:=by
 have h:sY c.ae (c.ay.map Sh.yI)=sY c.ae c.ay:=by unfold sY;have:=xh c.ae c.ay [] [];rw [List.length_map];rw [show ([]:List Sh).map Sh.yI= [] from rfl] at this;rw [this]
 unfold gf;show (if nT c.ae=0 then (if sX c.ae c.aA=0 then sY c.ae (c.ay.map Sh.yI) else _) else _)=_;rw [h];rfl
theorem xi (c:Ct) (aa:ag):bo c.yI aa=bo c aa:=by unfold bo;rw [Ja];rfl
section
variable {a b:Ct} (h:a.Uq b)
include h
theorem Ct.Uq.right (aa:ag):bo a aa=bo b aa:=by rw [←xi a,←xi b,h]
end
end Go.Proofs.YtfnkchadeaedlaaGreatDoor
