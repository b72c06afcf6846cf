/- Catalogs as plain values: -/
import Derived.Test.YtfgbpngakkhdcaaGreatDoorStrM
open Bool renaming and_eq_true->abj,false_eq_true->aav,false_or->abE
open Int renaming le_refl->acU
open List renaming all_eq_true->abH,any_eq_true->acq,cons_append->abI,drop_drop->acV,drop_eq_nil_iff->acW,drop_succ_cons->acX,drop_zero->acY,eraseIdx_cons_succ->acZ,find?_cons->ac0,find?_eq_none->ac1,find?_some->ac2,flatMap_cons->abr,getElem?_append_left->abt,getElem?_eq_some_iff->ab8,getElem?_map->abo,getElem?_take->acD,getElem_mem->aa8,head?_drop->ac3,length_append->aba,length_cons->aaH,length_drop->abb,length_map->abp,length_singleton->ac4,length_take->abc,map_congr_left->ab9,map_cons->aaM,map_eq_nil_iff->ab1,map_id->ac5,map_map->ab2,mem_append->abN,mem_cons->aaQ,mem_cons_of_mem->abO,mem_filter->abP,mem_filterMap->abQ,mem_flatMap->acd,mem_iff_getElem?->ac6,mem_map->aaS,mem_of_find?_eq_some->ac7,mem_of_getElem?->ab3,mem_range->abl,mem_reverse->ac8,nodup_cons->aaU,nodup_nil->ac9,tail_drop->ada,take_append->adb,take_of_length_le->ade,take_succ_cons->adf,take_take->adg
open Nat renaming le_refl->aa0,le_trans->abd,min_eq_left->adh,mul_assoc->adi,mul_comm->acO,mul_le_mul_right->acF,pow_le_pow_right->adj,pow_succ->adk,zero_le->acH
open Option renaming getD_some->abn,map_some->aa1
set_option linter.all false
namespace Go.Proofs.YtfgbpngakkhdcaaGreatDoor
def pE (e:Int) (s:ae) (f:Int) (t:ae):Bool:=decide (e<f∨e=f∧Lib.compareBytes s t<0)
structure Lb where
 el:Int
 lang:ae
 text:ae
 ix:Int
structure Fc where
 el:Int
 lang:ae
 text:ae
structure Sh where
 unit:Int
 par:Int
 level:Int
 mark:ae
 title:ae
 facts:List Fc
 fn:Option Bool
 fz:Nat
structure Ct where
 af:List ae
 aD:List Lb
 ao:List Sh
 ln:Option Bool
 lz:Nat
 bn:Option Bool
 bz:Nat
 sn:Option Bool
 sz:Nat
def HK (s:ae):Bool:=decide (s.length=2)&&(decide (97<=(s.getD 0 0).toNat∧(s.getD 0 0).toNat<=122)&&decide (97<=(s.getD 1 0).toNat∧(s.getD 1 0).toNat<=122))
def gP (l:List ae) (s:ae):Bool:=l.any (s== ·)
def ik:List ae->List ae->Int
 | _, []=>0
 | pre,s::r=>if HK s=false then 4 else if gP pre s=true then 6 else ik (pre++ [s]) r
def qa (l:List ae):Int:=if l.length<1∨8<l.length then 2 else ik [] l
def Ae (af:List ae) (p:Option Lb) (l:Lb):Int:=
 if l.el<1∨64<l.el∨l.ix<0∨3<l.ix then 2 else if gP af l.lang=false then 7 else if l.text.length<1∨64<l.text.length then 4 else
 match p with
 | none=>0
 | some p=>if pE p.el p.lang l.el l.lang=false then 5 else if p.el=l.el∧p.ix≠l.ix then 10 else 0
def jB (af:List ae):Option Lb->List Lb->Int
 | _, []=>0
 | p,l::r=>if Ae af p l=0 then jB af (some l) r else Ae af p l
def vQ (af:List ae) (l:List Lb):Int:=if 256<l.length then 8 else jB af none l
def BK (af:List ae) (p:Option Fc) (f:Fc):Int:=
 if f.el<1∨64<f.el then 2 else if gP af f.lang=false then 7 else if f.text.length<1∨4096<f.text.length then 4 else
 match p with
 | none=>0
 | some p=>if pE p.el p.lang f.el f.lang=false then 5 else 0
def jC (af:List ae):Option Fc->List Fc->Int
 | _, []=>0
 | p,f::r=>if BK af p f=0 then jC af (some f) r else BK af p f
def pI (af:List ae) (l:List Fc):Int:=if 32<l.length then 8 else jC af none l
def aY:List Sh->Int->Option Nat
 | [],_=>none
 | s::r,u=>if s.unit=u then some 0 else (aY r u).map (· +1)
def p9:List Int->Int->Option Nat
 | [],_=>none
 | x::r,u=>if x=u then some 0 else (p9 r u).map (· +1)
def c6 (o:Option Nat):Int:=match o with | some n=>n | none=> -1
def mg (pre:List Sh) (s:Sh):Int:=
 if s.unit<1∨1073741824<s.unit∨s.level<1∨4<s.level then 2 else
 if 64<s.mark.length∨s.title.length<1∨64<s.title.length then 4 else if (aY pre s.unit).isSome=true then 6 else 0
def gx (path:List Int) (s:Sh):Option Nat:=if s.par=0 then some 0 else (p9 path s.par).map (· +1)
def nG (af:List ae):List Sh->List Int->List Sh->Int
 | _,_, []=>0
 | pre,path,s::r=>if mg pre s=0 then
   (match gx path s with
   | none=>7
   | some k=>if 12<=k then 15 else if pI af s.facts=0 then nG af (pre++ [s]) (path.take k++ [s.unit]) r else pI af s.facts)
  else mg pre s
def vU (af:List ae) (l:List Sh):Int:=if 256<l.length then 8 else nG af [] [] l
def iE (c:Ct):Int:=if qa c.af=0 then (if vQ c.af c.aD=0 then vU c.af c.ao else vQ c.af c.aD) else qa c.af
theorem ep: ∀{l:List Sh} {u:Int} {k:Nat},aY l u=some k->k<l.length
 | s::r,u,k,h=>by
  unfold aY at h;split at h
  ·cases h;simp
  ·cases hr:aY r u with
   | none=>rw [hr] at h;cases h
   | some j=>rw [hr] at h;simp only [aa1,Option.some.injEq] at h;have:=ep hr;simp only [aaH];omega
def chain (l:List Sh) (i:Nat):List Int:=
 match h:l[i]? with
 | none=> []
 | some s=>s.unit::(if s.par=0 then [] else
  match hj:aY (l.take i) s.par with
  | some j=>chain l j
  | none=> [])
termination_by i
decreasing_by
 have:=ep hj;simp only [abc] at this;omega
def lj (l:List Sh) (i:Nat) (s:Sh):Option Nat:=
 if s.par=0 then some 0 else if i=0 then none else if (chain l (i-1)).contains s.par=true then
  some (match aY (l.take i) s.par with | some j=>(chain l j).length | none=>0) else none
def DH (af:List ae) (l:List Sh) (i:Nat) (s:Sh):Int:=
 if mg (l.take i) s=0 then
  (match lj l i s with
  | none=>7
  | some k=>if 12<=k then 15 else pI af s.facts)
 else mg (l.take i) s
def tH (af:List ae) (l:List Sh):Nat->List Sh->Int
 | _, []=>0
 | i,s::r=>if DH af l i s=0 then tH af l (i+1) r else DH af l i s
def RZ (af:List ae) (l:List Sh):Int:=if 256<l.length then 8 else tH af l 0 l
theorem dW {l:List Sh} {i:Nat} {s:Sh} (h:l[i]?=some s):chain l i=s.unit::(if s.par=0 then [] else match aY (l.take i) s.par with | some j=>chain l j | none=> []):=by
 rw [chain];split
 ·rename_i h';rw [h'] at h;cases h
 ·rename_i s' h';rw [h'] at h;cases h;congr 1;split
  ·rfl
  ·split
   ·rename_i h1;rw [h1]
   ·rename_i h1;rw [h1]
theorem iS: ∀{l:List Sh} {u:Int} {k:Nat},aY l u=some k-> ∃s,l[k]?=some s∧s.unit=u
 | s::r,u,k,h=>by
  unfold aY at h;split at h
  ·cases h;exact ⟨s,rfl,by assumption⟩
  ·cases hr:aY r u with
   | none=>rw [hr] at h;cases h
   | some j=>rw [hr] at h;simp only [aa1,Option.some.injEq] at h;subst h;obtain ⟨x,h1,h2⟩:=iS hr;exact ⟨x,by simpa using h1,h2⟩
def kf (l:List Sh):Prop:= ∀(i:Nat) (s:Sh),l[i]?=some s->aY (l.take i) s.unit=none
theorem ic: ∀{l:List Sh} {j:Nat} {s:Sh},l[j]?=some s->aY (l.take j) s.unit=none->aY l s.unit=some j
 | x::r,0,s,h,_=>by cases h;simp [aY]
 | x::r,j+1,s,h,hn=>by
  simp only [adf,aY] at hn;split at hn
  ·cases hn
  ·rename_i hx
   rw [aY,if_neg hx,ic (l:=r) (j:=j) h (by
    cases hr:aY (r.take j) s.unit with
    | none=>rfl
    | some k=>rw [hr] at hn;cases hn)]
   rfl
theorem xL {l:List Sh}: ∀(i:Nat) (u:Int),u∈chain l i-> ∃(p:List Int) (j:Nat) (s:Sh),j<=i∧l[j]?=some s∧s.unit=u∧chain l i=p++chain l j∧u∉p:=by
 intro i
 induction i using Nat.strongRecOn with
 | _ i ih=>
  intro u hu;cases hs:l[i]? with
  | none=>
   rw [chain] at hu;split at hu
   ·cases hu
   ·rename_i h;rw [hs] at h;cases h
  | some s=>
   by_cases hsu:s.unit=u
   ·exact ⟨[],i,s,aa0 _,hs,hsu,rfl,by simp⟩
   ·rw [dW hs] at hu⊢;rcases aaQ.1 hu with rfl | hu
    ·exact absurd rfl hsu
    ·split at hu
     ·cases hu
     ·rename_i hp;rw [if_neg hp];split at hu
      ·rename_i j hj;have hlt:=ep hj;simp only [abc] at hlt;obtain ⟨p,k,t,h1,h2,h3,h4,h5⟩:=ih j (by omega) u hu;refine ⟨s.unit::p,k,t,by omega,h2,h3,by rw [h4];rfl,?_⟩;simp only [aaQ,not_or];exact ⟨fun h=>hsu h.symm,h5⟩
      ·cases hu
theorem kJ {l:List Sh} (i:Nat) (u:Int) (h:u∈chain l i): ∃(j:Nat) (s:Sh),j<=i∧l[j]?=some s∧s.unit=u:=by obtain ⟨_,j,s,h1,h2,h3,_⟩:=xL i u h;exact ⟨j,s,h1,h2,h3⟩
theorem xM {l:List Sh} {j:Nat} {s:Sh} (h:l[j]?=some s): ∃t,chain l j=s.unit::t:=⟨_,dW h⟩
theorem lV {l:List Sh} (hu:kf l) {i j:Nat} {s t:Sh} (h1:l[i]?=some s) (h2:l[j]?=some t) (h:s.unit=t.unit):i=j:=by have e1:=ic h1 (hu i s h1);have e2:=ic h2 (hu j t h2);rw [h] at e1;rw [e1] at e2;exact Option.some.inj e2
theorem DI {l:List Sh} (hu:kf l): ∀i,(chain l i).Nodup:=by
 intro i
 induction i using Nat.strongRecOn with
 | _ i ih=>
  cases hs:l[i]? with
  | none=>
   rw [chain];split
   ·exact ac9
   ·rename_i h;rw [hs] at h;cases h
  | some s=>
   rw [dW hs];split
   ·simp
   ·split
    ·rename_i j hj;have hlt:=ep hj;simp only [abc] at hlt;refine aaU.2 ⟨fun hm=> ?_,ih j (by omega)⟩;obtain ⟨k,t,h1,h2,h3⟩:=kJ j _ hm;have:=lV hu h2 hs h3;omega
    ·simp
theorem DJ: ∀(a:List Int) (u:Int) (b:List Int),u∉a->p9 (a++u::b) u=some a.length
 | [],u,b,_=>by simp [p9]
 | x::a,u,b,h=>by
  simp only [aaQ,not_or] at h;rw [abI,p9,if_neg (fun hx=>h.1 hx.symm),DJ a u b h.2];rfl
theorem zt: ∀(a:List Int) (u:Int),u∉a->p9 a u=none
 | [],u,_=>rfl
 | x::a,u,h=>by
  simp only [aaQ,not_or] at h;rw [p9,if_neg (fun hx=>h.1 hx.symm),zt a u h.2];rfl
theorem zu {l:List Sh} (hu:kf l) {i j:Nat} {s:Sh} (hj:l[j]?=some s) (hji:j<i):aY (l.take i) s.unit=some j:=by refine ic (l:=l.take i) (by rw [acD,if_pos hji];exact hj) ?_;rw [adg,adh (by omega)];exact hu j s hj
def ie (l:List Sh) (i:Nat):List Int:=if i=0 then [] else (chain l (i-1)).reverse
theorem FR {l:List Sh} (hu:kf l) (i:Nat) (s:Sh) (hs:l[i]?=some s):
  gx (ie l i) s=lj l i s∧ ∀k,gx (ie l i) s=some k->(ie l i).take k++ [s.unit]=(chain l i).reverse:=by
 unfold gx lj ie;by_cases hp:s.par=0
 ·rw [if_pos hp,if_pos hp];refine ⟨rfl,fun k hk=> ?_⟩;cases hk;rw [dW hs,if_pos hp];simp
 ·rw [if_neg hp,if_neg hp];by_cases h0:i=0
  ·rw [if_pos h0,if_pos h0];exact ⟨rfl,fun k hk=>by cases hk⟩
  ·rw [if_neg h0,if_neg h0];by_cases hm:s.par∈chain l (i-1)
   ·obtain ⟨p,j,t,h1,h2,h3,h4,h5⟩:=xL (i-1) s.par hm;obtain ⟨r,hr⟩:=xM h2;have hnd:=DI hu (i-1)
    have e1:(chain l (i-1)).reverse=r.reverse++s.par::p.reverse:=by rw [h4,hr,h3];simp
    have hnr:s.par∉r.reverse:=by rw [h4,hr,h3] at hnd;have:=(List.nodup_append.1 hnd).2.1;exact fun h=>(aaU.1 this).1 (ac8.1 h)
    have e2:p9 ((chain l (i-1)).reverse) s.par=some r.length:=by rw [e1,DJ _ _ _ hnr,List.length_reverse]
    have e3:aY (l.take i) s.par=some j:=by rw [<-h3];exact zu hu h2 (by omega)
    rw [e2,if_pos (by simpa using hm),e3];refine ⟨by simp [hr],fun k hk=> ?_⟩;simp only [aa1,Option.some.injEq] at hk;subst hk;rw [dW hs,if_neg hp,e3,e1];simp only [hr,h3];simp [adb];rw [ade (by simp)]
   ·rw [zt _ _ (fun h=>hm (ac8.1 h)),if_neg (by simpa using hm)];exact ⟨rfl,fun k hk=>by cases hk⟩
theorem mX {l:List Sh} {n:Nat}: ∀i,i<n->chain (l.take n) i=chain l i:=by
 intro i
 induction i using Nat.strongRecOn with
 | _ i ih=>
  intro hi;have hg:(l.take n)[i]?=l[i]?:=by rw [acD,if_pos hi]
  cases hs:l[i]? with
  | none=>
   rw [chain,chain];split
   ·split
    ·rfl
    ·rename_i h;rw [hs] at h;cases h
   ·rename_i h;rw [hg,hs] at h;cases h
  | some s=>
   rw [dW hs,dW (hg.trans hs),adg,adh (by omega)];congr 1;split
   ·rfl
   ·split
    ·rename_i j hj;have hlt:=ep hj;simp only [abc] at hlt;exact ih j (by omega) (by omega)
    ·rfl
theorem DK {l:List Sh} {n i:Nat} (h:i<n) (s:Sh):lj (l.take n) i s=lj l i s:=by
 unfold lj;by_cases h0:i=0
 ·subst h0;rfl
 ·rw [adg,adh (by omega),mX (i-1) (by omega)];congr 3;split
  ·rename_i j hj;have hlt:=ep hj;simp only [abc] at hlt;rw [mX j (by omega)]
  ·rfl
theorem uV (af:List ae) (l:List Sh): ∀(r pre:List Sh),l=pre++r->kf pre->nG af pre (ie l pre.length) r=tH af l pre.length r
 | [],_,_,_=>rfl
 | s::r,pre,hl,hu=>by
  have hs:l[pre.length]?=some s:=by rw [hl];simp
  have ht:l.take pre.length=pre:=by rw [hl];simp
  unfold nG tH DH;rw [ht];by_cases h1:mg pre s=0
  ·have hn:aY pre s.unit=none:=by
    unfold mg at h1;split at h1
    ·cases h1
    ·split at h1
     ·cases h1
     ·split at h1
      ·cases h1
      ·rename_i h;simpa using h
   have hu':kf (pre++ [s]):=fun i t hi=>by
    rcases Nat.lt_trichotomy i pre.length with h | h | h
    ·rw [abt h] at hi;rw [List.take_append_of_le_length (by omega)];exact hu i t hi
    ·subst h;simp at hi;subst hi;simp [hn]
    ·rw [List.getElem?_eq_none (by simp;omega)] at hi;cases hi
   have hpl: ∀m,gx (ie l pre.length) s=m->lj l pre.length s=m∧ ∀k,m=some k->(ie l pre.length).take k++ [s.unit]=ie l (pre++ [s]).length:=fun m hm=>by
    have hw:l.take (pre.length+1)=pre++ [s]:=by rw [hl];simp [adb];rw [ade (by omega)]
    have key:=FR (l:=pre++ [s]) hu' pre.length s (by simp);rw [<-hw,DK (by omega),mX _ (by omega)] at key
    have hp:ie (l.take (pre.length+1)) pre.length=ie l pre.length:=by
     unfold ie;split
     ·rfl
     ·rw [mX _ (by omega)]
    rw [hp,hm] at key;refine ⟨key.1.symm,fun k hk=> ?_⟩;rw [key.2 k hk];unfold ie;simp
   rw [if_pos h1,if_pos h1];cases hm:gx (ie l pre.length) s with
   | none=>rw [(hpl _ hm).1];rfl
   | some k=>
    obtain ⟨e1,e2⟩:=hpl _ hm;rw [e1];simp only;by_cases hk:12<=k
    ·rw [if_pos hk,if_pos hk];rfl
    ·rw [if_neg hk,if_neg hk];by_cases hf:pI af s.facts=0
     ·rw [if_pos hf,if_pos hf,e2 k rfl];have:=uV af l r (pre++ [s]) (by rw [hl];simp) hu';rw [this];simp
     ·rw [if_neg hf,if_neg hf]
  ·rw [if_neg h1,if_neg h1,if_neg h1]
theorem K6 (af:List ae) (l:List Sh):vU af l=RZ af l:=by
 unfold vU RZ;split
 ·rfl
 ·have:=uV af l l [] rfl (fun i s h=>by simp at h);exact this
variable (it:Int->ae)
def cw {α:Type}:List (Int×α)->Int->Option α
 | [],_=>none
 | (x,v)::r,u=>if x=u then some v else cw r u
def iY {α:Type}:List (Int×α)->Int->α->List (Int×α)
 | [],u,v=> [(u,v)]
 | (x,w)::r,u,v=>if x=u then (x,v)::r else (x,w)::iY r u v
theorem fJ {α:Type}: ∀(l:List (Int×α)) (u:Int) (v:α) (t:Int),cw (iY l u v) t=if u=t then some v else cw l t
 | [],u,v,t=>by simp [iY,cw]
 | (x,w)::r,u,v,t=>by
  unfold iY;by_cases h:x=u
  ·subst h;rw [if_pos rfl];simp only [cw];split <;> rfl
  ·rw [if_neg h];simp only [cw,fJ r u v t];by_cases h2:x=t
   ·rw [if_pos h2,if_pos h2,if_neg (fun h3=>h (h2.trans h3.symm))]
   ·rw [if_neg h2,if_neg h2]
structure NS where
 FT:List (Int×ae)
 kids:List (Int×Int)
def eo (root:Int) (st:NS) (s:Sh):NS:=
 if s.unit=root then ⟨iY st.FT s.unit [49],st.kids⟩ else
 match cw st.FT s.par with
 | some above=>⟨iY st.FT s.unit (above++ [46]++it ((cw st.kids s.par).getD 0+1)),iY st.kids s.par ((cw st.kids s.par).getD 0+1)⟩
 | none=>st
def bK (root:Int):NS->List Sh->List (Sh×ae)
 | _, []=> []
 | st,s::r=>match cw (eo it root st s).FT s.unit with
  | some n=>(s,n)::bK root (eo it root st s) r
  | none=>bK root (eo it root st s) r
def zw (p:Nat->Bool):Nat->Nat
 | 0=>0
 | n+1=>zw p n+if p n=true then 1 else 0
theorem zx {p q:Nat->Bool}: ∀n,(∀k,k<n->p k=q k)->zw p n=zw q n
 | 0,_=>rfl
 | n+1,h=>by rw [zw,zw,zx n (fun k hk=>h k (by omega)),h n (by omega)]
def yv (l:List Sh) (u:Int) (k:Nat):Bool:=match l[k]? with | some s=>decide (s.par=u) | none=>false
def oC (l:List Sh) (root:Int) (i:Nat):ae:=
 match l[i]? with
 | none=> []
 | some s=>if s.unit=root then [49] else
  (match hj:aY (l.take i) s.par with
  | some j=>oC l root j
  | none=> [])++ [46]++it (zw (yv l s.par) (i+1))
termination_by i
decreasing_by
 have:=ep hj;simp only [abc] at this;omega
theorem tI {l:List Sh} {root:Int} {i:Nat} {s:Sh} (h:l[i]?=some s):oC it l root i=if s.unit=root then [49] else (match aY (l.take i) s.par with | some j=>oC it l root j | none=> [])++ [46]++it (zw (yv l s.par) (i+1)):=by
 rw [oC,h];simp only;split
 ·rfl
 ·congr 2;split
  ·rename_i h1;rw [h1]
  ·rename_i h1;rw [h1]
structure Valid (l:List Sh):Prop where
 uniq:kf l
 par: ∀(i:Nat) (s:Sh),l[i]?=some s->s.par≠0-> ∃j,aY (l.take i) s.par=some j
 pos: ∀s∈l,1<=s.unit
def sy (l:List Sh) (root:Int) (i:Nat):Bool:=(chain l i).contains root
def fP (l:List Sh) (root:Int):Nat->List Sh->List (Sh×ae)
 | _, []=> []
 | i,s::r=>if sy l root i=true then (s,oC it l root i)::fP l root (i+1) r else fP l root (i+1) r
def FU (l:List Sh) (root u:Int) (k:Nat):Bool:=match l[k]? with | some s=>decide (s.par=u)&&(sy l root k&&decide (s.unit≠root)) | none=>false
theorem lW: ∀(pre:List Sh) (s:Sh) (u:Int),aY (pre++ [s]) u=match aY pre u with | some j=>some j | none=>if s.unit=u then some pre.length else none
 | [],s,u=>by simp [aY]
 | x::r,s,u=>by
  rw [abI,aY,aY,lW r s u];by_cases h:x.unit=u
  ·simp [h]
  ·simp only [if_neg h];cases aY r u with
   | some j=>rfl
   | none=>simp only [Option.map_none,aaH];split <;> rfl
theorem K7 {l:List Sh} {i:Nat} {u:Int} (hu:kf l) (h:u∈chain l i) {k:Nat} {s:Sh} (hk:l[k]?=some s) (hs:s.unit=u):k<=i:=by obtain ⟨j,t,h1,h2,h3⟩:=kJ i u h;have:=lV hu hk h2 (by rw [hs,h3]);omega
theorem zy {l:List Sh} (hv:Valid l) (root:Int): ∀(r pre:List Sh) (st:NS),l=pre++r->
  (∀u,cw st.FT u=match aY pre u with | some j=>if sy l root j=true then some (oC it l root j) else none | none=>none)->
  (∀u,(cw st.kids u).getD 0=(zw (FU l root u) pre.length:Int))->bK it root st r=fP it l root pre.length r
 | [],_,_,_,_,_=>rfl
 | s::r,pre,st,hl,hA,hB=>by
  have hs:l[pre.length]?=some s:=by rw [hl];simp
  have ht:l.take pre.length=pre:=by rw [hl];simp
  have hn:aY pre s.unit=none:=by have:=hv.uniq _ _ hs;rwa [ht] at this
  have hl':l=(pre++ [s])++r:=by rw [hl];simp
  have hch:=dW hs;rw [ht] at hch;have hnum:=tI it (root:=root) hs;rw [ht] at hnum
  have hown: ∀u,zw (FU l root u) (pre++ [s]).length=zw (FU l root u) pre.length+if (decide (s.par=u)&&(sy l root pre.length&&decide (s.unit≠root)))=true then 1 else 0:=fun u=>by
   rw [aba,ac4,zw];congr 2;unfold FU;rw [hs]
  -- the step
  have step: ∃st',eo it root st s=st'∧(∀u,cw st'.FT u=match aY (pre++ [s]) u with | some j=>if sy l root j=true then some (oC it l root j) else none | none=>none)∧
    (∀u,(cw st'.kids u).getD 0=(zw (FU l root u) (pre++ [s]).length:Int)):=by
   refine ⟨_,rfl,?_⟩;unfold eo;by_cases hr:s.unit=root
   ·rw [if_pos hr];rw [if_pos hr] at hnum;have hin:sy l root pre.length=true:=by unfold sy;rw [hch,hr];simp
    constructor
    ·intro u;simp only [fJ,lW,hA u];by_cases hu:s.unit=u
     ·subst hu;rw [if_pos rfl,hn];simp only [if_true,hin,hnum]
     ·rw [if_neg hu];cases aY pre u with
      | some j=>rfl
      | none=>simp only [if_neg hu]
    ·intro u;rw [hB u,hown u];simp [hr]
   ·rw [if_neg hr];rw [if_neg hr] at hnum;have hA':=hA s.par;by_cases hp:s.par=0
    ·have h0:aY pre s.par=none:=by
      cases h:aY pre s.par with
      | none=>rfl
      | some j=>obtain ⟨t,h1,h2⟩:=iS h;have:=hv.pos t (by rw [hl];exact List.mem_append_left _ (ab3 h1));omega
     rw [h0] at hA';simp only [hA'];rw [if_pos hp] at hch;have hin:sy l root pre.length=false:=by unfold sy;rw [hch];simpa using fun h=>hr h.symm
     constructor
     ·intro u;rw [hA u,lW];cases hx:aY pre u with
      | some j=>rfl
      | none=>
       by_cases hu:s.unit=u
       ·simp [hu,hin]
       ·simp [hu]
     ·intro u;rw [hB u,hown u,hin];simp
    ·obtain ⟨j,hj⟩:=hv.par _ _ hs hp;rw [ht] at hj;rw [hj] at hA' hch hnum;rw [if_neg hp] at hch;simp only at hA' hch hnum;have hjl:=ep hj;obtain ⟨t,hjt,htu⟩:=iS hj;have hjt':l[j]?=some t:=by rw [hl,abt hjl];exact hjt
     have hin:sy l root pre.length=sy l root j:=by unfold sy;rw [hch,List.contains_cons,show (root==s.unit)=false from by simpa using fun h=>hr h.symm];rfl
     by_cases hrj:sy l root j=true
     ·rw [hrj] at hin;rw [if_pos hrj] at hA';rw [hA']
      have hcnt:zw (FU l root s.par) pre.length=zw (yv l s.par) pre.length:=zx _ fun k hk=>by
       unfold FU yv;cases hkx:l[k]? with
       | none=>rfl
       | some x=>
        simp only;by_cases hx:x.par=s.par
        ·have hx0:x.par≠0:=by rw [hx];exact hp
         obtain ⟨m,hm⟩:=hv.par _ _ hkx hx0;have hm2:=iS hm;obtain ⟨y,hy1,hy2⟩:=hm2;have hmk:=ep hm;simp only [abc] at hmk;rw [acD,if_pos (by omega)] at hy1;have hmj:=lV hv.uniq hy1 hjt' (by rw [hy2,htu,hx]);subst hmj;have hck:=dW hkx;rw [if_neg hx0,hm] at hck;simp only at hck;have hroot:root∈chain l m:=by simpa [sy] using hrj
         have hxr:x.unit≠root:=fun h=>by
          have:=K7 hv.uniq hroot hkx h;omega
         have:sy l root k=true:=by unfold sy;rw [hck];simp [hroot]
         simp [hx,this,hxr]
        ·simp [hx]
      have hcnt2:zw (yv l s.par) (pre.length+1)=zw (yv l s.par) pre.length+1:=by
       rw [zw];have:yv l s.par pre.length=true:=by unfold yv;rw [hs];simp
       rw [this];rfl
      have hk:=hB s.par;rw [hcnt] at hk;rw [hcnt2] at hnum
      have hnum':oC it l root pre.length=oC it l root j++ [46]++it ((cw st.kids s.par).getD 0+1):=by rw [hnum,hk];rfl
      constructor
      ·intro u;simp only [fJ,lW];by_cases hu:s.unit=u
       ·subst hu;rw [if_pos rfl,hn];simp only [if_true,hin,hnum']
       ·rw [if_neg hu,hA u];cases aY pre u with
        | some j=>rfl
        | none=>simp only [if_neg hu]
      ·intro u;simp only [fJ];rw [hown u,hin];by_cases hu:s.par=u
       ·subst hu;rw [if_pos rfl];rw [hB s.par];simp [hr]
       ·rw [if_neg hu,hB u];simp [hu]
     ·have hrj:sy l root j=false:=by simpa using hrj
      rw [hrj] at hin;rw [hrj] at hA';simp only [aav,if_false] at hA';rw [hA'];constructor
      ·intro u;rw [hA u,lW];cases hx:aY pre u with
       | some j=>rfl
       | none=>
        by_cases hu:s.unit=u
        ·simp [hu,hin]
        ·simp [hu]
      ·intro u;rw [hB u,hown u,hin];simp
  obtain ⟨st',e,hA2,hB2⟩:=step;have ih:=zy hv root r (pre++ [s]) st' hl' hA2 hB2;have hself:=hA2 s.unit;rw [lW,hn] at hself;simp only [if_true] at hself;unfold bK fP;rw [e,hself];by_cases hin:sy l root pre.length=true
  ·rw [if_pos hin,if_pos hin];simp only [ih,aba,ac4]
  ·rw [if_neg hin,if_neg hin];simp only [ih,aba,ac4]
theorem ig {l:List Sh} (hv:Valid l) (root:Int):bK it root ⟨[], []⟩ l=fP it l root 0 l:=
 zy it hv root l [] ⟨[], []⟩ rfl (fun u=>rfl) (fun u=>rfl)
end Go.Proofs.YtfgbpngakkhdcaaGreatDoor
namespace Go.Proofs.YtfgbpngakkhdcaaGreatDoor
def sQ:List ae->ae->Option Nat
 | [],_=>none
 | x::r,s=>if x=s then some 0 else (sQ r s).map (· +1)
theorem DL: ∀{l:List ae} {s:ae} {k:Nat},sQ l s=some k->l[k]?=some s
 | x::r,s,k,h=>by
  unfold sQ at h;split at h
  ·rename_i hx;cases h;simp [hx]
  ·cases hr:sQ r s with
   | none=>rw [hr] at h;cases h
   | some j=>rw [hr] at h;simp only [aa1,Option.some.injEq] at h;subst h;simpa using DL hr
theorem BS: ∀{l:List ae} {s:ae},gP l s=true-> ∃k,sQ l s=some k
 | [],s,h=>by simp [gP] at h
 | x::r,s,h=>by
  unfold sQ;by_cases hx:x=s
  ·exact ⟨0,by rw [if_pos hx]⟩
  ·have:gP r s=true:=by unfold gP at h⊢;rw [List.any_cons,show (s==x)=false from by simpa using fun h=>hx h.symm] at h;simpa using h
   obtain ⟨k,hk⟩:=BS this;exact ⟨k+1,by rw [if_neg hx,hk];rfl⟩
def au (l:List ae) (s:ae):List ae:=match sQ l s with | some i=>s::(l.take i++l.drop (i+1)) | none=> []
def Diff:List ae->Prop
 | []=>True
 | x::r=>x∉r∧Diff r
def rk (order:List ae) (s:ae):Int:=match sQ order s with | some k=>k | none=> -1
def gy (order:List ae) (cur:Fc):List Fc->List Fc
 | []=> [cur]
 | f::r=>if cur.el≠f.el then cur::gy order f r else if rk order f.lang<rk order cur.lang then gy order f r else gy order cur r
def an (order:List ae):List Fc->List Fc
 | []=> []
 | f::r=>gy order f r
def Uj:List Fc->Prop
 | []=>True
 | f::r=>(∀g∈r,f.el<g.el∨f.el=g.el∧f.lang≠g.lang)∧Uj r
def fV (order:List ae) (el:Int):ae->Int->List Lb->ae
 | t,_, []=>t
 | t,b,l::r=>if l.el=el∧rk order l.lang<b then fV order el l.text (rk order l.lang) r else fV order el t b r
def gz (order:List ae) (aD:List Lb) (el:Int) (dflt:ae):ae:=fV order el dflt order.length aD
def R0:List Lb->Prop
 | []=>True
 | f::r=>(∀g∈r,f.el=g.el->f.lang≠g.lang)∧R0 r
theorem tJ (order:List ae) (el:Int): ∀(l:List Lb) (t:ae) (b:Int),
  (fV order el t b l=t∧ ∀g∈l,g.el=el->b<=rk order g.lang)∨ ∃f∈l,f.el=el∧fV order el t b l=f.text∧rk order f.lang<b∧ ∀g∈l,g.el=el->rk order f.lang<=rk order g.lang
 | [],t,b=> .inl ⟨rfl,by simp⟩
 | l::r,t,b=>by
  unfold fV;by_cases h:l.el=el∧rk order l.lang<b
  ·rw [if_pos h];right;rcases tJ order el r l.text (rk order l.lang) with ⟨h1,h2⟩ | ⟨f,hf,h1,h2,h3,h4⟩
   ·refine ⟨l,by simp,h.1,h1,h.2,fun g hg he=> ?_⟩;rcases aaQ.1 hg with rfl | hg
    ·exact acU _
    ·exact h2 g hg he
   ·refine ⟨f,by simp [hf],h1,h2,by omega,fun g hg he=> ?_⟩;rcases aaQ.1 hg with rfl | hg
    ·omega
    ·exact h4 g hg he
  ·rw [if_neg h];rcases tJ order el r t b with ⟨h1,h2⟩ | ⟨f,hf,h1,h2,h3,h4⟩
   ·refine .inl ⟨h1,fun g hg he=> ?_⟩;rcases aaQ.1 hg with rfl | hg
    ·omega
    ·exact h2 g hg he
   ·refine .inr ⟨f,by simp [hf],h1,h2,h3,fun g hg he=> ?_⟩;rcases aaQ.1 hg with rfl | hg
    ·omega
    ·exact h4 g hg he
theorem MY: ∀{l:List ae} {s:ae} {k:Nat},sQ l s=some k->k<l.length:=fun h=>by
 have:=DL h;exact (ab8.1 this).1
end Go.Proofs.YtfgbpngakkhdcaaGreatDoor
namespace Go.Proofs.YtfgbpngakkhdcaaGreatDoor
theorem xN: ∀(l pre:List ae),ik pre l=0->Diff l∧(∀s∈l,HK s=true)∧ ∀s∈l,s∉pre
 | [],_,_=>⟨trivial,by simp,by simp⟩
 | x::r,pre,h=>by
  unfold ik at h;split at h
  ·cases h
  ·rename_i h1;split at h
   ·cases h
   ·rename_i h2;obtain ⟨i1,i2,i3⟩:=xN r _ h;refine ⟨⟨fun hx=>i3 x hx (by simp),i1⟩,fun s hs=> ?_,fun s hs hp=> ?_⟩
    ·rcases aaQ.1 hs with rfl | hs
     ·simpa using h1
     ·exact i2 s hs
    ·rcases aaQ.1 hs with rfl | hs
     ·apply h2;unfold gP;rw [acq];exact ⟨s,hp,by simp⟩
     ·exact i3 s hs (by simp [hp])
theorem sA {e f:Int} {s t:ae} (h:pE e s f t=true):e<f∨e=f∧Lib.compareBytes s t<0:=by simpa [pE] using h
theorem DM {a b c:ae} (h1:Lib.compareBytes a b<0) (h2:Lib.compareBytes b c<0):Lib.compareBytes a c<0:=by
 have h:=DN a b c (by omega) (by omega);by_cases h0:Lib.compareBytes a c=0
 ·have:=(h.2 h0).1;omega
 ·omega
theorem xO {e f g:Int} {s t u:ae} (h1:pE e s f t=true) (h2:pE f t g u=true):pE e s g u=true:=by
 unfold pE;rw [decide_eq_true_eq];rcases sA h1 with h1 | h1 <;> rcases sA h2 with h2 | h2
 ·left;omega
 ·left;omega
 ·left;omega
 ·right;exact ⟨by omega,DM h1.2 h2.2⟩
theorem Hg {e f:Int} {s t:ae} (h:pE e s f t=true):e<f∨e=f∧s≠t:=by
 rcases sA h with h | h
 ·exact .inl h
 ·exact .inr ⟨h.1,fun hs=>by rw [hs,N6] at h;exact absurd h.2 (by decide)⟩
theorem N7 {af:List ae} {p:Option Lb} {l:Lb} (h:Ae af p l=0):gP af l.lang=true∧1<=l.el∧l.el<=64∧0<=l.ix∧l.ix<=3∧l.text≠ []∧l.text.length<=64∧ ∀q,p=some q->pE q.el q.lang l.el l.lang=true∧(q.el=l.el->q.ix=l.ix):=by
 unfold Ae at h;split at h
 ·cases h
 ·rename_i h1;split at h
  ·cases h
  ·rename_i h2;split at h
   ·cases h
   ·rename_i h3;refine ⟨by simpa using h2,by omega,by omega,by omega,by omega,fun h0=>by rw [h0] at h3;simp at h3,by omega,fun q hq=> ?_⟩;subst hq;simp only at h;split at h
    ·cases h
    ·rename_i h4;split at h
     ·cases h
     ·rename_i h5
      exact ⟨by simpa using h4,fun he=>by
       by_cases hi:q.ix=l.ix
       ·exact hi
       ·exact absurd ⟨he,hi⟩ h5⟩
structure N8 (af:List ae) (l:Lb):Prop where
 lang:gP af l.lang=true
 EP:1<=l.el
 JR:l.el<=64
 ix1:0<=l.ix
 ix2:l.ix<=3
 text:l.text≠ []
 len:l.text.length<=64
theorem zz {af:List ae}: ∀(l:List Lb) (p:Option Lb),jB af p l=0->
  R0 l∧(∀x∈l,N8 af x)∧(∀x∈l,∀q,p=some q->pE q.el q.lang x.el x.lang=true∧(q.el=x.el->q.ix=x.ix))∧ ∀x∈l,∀y∈l,x.el=y.el->x.ix=y.ix
 | [],_,_=>⟨trivial,by simp,by simp,by simp⟩
 | x::r,p,h=>by
  unfold jB at h;split at h
  ·rename_i h0;obtain ⟨a1,a2,a3,a4,a5,a6,a7,a8⟩:=N7 h0;obtain ⟨i1,i2,i3,i4⟩:=zz r _ h;have hx:N8 af x:=⟨a1,a2,a3,a4,a5,a6,a7⟩;refine ⟨⟨fun g hg he hl=> ?_,i1⟩,fun y hy=> ?_,fun y hy q hq=> ?_,fun y hy z hz he=> ?_⟩
   ·rcases Hg (i3 g hg x rfl).1 with h | h
    ·omega
    ·exact h.2 hl
   ·rcases aaQ.1 hy with rfl | hy
    ·exact hx
    ·exact i2 y hy
   ·rcases aaQ.1 hy with rfl | hy
    ·exact a8 q hq
    ·have e1:=a8 q hq;have e2:=i3 y hy x rfl;have e3:=xO e1.1 e2.1;refine ⟨e3,fun he=> ?_⟩
     have:q.el=x.el:=by
      rcases sA e1.1 with h1 | h1
      ·rcases sA e2.1 with h2 | h2 <;> omega
      ·exact h1.1
     rw [e1.2 this,e2.2 (by omega)]
   ·rcases aaQ.1 hy with hyx | hyr
    ·rcases aaQ.1 hz with hzx | hzr
     ·rw [hyx,hzx]
     ·rw [hyx] at he⊢;exact (i3 z hzr x rfl).2 he
    ·rcases aaQ.1 hz with hzx | hzr
     ·rw [hzx] at he⊢;exact ((i3 y hyr x rfl).2 he.symm).symm
     ·exact i4 y hyr z hzr he
  ·rename_i h0;exact absurd h h0
structure FV (af:List ae) (l:Fc):Prop where
 lang:gP af l.lang=true
 EP:1<=l.el
 JR:l.el<=64
 text:l.text≠ []
 len:l.text.length<=4096
theorem N9 {af:List ae} {p:Option Fc} {l:Fc} (h:BK af p l=0):FV af l∧ ∀q,p=some q->pE q.el q.lang l.el l.lang=true:=by
 unfold BK at h;split at h
 ·cases h
 ·rename_i h1;split at h
  ·cases h
  ·rename_i h2;split at h
   ·cases h
   ·rename_i h3;refine ⟨⟨by simpa using h2,by omega,by omega,fun h0=>by rw [h0] at h3;simp at h3,by omega⟩,fun q hq=> ?_⟩;subst hq;simp only at h;split at h
    ·cases h
    ·rename_i h4;simpa using h4
theorem zA {af:List ae}: ∀(l:List Fc) (p:Option Fc),jC af p l=0->
  Uj l∧(∀x∈l,FV af x)∧ ∀x∈l,∀q,p=some q->pE q.el q.lang x.el x.lang=true
 | [],_,_=>⟨trivial,by simp,by simp⟩
 | x::r,p,h=>by
  unfold jC at h;split at h
  ·rename_i h0;obtain ⟨hx,a8⟩:=N9 h0;obtain ⟨i1,i2,i3⟩:=zA r _ h;refine ⟨⟨fun g hg=>Hg (i3 g hg x rfl),i1⟩,fun y hy=> ?_,fun y hy q hq=> ?_⟩
   ·rcases aaQ.1 hy with rfl | hy
    ·exact hx
    ·exact i2 y hy
   ·rcases aaQ.1 hy with rfl | hy
    ·exact a8 q hq
    ·exact xO (a8 q hq) (i3 y hy x rfl)
  ·rename_i h0;exact absurd h h0
structure Ws (af:List ae) (s:Sh):Prop where
 u1:1<=s.unit
 u2:s.unit<=1073741824
 l1:1<=s.level
 l2:s.level<=4
 mark:s.mark.length<=64
 title:s.title≠ []
 BX:s.title.length<=64
 K8:s.facts.length<=32
 inc:Uj s.facts
 facts: ∀f∈s.facts,FV af f
theorem K9 {af:List ae} {l:List Fc} (h:pI af l=0):l.length<=32∧Uj l∧ ∀x∈l,FV af x:=by
 unfold pI at h;split at h
 ·cases h
 ·obtain ⟨h1,h2,_⟩:=zA l none h;exact ⟨by omega,h1,h2⟩
theorem Bl {pre:List Sh} {s:Sh} (h:mg pre s=0):1<=s.unit∧s.unit<=1073741824∧1<=s.level∧s.level<=4∧s.mark.length<=64∧s.title≠ []∧s.title.length<=64∧aY pre s.unit=none:=by
 unfold mg at h;split at h
 ·cases h
 ·split at h
  ·cases h
  ·rename_i h1;split at h
   ·cases h
   ·rename_i h2;refine ⟨by omega,by omega,by omega,by omega,by omega,fun h0=>by rw [h0] at h1;simp at h1,by omega,by simpa using h2⟩
theorem zB {af:List ae} {l:List Sh}: ∀(r:List Sh) (i:Nat),l.drop i=r->tH af l i r=0-> ∀(k:Nat) (s:Sh),i<=k->l[k]?=some s->DH af l k s=0
 | [],i,hd,_,k,s,hk,hs=>by
  have:=(ab8.1 hs).1;have h0:=acW.1 hd;omega
 | x::r,i,hd,h,k,s,hk,hs=>by
  unfold tH at h;split at h
  ·rename_i h0;by_cases hki:k=i
   ·subst hki;have:l[k]?=some x:=by rw [<-ac3,hd];rfl
    rw [this] at hs;cases hs;exact h0
   ·exact zB r (i+1) (by rw [<-ada,hd];rfl) h k s (by omega) hs
  ·rename_i h0;exact absurd h h0
theorem Oa {af:List ae} {l:List Sh} (h:vU af l=0):l.length<=256∧Valid l∧(∀s∈l,Ws af s)∧ ∀(k:Nat) (s:Sh),l[k]?=some s->(chain l k).length<=12:=by
 rw [K6] at h;unfold RZ at h;split at h
 ·cases h
 ·rename_i hlen;have key:=zB l 0 rfl h
  have one: ∀(k:Nat) (s:Sh),l[k]?=some s->mg (l.take k) s=0∧ ∃n,lj l k s=some n∧n<12∧pI af s.facts=0:=fun k s hs=>by
   have:=key k s (acH _) hs;unfold DH at this;split at this
   ·rename_i h1;refine ⟨h1,?_⟩;split at this
    ·cases this
    ·rename_i n hn;split at this
     ·cases this
     ·exact ⟨n,hn,by omega,this⟩
   ·rename_i h1;exact absurd this h1
  have hu:kf l:=fun i s hs=>(Bl (one i s hs).1).2.2.2.2.2.2.2;refine ⟨by omega,⟨hu,fun i s hs hp=> ?_,fun s hs=> ?_⟩,fun s hs=> ?_,fun k s hs=> ?_⟩
  ·obtain ⟨_,n,hn,_⟩:=one i s hs;unfold lj at hn;rw [if_neg hp] at hn;split at hn
   ·cases hn
   ·rename_i h0;split at hn
    ·rename_i hc;obtain ⟨j,t,h1,h2,h3⟩:=kJ (i-1) s.par (by simpa using hc);exact ⟨j,by rw [<-h3];exact zu hu h2 (by omega)⟩
    ·cases hn
  ·obtain ⟨i,hi⟩:=ac6.1 hs;exact (Bl (one i s hi).1).1
  ·obtain ⟨i,hi⟩:=ac6.1 hs;obtain ⟨h1,n,_,_,h4⟩:=one i s hi;obtain ⟨b1,b2,b3,b4,b5,b6,b7,_⟩:=Bl h1;obtain ⟨f1,f2,f3⟩:=K9 h4;exact ⟨b1,b2,b3,b4,b5,b6,b7,f1,f2,f3⟩
  ·obtain ⟨_,n,hn,hn2,_⟩:=one k s hs;rw [dW hs];unfold lj at hn;split
   ·simp
   ·rename_i hp;rw [if_neg hp] at hn;split at hn
    ·cases hn
    ·split at hn
     ·rename_i hc;cases hn;split
      ·rename_i j hj;rw [hj] at hn2;have hn3:(chain l j).length<12:=hn2;simp only [aaH];omega
      ·simp
     ·cases hn
structure gl (c:Ct):Prop where
 l1:1<=c.af.length
 l2:c.af.length<=8
 diff:Diff c.af
 two: ∀s∈c.af,HK s=true
 aaI:c.aD.length<=256
 aaJ:R0 c.aD
 aD: ∀x∈c.aD,N8 c.af x
 kinds: ∀x∈c.aD,∀y∈c.aD,x.el=y.el->x.ix=y.ix
 JP:c.ao.length<=256
 valid:Valid c.ao
 ao: ∀s∈c.ao,Ws c.af s
 deep: ∀(k:Nat) (s:Sh),c.ao[k]?=some s->(chain c.ao k).length<=12
theorem cJ {c:Ct} (h:iE c=0):gl c:=by
 unfold iE at h;split at h
 ·rename_i h1;split at h
  ·rename_i h2;unfold qa at h1;split at h1
   ·cases h1
   ·unfold vQ at h2;split at h2
    ·cases h2
    ·obtain ⟨d1,d2,_⟩:=xN _ _ h1;obtain ⟨b1,b2,_,b4⟩:=zz _ _ h2;obtain ⟨s1,s2,s3,s4⟩:=Oa h;exact ⟨by omega,by omega,d1,d2,by omega,b1,b2,b4,s1,s2,s3,s4⟩
  ·rename_i h2;exact absurd h h2
 ·rename_i h1;exact absurd h h1
end Go.Proofs.YtfgbpngakkhdcaaGreatDoor
namespace Go.Proofs.YtfgbpngakkhdcaaGreatDoor
def re (acc:Nat):ae->Option Nat
 | []=>some acc
 | c::r=>if 48<=c.toNat∧c.toNat<=57 then (if 1099511627775<acc*10+(c.toNat-48) then none else re (acc*10+(c.toNat-48)) r) else none
def vx (s:ae):Option Nat:=if s= [] then none else re 0 s
def qe (s:ae):Int×Int:=
 if Lib.indexByte s 93<2∨11<Lib.indexByte s 93∨s.getD 1 0=48 then (0,0) else
 match vx ((s.take (Lib.indexByte s 93).toNat).drop 1) with
 | some n=>if 1073741824<n then (0,0) else ((n:Int),Lib.indexByte s 93+1)
 | none=>(0,0)
def vt:ae->Nat->Nat->Option (Nat×Nat)
 | [],_,_=>none
 | c::r,n,k=>if 48<=c.toNat∧c.toNat<=57 then (if 1073741824<10*n+(c.toNat-48) then none else vt r (10*n+(c.toNat-48)) (k+1)) else if c=93 then some (n,k+1) else none
def aj (s:ae):Int×Int:=
 if s.length<3∨s.getD 0 0≠91∨ ¬ (49<=(s.getD 1 0).toNat∧(s.getD 1 0).toNat<=57) then (0,0) else
 match vt (s.drop 1) 0 1 with
 | some (n,k)=>((n:Int),(k:Int))
 | none=>(0,0)
theorem Bm: ∀(u:ae) (n m:Nat),re n u=some m->n*10^u.length<=m
 | [],n,m,h=>by cases h;simp
 | c::r,n,m,h=>by
  unfold re at h;split at h
  ·split at h
   ·cases h
   ·have:=Bm r _ m h;rw [aaH,adk];have h2:n*(10^r.length*10)=(n*10)*10^r.length:=by rw [acO (10^r.length) 10,adi]
    rw [h2];exact abd (acF _ (by omega)) this
  ·cases h
theorem Ob (u:ae) (n m:Nat) (h:re n u=some m):n<=m:=by have:=Bm u n m h;exact abd (Nat.le_mul_of_pos_right n (Nat.pow_pos (by decide))) this
theorem zC: ∀(t:ae) (n k:Nat),(93:UInt8)∉t->vt t n k=none
 | [],_,_,_=>rfl
 | c::r,n,k,h=>by
  simp only [aaQ,not_or] at h;unfold vt;split
  ·split
   ·rfl
   ·exact zC r _ _ h.2
  ·rw [if_neg (fun hc=>h.1 hc.symm)]
theorem Hh: ∀(u v:ae) (n k:Nat),(93:UInt8)∉u->n<=1073741824->vt (u++93::v) n k=match re n u with
  | some m=>if 1073741824<m then none else some (m,k+u.length+1)
  | none=>none
 | [],v,n,k,_,hn=>by
  simp only [List.nil_append,re];unfold vt;rw [if_neg (by decide),if_pos rfl,if_neg (by omega)];rfl
 | c::r,v,n,k,h,hn=>by
  simp only [aaQ,not_or] at h;rw [abI];unfold vt re;by_cases hd:48<=c.toNat∧c.toNat<=57
  ·rw [if_pos hd,if_pos hd,acO 10 n];by_cases hb:1073741824<n*10+(c.toNat-48)
   ·rw [if_pos hb];split
    ·rename_i m hm;split at hm
     ·cases hm
     ·have:=Ob _ _ _ hm;rw [if_pos (by omega)]
    ·rfl
   ·rw [if_neg hb,if_neg (show¬ 1099511627775<n*10+(c.toNat-48) by omega),Hh r v _ (k+1) h.2 (by omega)];simp only [aaH];split
    ·split
     ·rfl
     ·congr 2;omega
    ·rfl
  ·rw [if_neg hd,if_neg hd,if_neg (fun hc=>h.1 hc.symm)]
theorem DO: ∀(t:ae),(93:UInt8)∉t->Lib.indexByte t 93= -1
 | [],_=>rfl
 | c::r,h=>by
  simp only [aaQ,not_or] at h;have hc:(c==93)=false:=by simpa using fun h'=>h.1 h'.symm
  rw [Lib.indexByte,hc,DO r h.2];rfl
theorem DP: ∀(u v:ae),(93:UInt8)∉u->Lib.indexByte (u++93::v) 93=(u.length:Int)
 | [],v,_=>by simp [Lib.indexByte]
 | c::r,v,h=>by
  simp only [aaQ,not_or] at h;have hc:(c==93)=false:=by simpa using fun h'=>h.1 h'.symm
  rw [abI,Lib.indexByte,hc,DP r v h.2];have:((r.length:Int)== -1)=false:=by simp
  rw [this];simp
theorem DQ: ∀(t:ae),(93:UInt8)∈t-> ∃u v,t=u++93::v∧(93:UInt8)∉u
 | c::r,h=>by
  by_cases hc:c=93
  ·exact ⟨[],r,by rw [hc];rfl,by simp⟩
  ·rcases aaQ.1 h with h | h
   ·exact absurd h.symm hc
   ·obtain ⟨u,v,h1,h2⟩:=DQ r h;exact ⟨c::u,v,by rw [h1];rfl,by simp only [aaQ,not_or];exact ⟨fun h=>hc h.symm,h2⟩⟩
theorem qf (t:ae):qe (91::t)=aj (91::t):=by
 by_cases h:(93:UInt8)∈t
 ·obtain ⟨u,v,rfl,hu⟩:=DQ t h
  have hi:Lib.indexByte (91::(u++93::v)) 93=((u.length+1:Nat):Int):=by have:=DP (91::u) v (by simp only [aaQ,not_or];exact ⟨by decide,hu⟩);rw [abI] at this;rw [this];rfl
  unfold qe aj;rw [hi];cases u with
  | nil=>simp
  | cons c r=>
   have g1:(91::(c::r++93::v)).getD 1 0=c:=rfl;have g0:(91::(c::r++93::v)).getD 0 0=91:=rfl;rw [g1,g0]
   have htake:((91::(c::r++93::v)).take (((c::r).length+1:Nat):Int).toNat).drop 1=c::r:=by rw [Int.toNat_natCast,adf,acX,acY,List.take_left]
   rw [htake];have hgo:=Hh (c::r) v 0 1 hu (by decide);have hdrop:(91::(c::r++93::v)).drop 1=c::r++93::v:=rfl;rw [hdrop,hgo];have hlen: ¬ (91::(c::r++93::v)).length<3:=by simp;omega
   unfold vx;rw [if_neg (show¬ c::r= [] by simp)];by_cases hd:49<=c.toNat∧c.toNat<=57
   ·have hc48:c≠48:=fun h=>by subst h;exact absurd hd.1 (by decide)
    rw [if_neg (show¬ ((91::(c::r++93::v)).length<3∨(91:UInt8)≠91∨ ¬ (49<=c.toNat∧c.toNat<=57)) by
     simp only [not_or,Classical.not_not];exact ⟨hlen,trivial,hd⟩)]
    by_cases hl:r.length<=9
    ·rw [if_neg (show¬ ((((c::r).length+1:Nat):Int)<2∨11<(((c::r).length+1:Nat):Int)∨c=48) by
      simp only [aaH,not_or];exact ⟨by omega,by omega,hc48⟩)]
     cases hn:re 0 (c::r) with
     | none=>rfl
     | some m=>
      simp only;by_cases hm:1073741824<m
      ·rw [if_pos hm,if_pos hm]
      ·rw [if_neg hm,if_neg hm];simp only [aaH];congr 1;omega
    ·rw [if_pos (show ((((c::r).length+1:Nat):Int)<2∨11<(((c::r).length+1:Nat):Int)∨c=48) by
      simp only [aaH];right;left;omega)]
     cases hn:re 0 (c::r) with
     | none=>rfl
     | some m=>
      have h1:=hn;unfold re at h1;rw [if_pos (by omega),if_neg (by omega)] at h1;have h2:=Bm _ _ _ h1;have h3:(10:Nat)^10<=10^r.length:=adj (by decide) (by omega);have h4:1*10^r.length<=(0*10+(c.toNat-48))*10^r.length:=acF _ (by omega);have h5:(10:Nat)^10=10000000000:=by decide
      simp only;rw [if_pos (show 1073741824<m by omega)]
   ·rw [if_pos (show ((91::(c::r++93::v)).length<3∨(91:UInt8)≠91∨ ¬ (49<=c.toNat∧c.toNat<=57)) from Or.inr (Or.inr hd))];by_cases hb:(((c::r).length+1:Nat):Int)<2∨11<(((c::r).length+1:Nat):Int)∨c=48
    ·rw [if_pos hb]
    ·rw [if_neg hb]
     have hc: ¬ (48<=c.toNat∧c.toNat<=57):=fun h=>by
      have:c=48:=UInt8.toNat_inj.1 (by show c.toNat=48;have h6:=h.1;have h7:=h.2;omega);exact hb (.inr (.inr this))
     rw [re,if_neg hc]
 ·have hi:Lib.indexByte (91::t) 93= -1:=DO _ (by simp only [aaQ,not_or];exact ⟨by decide,h⟩);unfold qe aj;rw [hi,if_pos (.inl (by decide))];split
  ·rfl
  ·have:=zC t 0 1 h;rw [acX,acY,this]
def An (s:ae):Int×Int:=if s.getD 0 0≠91 then (0,0) else qe s
theorem uW: ∀{s:ae},s≠ []->An s=aj s
 | c::t,_=>by
  unfold An;by_cases h:c=91
  ·subst h;rw [if_neg (by simp),qf]
  ·have h0:(c::t).getD 0 0≠91:=h;rw [if_pos h0];unfold aj;rw [if_pos (.inr (.inl h0))]
theorem DR: ∀(t:ae) (n k a b:Nat),vt t n k=some (a,b)->n<=a∧k<b∧b<=k+t.length∧a<=1073741824∨(n<=a∧k<b∧b<=k+t.length∧a=n)
 | [],_,_,_,_,h=>by cases h
 | c::r,n,k,a,b,h=>by
  unfold vt at h;split at h
  ·split at h
   ·cases h
   ·rename_i hb;rcases DR r _ _ a b h with h | h
    ·left;simp only [aaH];omega
    ·left;simp only [aaH];omega
  ·split at h
   ·cases h;right;exact ⟨aa0 _,Nat.lt_succ_self _,by simp only [aaH];omega,rfl⟩
   ·cases h
theorem dt (s:ae):aj s=(0,0)∨(1<=(aj s).1∧(aj s).1<=1073741824∧2<=(aj s).2∧(aj s).2<=s.length∧s.getD 0 0=91):=by
 unfold aj;split
 ·exact .inl rfl
 ·rename_i h;simp only [not_or,Classical.not_not] at h;split
  ·rename_i n k hg;right;obtain ⟨h1,h2,h3⟩:=h
   match s,h1,h2,h3,hg with
   | a::c::r,h1,h2,h3,hg=>
    have g1:(a::c::r).getD 1 0=c:=rfl;rw [g1] at h3;have g2:(a::c::r).drop 1=c::r:=rfl;rw [g2] at hg;unfold vt at hg;rw [if_pos (show 48<=c.toNat∧c.toNat<=57 by omega)] at hg;split at hg
    ·cases hg
    ·have:=DR _ _ _ _ _ hg;simp only [aaH];refine ⟨by omega,by omega,by omega,by omega,h2⟩
   | [a],h1,_,_,_=>exact absurd (by simp) h1
   | [],h1,_,_,_=>exact absurd (by simp) h1
  ·exact .inl rfl
end Go.Proofs.YtfgbpngakkhdcaaGreatDoor
namespace Go.Proofs.YtfgbpngakkhdcaaGreatDoor
def eZ (l:List Sh) (u:Int):ae:=
 match aY l u with
 | none=> [63]
 | some i=>match l[i]? with
  | some s=>if s.mark= [] then s.title else s.mark++ [32]++s.title
  | none=> []
def bV (cite:Int->ae) (s:ae):ae:=
 match s with
 | []=> []
 | c::r=>if h:(aj (c::r)).2=0 then c::bV cite r else cite (aj (c::r)).1++bV cite ((c::r).drop (aj (c::r)).2.toNat)
termination_by s.length
decreasing_by
 ·simp
 ·rcases dt (c::r) with h' | h'
  ·exact absurd (by rw [h']) h
  ·simp only [abb,aaH] at*;omega
theorem kq (cite:Int->ae):bV cite []= []:=by rw [bV]
theorem mi (cite:Int->ae) (c:UInt8) (r:ae) (h:(aj (c::r)).2=0):bV cite (c::r)=c::bV cite r:=by rw [bV,dif_pos h]
theorem kY (cite:Int->ae) (s:ae) (h:(aj s).2≠0):bV cite s=cite (aj s).1++bV cite (s.drop (aj s).2.toNat):=by
 cases s with
 | nil=>exact absurd rfl h
 | cons c r=>rw [bV,dif_neg h]
structure Nd where
 depth:Int
 tag:ae
 text:ae
structure mm where
 unit:Int
 num:ae
 nodes:List Nd
instance:DecidableEq Nd:=fun a b=>decidable_of_iff (a.depth=b.depth∧a.tag=b.tag∧a.text=b.text) (by cases a;cases b;simp)
instance:DecidableEq mm:=fun a b=>decidable_of_iff (a.unit=b.unit∧a.num=b.num∧a.nodes=b.nodes) (by cases a;cases b;simp)
def g8 (level:Int):ae:=if level=1 then [102,111,110,100,115] else if level=2 then [115,101,114,105,101,115] else if level=3 then [102,105,108,101] else [105,116,101,109]
def cy (s:ae):Nat:=s.count 46
def yK (d:Int) (s:Sh):List Nd:=if s.mark= [] then [] else [⟨d, [109,97,114,107],s.mark⟩]
def gd (it:Int->ae) (el:Int):ae:= [101,108,101,109,101,110,116,32]++it el
def yL (it:Int->ae) (order:List ae) (c:Ct) (d:Int) (f:Fc):Nd:=⟨d, [112],gz order c.aD f.el (gd it f.el)++ [58,32]++bV (eZ c.ao) f.text⟩
def kZ (it:Int->ae) (order:List ae) (c:Ct) (x:Sh×ae):mm:=
 ⟨x.1.unit,x.2,⟨cy x.2,g8 x.1.level,x.2++ [32]++x.1.title⟩::(yK (cy x.2+1) x.1++(an order x.1.facts).map (yL it order c (cy x.2+1)))⟩
def eh (it:Int->ae) (c:Ct) (root:Int) (lang:ae):List mm:=(bK it root ⟨[], []⟩ c.ao).map (kZ it (au c.af lang) c)
theorem pf {it:Int->ae} {l:List Sh} {root:Int}: ∀(r:List Sh) (i:Nat) (x:Sh×ae),x∈fP it l root i r->x.1∈r
 | [],_,_,h=>by cases h
 | s::r,i,x,h=>by
  unfold fP at h;split at h
  ·rcases aaQ.1 h with rfl | h
   ·simp
   ·simp [pf r _ x h]
  ·simp [pf r _ x h]
def fE (u:Int):ae->List (Sh×ae)->ae
 | f, []=>f
 | f,x::r=>if x.1.unit=u then fE u x.2 r else fE u f r
def cP (it:Int->ae) (c:Ct) (root u:Int):ae:=fE u [] (bK it root ⟨[], []⟩ c.ao)
def pg (it:Int->ae) (c:Ct) (root u:Int):ae:=match aY c.ao u with
 | some i=>if sy c.ao root i=true then oC it c.ao root i else []
 | none=> []
theorem tK {u:Int}: ∀(r:List (Sh×ae)) (f:ae),(∀x∈r,x.1.unit≠u)->fE u f r=f
 | [],_,_=>rfl
 | x::r,f,h=>by
  unfold fE;rw [if_neg (h x (by simp)),tK r f (fun y hy=>h y (by simp [hy]))]
theorem DS {it:Int->ae} {l:List Sh} (hu:kf l) (root u:Int): ∀(r:List Sh) (i:Nat) (f:ae),l.drop i=r->
  fE u f (fP it l root i r)=match aY r u with
   | some j=>if sy l root (i+j)=true then oC it l root (i+j) else f
   | none=>f
 | [],_,_,_=>rfl
 | s::r,i,f,hd=>by
  have hs:l[i]?=some s:=by rw [<-ac3,hd];rfl
  have hd':l.drop (i+1)=r:=by rw [<-ada,hd];rfl
  have hno: ∀x∈r,x.unit≠s.unit:=fun x hx hxu=>by
   obtain ⟨k,hk⟩:=ac6.1 hx;rw [<-hd',List.getElem?_drop] at hk;have:=lV hu hk hs hxu;omega
  unfold fP;by_cases h1:s.unit=u
  ·have hi:aY (s::r) u=some 0:=by rw [aY,if_pos h1]
   rw [hi];simp only [Nat.add_zero];by_cases h2:sy l root i=true
   ·rw [if_pos h2,if_pos h2,fE,if_pos h1];refine tK _ _ fun x hx=> ?_;have:=hno _ (pf _ _ x hx);rw [<-h1];exact this
   ·rw [if_neg h2,if_neg h2];refine tK _ _ fun x hx=> ?_;have:=hno _ (pf _ _ x hx);rw [<-h1];exact this
  ·have hi:aY (s::r) u=(aY r u).map (· +1):=by rw [aY,if_neg h1]
   have ih:=DS (it:=it) hu root u r (i+1) f hd';rw [hi]
   have e:fE u f (if sy l root i=true then (s,oC it l root i)::fP it l root (i+1) r else fP it l root (i+1) r)=fE u f (fP it l root (i+1) r):=by
    split
    ·rw [fE,if_neg h1]
    ·rfl
   rw [e,ih];cases aY r u with
   | none=>rfl
   | some j=>simp only [aa1];rw [show i+1+j=i+(j+1) by omega]
theorem kK {c:Ct} (h:gl c) (it:Int->ae) (root u:Int):cP it c root u=pg it c root u:=by
 unfold cP pg;rw [ig it h.valid root,DS h.valid.uniq root u c.ao 0 [] rfl];cases aY c.ao u with
 | none=>rfl
 | some j=>simp only [Nat.zero_add]
theorem Hi {it:Int->ae} {l:List Sh} {root:Int} {i:Nat} {s:Sh} (h:l[i]?=some s):oC it l root i≠ []:=by
 rw [tI it h];split
 ·simp
 ·simp
end Go.Proofs.YtfgbpngakkhdcaaGreatDoor
namespace Go.Proofs.YtfgbpngakkhdcaaGreatDoor
def eO:ae->Option (ae×ae)
 | []=>none
 | c::r=>if c=32 then some ([],r) else (eO r).map fun p=>(c::p.1,p.2)
theorem sB: ∀(a b:ae),(32:UInt8)∉a->eO (a++32::b)=some (a,b)
 | [],b,_=>by simp [eO]
 | c::r,b,h=>by
  simp only [aaQ,not_or] at h;rw [abI,eO,if_neg (fun hc=>h.1 hc.symm),sB r b h.2];rfl
theorem gj: ∀{s a b:ae},eO s=some (a,b)->s=a++32::b∧(32:UInt8)∉a
 | c::r,a,b,h=>by
  unfold eO at h;split at h
  ·rename_i hc;cases h;exact ⟨by rw [hc];rfl,by simp⟩
  ·rename_i hc;cases hr:eO r with
   | none=>rw [hr] at h;cases h
   | some p=>rw [hr] at h;simp only [aa1,Option.some.injEq,Prod.mk.injEq] at h;obtain ⟨rfl,rfl⟩:=h;obtain ⟨h1,h2⟩:=gj (a:=p.1) (b:=p.2) hr;exact ⟨by rw [h1];rfl,by simp only [aaQ,not_or];exact ⟨fun h=>hc h.symm,h2⟩⟩
def vj (acc:Nat):ae->Option Nat
 | []=>some acc
 | c::r=>if 48<=c.toNat∧c.toNat<=57 then (if 65535<acc*10+(c.toNat-48) then none else vj (acc*10+(c.toNat-48)) r) else none
def kp (s:ae):Option Nat:=if s= [] then none else vj 0 s
def kL (unesc:ae->Option ae) (line:ae):Option (Nat×ae):=
 match eO line with
 | some (num,rest)=>match kp num,unesc rest with
  | some n,some t=>if t= []∨num.getD 0 0=48∨64<n then none else some (n,t)
  | _,_=>none
 | none=>none
def ny (n:Nat):ae:=if n<10 then [UInt8.ofNat (48+n)] else [UInt8.ofNat (48+n / 10),UInt8.ofNat (48+n%10)]
theorem FX:((List.range 65).all fun n=>n==0 || (kp (ny n)==some n&&(!(ny n).contains 32&& !((ny n).getD 0 0==48))))=true:=by decide+kernel
theorem Oc {n:Nat} (h1:1<=n) (h2:n<=64):kp (ny n)=some n∧(32:UInt8)∉ny n∧(ny n).getD 0 0≠48:=by
 have:=abH.1 FX n (abl.2 (by omega));have h0:(n==0)=false:=by simp;omega
 simp only [h0,abE,abj,beq_iff_eq,Bool.not_eq_true',List.contains_eq_mem,decide_eq_false_iff_not] at this;exact ⟨this.1,this.2.1,by simpa using this.2.2⟩
theorem Hj: ∀(u:ae) (n m:Nat),vj n u=some m->n*10^u.length<=m
 | [],n,m,h=>by cases h;simp
 | c::r,n,m,h=>by
  unfold vj at h;split at h
  ·split at h
   ·cases h
   ·have:=Hj r _ m h;rw [aaH,adk];have h2:n*(10^r.length*10)=(n*10)*10^r.length:=by rw [acO (10^r.length) 10,adi]
    rw [h2];exact abd (acF _ (by omega)) this
  ·cases h
theorem Od {s:ae} {n:Nat} (h:kp s=some n) (h0:s.getD 0 0≠48) (hn:n<=64):s=ny n∧1<=n:=by
 unfold kp at h;split at h
 ·cases h
 ·rename_i hne
  match s,hne,h,h0 with
  | [c],_,h,h0=>
   unfold vj at h;split at h
   ·rename_i hc;split at h
    ·cases h
    ·simp only [vj,Option.some.injEq] at h;have h0':c.toNat≠48:=fun hh=>h0 (UInt8.toNat_inj.1 (by show c.toNat=48;exact hh));refine ⟨?_,by omega⟩;unfold ny;rw [if_pos (by omega)];congr 1;apply UInt8.toNat_inj.1;rw [UInt8.toNat_ofNat'];omega
   ·cases h
  | [c,d],_,h,h0=>
   unfold vj at h;split at h
   ·rename_i hc;split at h
    ·cases h
    ·unfold vj at h;split at h
     ·rename_i hd;split at h
      ·cases h
      ·simp only [vj,Option.some.injEq] at h;have h0':c.toNat≠48:=fun hh=>h0 (UInt8.toNat_inj.1 (by show c.toNat=48;exact hh));refine ⟨?_,by omega⟩;unfold ny;rw [if_neg (by omega)]
       have e1:c=UInt8.ofNat (48+n / 10):=by apply UInt8.toNat_inj.1;rw [UInt8.toNat_ofNat'];omega
       have e2:d=UInt8.ofNat (48+n%10):=by apply UInt8.toNat_inj.1;rw [UInt8.toNat_ofNat'];omega
       rw [<-e1,<-e2]
     ·cases h
   ·cases h
  | c::d::e::r,_,h,h0=>
   exfalso;unfold vj at h;split at h
   ·rename_i hc;split at h
    ·cases h
    ·have hg:=Hj _ _ _ h;have h0':c.toNat≠48:=fun hh=>h0 (UInt8.toNat_inj.1 (by show c.toNat=48;exact hh));have hp:(10:Nat)^2<=10^(d::e::r).length:=adj (by decide) (by simp);have hm:1*10^(d::e::r).length<=(0*10+(c.toNat-48))*10^(d::e::r).length:=acF _ (by omega);omega
   ·cases h
end Go.Proofs.YtfgbpngakkhdcaaGreatDoor
namespace Go.Proofs.YtfgbpngakkhdcaaGreatDoor
set_option maxRecDepth 10000
set_option maxHeartbeats 4000000
def splitB (c:UInt8):List UInt8->List (List UInt8)
 | []=> [[]]
 | x::s=>if x=c then []::splitB c s else match splitB c s with
  | p::r=>(x::p)::r
  | []=> [[x]]
theorem zD (c:UInt8): ∀s,splitB c s≠ []
 | []=>by simp [splitB]
 | x::s=>by
  simp only [splitB];split
  ·simp
  ·split <;> simp
theorem zF {c:UInt8}: ∀{s:List UInt8},c∉s->splitB c s= [s]
 | [],_=>rfl
 | x::s,h=>by
  simp only [aaQ,not_or] at h;simp only [splitB,if_neg (Ne.symm h.1),zF h.2]
theorem qM {c:UInt8}: ∀{a:List UInt8} (s:List UInt8),c∉a->splitB c (a++c::s)=a::splitB c s
 | [],s,_=>by simp [splitB]
 | x::a,s,h=>by
  simp only [aaQ,not_or] at h;simp only [abI,splitB,if_neg (Ne.symm h.1),qM s h.2]
theorem jo (c:UInt8): ∀s:List UInt8,(splitB c s).length=s.count c+1
 | []=>by simp [splitB]
 | x::s=>by
  have:=jo c s;simp only [splitB];split
  ·rename_i h;subst h;simp [this]
  ·rename_i h;rw [List.count_cons_of_ne h];split
   ·rename_i h;rw [h] at this;simp at this⊢;omega
   ·rename_i h;exact absurd h (zD c s)
theorem sC {c:UInt8}: ∀(l:List (List UInt8)),(∀p∈l,c∉p)->splitB c (l.flatMap fun p=>p++ [c])=l++ [[]]
 | [],_=>rfl
 | p::r,hp=>by
  rw [abr,List.append_assoc,List.singleton_append,qM _ (hp p List.mem_cons_self),sC r (fun x hx=>hp x (abO _ hx))];rfl
end Go.Proofs.YtfgbpngakkhdcaaGreatDoor
namespace Go.Proofs.YtfgbpngakkhdcaaGreatDoor
theorem xP: ∀(u:ae),splitB 10 (u++ [10])=splitB 10 u++ [[]]
 | []=>by simp [splitB]
 | x::s=>by
  rw [abI];unfold splitB;rw [xP s];split
  ·rfl
  ·cases hs:splitB 10 s with
   | nil=>exact absurd hs (zD 10 s)
   | cons p r=>rfl
def tL (v:ae):Option (List ae):=if v.getLast?=some 10 then some (splitB 10 v.dropLast) else none
def jq (n:Nat):ae:=if n=1 then [102,111,110,100,115] else if n=2 then [115,101,114,105,101,115] else if n=3 then [102,105,108,101] else [105,116,101,109]
def j0 (w:ae):Nat:=if w=jq 1 then 1 else if w=jq 2 then 2 else if w=jq 3 then 3 else if w=jq 4 then 4 else 0
def uX (unesc:ae->Option ae) (l:ae):Option (Nat×ae):=
 match eO l with
 | some (w,r)=>match unesc r with
  | some t=>if j0 w=0∨t= [] then none else some (j0 w,t)
  | none=>none
 | none=>none
theorem FY:(32:UInt8)∉jq 1∧(32:UInt8)∉jq 2∧(32:UInt8)∉jq 3∧(32:UInt8)∉jq 4:=by decide
def oD:ae:= [109,97,114,107]
def uY (unesc:ae->Option ae) (l:ae):Option ae:=
 match eO l with
 | some (w,r)=>if w=oD then unesc r else none
 | none=>none
def j4 (unesc:ae->Option ae):Nat->List ae->Option (List (Nat×ae))
 | _, []=>some []
 | last,l::r=>match kL unesc l with
  | some (n,t)=>if n<=last then none else (j4 unesc n r).map ((n,t):: ·)
  | none=>none
structure YE where
 level:Nat
 title:ae
 mark:ae
 facts:List (Nat×ae)
def oE (hd:ae->Option (Nat×ae)) (mk:ae->Option ae) (fs:List ae->Option (List (Nat×ae))):Option (List ae)->Option YE
 | some (a::b::r)=>match hd a,mk b,fs r with
  | some (n,t),some m,some f=>some ⟨n,t,m,f⟩
  | _,_,_=>none
 | _=>none
def gK (unesc:ae->Option ae) (v:ae):Option YE:=oE (uX unesc) (uY unesc) (j4 unesc 0) (tL v)
end Go.Proofs.YtfgbpngakkhdcaaGreatDoor
namespace Go.Proofs.YtfgbpngakkhdcaaGreatDoor
theorem DT: ∀(l:List ae),l≠ []-> ∃u,(l.flatMap fun p=>p++ [(10:UInt8)])=u++ [10]
 | [p],_=>⟨p,by simp⟩
 | p::q::r,_=>by
  obtain ⟨u,hu⟩:=DT (q::r) (by simp);exact ⟨p++ [10]++u,by rw [abr,hu];simp⟩
theorem uZ {l:List ae} (hl:l≠ []) (h: ∀p∈l,(10:UInt8)∉p):tL (l.flatMap fun p=>p++ [10])=some l:=by have h1:=sC l h;obtain ⟨u,hu⟩:=DT l hl;unfold tL;rw [hu] at h1⊢;rw [xP] at h1;have h2:=List.append_cancel_right h1;simp [h2]
section
variable (esc:ae->ae) (unesc:ae->Option ae)
def u3 (f:Nat×ae):ae:=ny f.1++32::esc f.2
def gL (lev:Nat) (title mark:ae) (facts:List (Nat×ae)):List ae:=(jq lev++32::esc title)::(oD++32::esc mark)::facts.map (u3 esc)
def u4 (lev:Nat) (title mark:ae) (facts:List (Nat×ae)):ae:=(gL esc lev title mark facts).flatMap fun p=>p++ [10]
def Oe:Nat->List (Nat×ae)->Prop
 | _, []=>True
 | last,f::r=>last<f.1∧f.1<=64∧f.2≠ []∧Oe f.1 r
variable {esc unesc} (h1: ∀s,unesc (esc s)=some s) (h2: ∀s,(10:UInt8)∉esc s)
include h1
theorem FZ {n:Nat} {t:ae} (hn1:1<=n) (hn2:n<=64) (ht:t≠ []):kL unesc (u3 esc (n,t))=some (n,t):=by obtain ⟨d1,d2,d3⟩:=Oc hn1 hn2;unfold kL u3;rw [sB _ _ d2];simp only [d1,h1];rw [if_neg (by simp only [not_or];exact ⟨ht,d3,by omega⟩)]
theorem sD: ∀(l:List (Nat×ae)) (last:Nat),Oe last l->j4 unesc last (l.map (u3 esc))=some l
 | [],_,_=>rfl
 | (n,t)::r,last,h=>by
  obtain ⟨a1,a2,a3,a4⟩:=h;simp only at a1 a2 a3 a4;rw [aaM,j4,FZ h1 (by omega) a2 a3];simp only;rw [if_neg (by omega),sD r n a4];rfl
theorem F0 {lev:Nat} (hl1:1<=lev) (hl2:lev<=4) {t:ae} (ht:t≠ []):uX unesc (jq lev++32::esc t)=some (lev,t):=by
 obtain ⟨t1,t2,t3,t4⟩:=FY
 have hno:(32:UInt8)∉jq lev∧j0 (jq lev)=lev:=by
  have:lev=1∨lev=2∨lev=3∨lev=4:=by omega
  rcases this with rfl | rfl | rfl | rfl
  ·exact ⟨t1,by decide⟩
  ·exact ⟨t2,by decide⟩
  ·exact ⟨t3,by decide⟩
  ·exact ⟨t4,by decide⟩
 unfold uX;rw [sB _ _ hno.1];simp only [h1,hno.2];rw [if_neg (by simp only [not_or];exact ⟨by omega,ht⟩)]
theorem F1 (m:ae):uY unesc (oD++32::esc m)=some m:=by unfold uY;rw [sB _ _ (by decide)];simp only [if_true,h1]
include h2
theorem DU: ∀(lev:Nat) (title mark:ae) (facts:List (Nat×ae)),(∀f∈facts,1<=f.1∧f.1<=64)-> ∀p∈gL esc lev title mark facts,(10:UInt8)∉p:=by
 intro lev title mark facts hf p hp
 have htag: ∀n,(10:UInt8)∉jq n:=fun n=>by
  unfold jq
  repeat' split
  all_goals decide
 have hmark:(10:UInt8)∉oD:=by decide
 have hdec:((List.range 65).all fun n=> !(ny n).contains 10)=true:=by decide+kernel
 unfold gL at hp;simp only [aaQ,aaS] at hp;rcases hp with rfl | rfl | ⟨f,hfm,rfl⟩
 ·simp only [abN,aaQ,not_or];exact ⟨htag lev,by decide,h2 title⟩
 ·simp only [abN,aaQ,not_or];exact ⟨hmark,by decide,h2 mark⟩
 ·have:=abH.1 hdec f.1 (abl.2 (by have:=(hf f hfm).2;omega));unfold u3;simp only [abN,aaQ,not_or];exact ⟨by simpa using this,by decide,h2 f.2⟩
theorem zG: ∀(l:List (Nat×ae)) (last:Nat),Oe last l-> ∀f∈l,1<=f.1∧f.1<=64
 | [],_,_,f,hf=>by cases hf
 | g::r,last,h,f,hf=>by
  obtain ⟨a1,a2,a3,a4⟩:=h;rcases aaQ.1 hf with rfl | hf
  ·exact ⟨by omega,a2⟩
  ·exact zG r _ a4 f hf
theorem kM {lev:Nat} (hl1:1<=lev) (hl2:lev<=4) {title mark:ae} (ht:title≠ []) {facts:List (Nat×ae)} (hf:Oe 0 facts):gK unesc (u4 esc lev title mark facts)=some ⟨lev,title,mark,facts⟩:=by unfold gK u4;rw [uZ (by simp [gL]) (DU h1 h2 lev title mark facts (zG h1 h2 facts 0 hf))];unfold gL oE;simp only [F0 h1 hl1 hl2 ht,F1 h1,sD h1 facts 0 hf]
end
end Go.Proofs.YtfgbpngakkhdcaaGreatDoor
namespace Go.Proofs.YtfgbpngakkhdcaaGreatDoor
def La:Int->List Fc->Prop
 | _, []=>True
 | last,f::r=>last<f.el∧La f.el r
theorem tM (order:List ae): ∀(r:List Fc) (cur:Fc) (last:Int),last<cur.el->Uj (cur::r)->La last (gy order cur r)
 | [],cur,last,h,_=>⟨h,trivial⟩
 | f::r,cur,last,h,hi=>by
  obtain ⟨h1,h2,h3⟩:=hi;unfold gy;have hcf:=h1 f (by simp);by_cases hel:cur.el=f.el
  ·rw [if_neg (fun h:cur.el≠f.el=>h hel)]
   have ih: ∀c':Fc,c'=f∨c'=cur->La last (gy order c' r):=fun c' hc'=>by
    refine tM order r c' last (by rcases hc' with rfl | rfl <;> omega) ⟨fun g hg=> ?_,h3⟩;rcases hc' with rfl | rfl
    ·exact h2 g hg
    ·exact h1 g (by simp [hg])
   split
   ·exact ih f (.inl rfl)
   ·exact ih cur (.inr rfl)
  ·rw [if_pos (show cur.el≠f.el from hel)];refine ⟨h,tM order r f cur.el ?_ ⟨h2,h3⟩⟩;rcases hcf with h | h
   ·exact h
   ·exact absurd h.1 hel
theorem ph (order:List ae): ∀(r:List Fc) (cur x:Fc),x∈gy order cur r->x=cur∨x∈r
 | [],cur,x,h=>by simpa [gy] using h
 | f::r,cur,x,h=>by
  unfold gy at h;split at h
  ·rcases aaQ.1 h with h | h
   ·exact .inl h
   ·rcases ph order r f x h with h | h
    ·right;rw [h];simp
    ·right;simp [h]
  ·split at h
   ·rcases ph order r f x h with h | h
    ·right;rw [h];simp
    ·right;simp [h]
   ·rcases ph order r cur x h with h | h
    ·exact .inl h
    ·right;simp [h]
theorem aM {order:List ae} {l:List Fc} {x:Fc} (h:x∈an order l):x∈l:=by
 cases l with
 | nil=>simp [an] at h
 | cons f r=>
  rcases ph order r f x h with h | h
  ·rw [h];simp
  ·simp [h]
theorem kN {order:List ae} {l:List Fc} (hl:Uj l) (hp: ∀f∈l,1<=f.el):La 0 (an order l):=by
 cases l with
 | nil=>trivial
 | cons f r=>exact tM order r f 0 (by have:=hp f (by simp);omega) hl
def eM (text:ae):List Cell:=(List.range text.length).filterMap fun i=>if (aj (text.drop i)).2=0 then none else some (4,(aj (text.drop i)).1)
def cF (f:Fc):List Cell:=(3,f.el)::eM f.text
def cellsOf (u:Int) (facts:List Fc):List Cell:=(facts.flatMap cF).foldl lp [(1,u),(2,u)]
theorem kO (u:Int) (facts:List Fc):gq (cellsOf u facts):=tN _ _ ⟨by simp [fY],by simp,trivial⟩
theorem cu {u:Int} {facts:List Fc} {z:Cell}:z∈cellsOf u facts↔z∈facts.flatMap cF∨z=(1,u)∨z=(2,u):=by unfold cellsOf;rw [tO];simp
def aw (l:List (Cell×ae)) (c:Cell):Option ae:=(l.find? fun x=>decide (x.1=c)).map (·.2)
theorem gk (val:Cell->ae): ∀(S:List Cell) (c:Cell),aw (S.map fun x=>(x,val x)) c=if c∈S then some (val c) else none
 | [],c=>rfl
 | x::S,c=>by
  have ih:=gk val S c;unfold aw at ih⊢;rw [aaM,ac0];by_cases h:x=c
  ·subst h;simp
  ·have hd:decide (x=c)=false:=by simpa using h
   simp only [hd];rw [ih];simp only [aaQ];by_cases hm:c∈S
   ·rw [if_pos hm,if_pos (.inr hm)]
   ·rw [if_neg hm,if_neg (by rintro (h' | h');exact h h'.symm;exact hm h')]
def c5 (look:Int->Option ae) (s:ae):Option ae:=
 match s with
 | []=>some []
 | c::r=>if h:(aj (c::r)).2=0 then (c5 look r).map (c:: ·) else
  match look (aj (c::r)).1,c5 look ((c::r).drop (aj (c::r)).2.toNat) with
  | some a,some b=>some (a++b)
  | _,_=>none
termination_by s.length
decreasing_by
 ·simp
 ·rcases dt (c::r) with h' | h'
  ·exact absurd (by rw [h']) h
  ·simp only [abb,aaH] at*;omega
theorem qN {look:Int->Option ae} {cite:Int->ae}: ∀(n:Nat) (s:ae),s.length<=n->(∀i,i<s.length->(aj (s.drop i)).2≠0->look (aj (s.drop i)).1=some (cite (aj (s.drop i)).1))->c5 look s=some (bV cite s)
 | _, [],_,_=>by rw [c5,kq]
 | 0,c::r,h,_=>by simp at h
 | n+1,c::r,h,hl=>by
  simp only [aaH] at h;by_cases hp:(aj (c::r)).2=0
  ·rw [c5,dif_pos hp,mi cite c r hp,qN n r (by omega) (fun i hi=>by
    have:=hl (i+1) (by simp;omega);simpa using this)]
   rfl
  ·have h0:=hl 0 (by simp) (by simpa using hp);simp only [acY] at h0;rw [c5,dif_neg hp,kY cite _ hp,h0]
   have hlen:((c::r).drop (aj (c::r)).2.toNat).length<=n:=by
    rcases dt (c::r) with h' | h'
    ·exact absurd (by rw [h']) hp
    ·simp only [abb,aaH];omega
   rw [qN n _ hlen (fun i hi hp'=>by
    rw [acV] at hp'⊢;refine hl _ ?_ hp';simp only [abb] at hi;omega)]
def j5 (l:List (Cell×ae)) (d:Int):List (Nat×ae)->Option (List Nd)
 | []=>some []
 | f::r=>match aw l (3,(f.1:Int)),c5 (fun u=>aw l (4,u)) f.2,j5 l d r with
  | some lab,some t,some ns=>some (⟨d, [112],lab++ [58,32]++t⟩::ns)
  | _,_,_=>none
def zH (d:Int) (m:ae):List Nd:=if m= [] then [] else [⟨d, [109,97,114,107],m⟩]
def DV (unesc:ae->Option ae) (unit:Int) (l:List (Cell×ae)):Int×Option mm:=
 if (aw l (1,unit)).getD []= []∨(aw l (2,unit)).getD []= [] then (7,none) else
 match gK unesc ((aw l (2,unit)).getD []) with
 | none=>(3,none)
 | some x=>match j5 l (cy ((aw l (1,unit)).getD [])+1) x.facts with
  | none=>(7,none)
  | some ns=>(0,some ⟨unit,(aw l (1,unit)).getD [],⟨cy ((aw l (1,unit)).getD []),jq x.level,(aw l (1,unit)).getD []++ [32]++x.title⟩::(zH (cy ((aw l (1,unit)).getD [])+1) x.mark++ns)⟩)
def dG (f:Fc):Nat×ae:=(f.el.toNat,f.text)
def fZ (esc:ae->ae) (order:List ae) (s:Sh):ae:=u4 esc s.level.toNat s.title s.mark ((an order s.facts).map dG)
def ef (it:Int->ae) (esc:ae->ae) (c:Ct) (order:List ae) (root:Int) (x:Cell):ae:=
 if x.1=1 then cP it c root x.2 else if x.1=2 then (match aY c.ao x.2 with
  | some i=>match c.ao[i]? with
   | some s=>fZ esc order s
   | none=> []
  | none=> []) else if x.1=3 then gz order c.aD x.2 (gd it x.2) else if x.1=4 then eZ c.ao x.2 else []
theorem oF: ∀(l:List Fc) (last:Int),0<=last->La last l->(∀f∈l,f.el<=64∧f.text≠ [])->Oe last.toNat (l.map dG)
 | [],_,_,_,_=>trivial
 | f::r,last,h0,h,hf=>by
  obtain ⟨h1,h2⟩:=h;have:=hf f (by simp);refine ⟨?_,?_,this.2,oF r f.el (by omega) h2 (fun g hg=>hf g (by simp [hg]))⟩
  ·simp only [dG];omega
  ·simp only [dG];omega
theorem DW {lev:Int} (h1:1<=lev) (h2:lev<=4):jq lev.toNat=g8 lev:=by
 have:lev=1∨lev=2∨lev=3∨lev=4:=by omega
 rcases this with rfl | rfl | rfl | rfl <;> decide
theorem lX {it:Int->ae} {l:List Sh} {root:Int}: ∀(r:List Sh) (i:Nat) (x:Sh×ae),l.drop i=r->x∈fP it l root i r-> ∃k,l[k]?=some x.1∧sy l root k=true∧x.2=oC it l root k
 | [],_,_,_,h=>by cases h
 | s::r,i,x,hd,h=>by
  have hs:l[i]?=some s:=by rw [<-ac3,hd];rfl
  have hd':l.drop (i+1)=r:=by rw [<-ada,hd];rfl
  unfold fP at h;split at h
  ·rename_i hb;rcases aaQ.1 h with h | h
   ·rw [h];exact ⟨i,hs,hb,rfl⟩
   ·exact lX r (i+1) x hd' h
  ·exact lX r (i+1) x hd' h
theorem zI {it:Int->ae} {esc:ae->ae} {c:Ct} {order:List ae} {root:Int} {S:List Cell} (d:Int): ∀(l:List Fc),(∀f∈l,1<=f.el)->(∀f∈l,∀z∈cF f,z∈S)->
  j5 (S.map fun x=>(x,ef it esc c order root x)) d (l.map dG)=some (l.map (yL it order c d))
 | [],_,_=>rfl
 | f::r,hp,hS=>by
  have hel:((dG f).1:Int)=f.el:=by have:=hp f (by simp);simp only [dG];omega
  have h3:aw (S.map fun x=>(x,ef it esc c order root x)) (3,((dG f).1:Int))=some (gz order c.aD f.el (gd it f.el)):=by rw [hel,gk,if_pos (hS f (by simp) _ (by simp [cF]))];simp [ef]
  have h4:c5 (fun u=>aw (S.map fun x=>(x,ef it esc c order root x)) (4,u)) (dG f).2=some (bV (eZ c.ao) f.text):=by
   refine qN f.text.length f.text (aa0 _) fun i hi hne=> ?_;rw [gk,if_pos]
   ·simp [ef]
   ·refine hS f (by simp) _ ?_;unfold cF eM;rw [aaQ];right;rw [abQ];exact ⟨i,abl.2 hi,by rw [if_neg hne]⟩
  rw [aaM,j5,h3,h4,zI d r (fun g hg=>hp g (by simp [hg])) (fun g hg=>hS g (by simp [hg]))];rfl
theorem F2 {it:Int->ae} {esc:ae->ae} {unesc:ae->Option ae} (h1: ∀s,unesc (esc s)=some s) (h2: ∀s,(10:UInt8)∉esc s) {c:Ct} (hc:gl c) (order:List ae) (root:Int) {x:Sh×ae} (hx:x∈bK it root ⟨[], []⟩ c.ao):
  DV unesc x.1.unit ((cellsOf x.1.unit (an order x.1.facts)).map fun z=>(z,ef it esc c order root z))=(0,some (kZ it order c x)):=by
 rw [ig it hc.valid root] at hx;obtain ⟨k,hk,hin,hnum⟩:=lX c.ao 0 x rfl hx;have hidx:aY c.ao x.1.unit=some k:=ic hk (hc.valid.uniq k x.1 hk);have hs:=hc.ao x.1 (ab3 hk)
 have hn:cP it c root x.1.unit=x.2:=by rw [kK hc,pg,hidx];simp only;rw [if_pos hin,hnum]
 have hne:x.2≠ []:=by rw [hnum];exact Hi hk
 have l1:aw ((cellsOf x.1.unit (an order x.1.facts)).map fun z=>(z,ef it esc c order root z)) (1,x.1.unit)=some x.2:=by rw [gk,if_pos (cu.2 (.inr (.inl rfl)))];simp [ef,hn]
 have l2:aw ((cellsOf x.1.unit (an order x.1.facts)).map fun z=>(z,ef it esc c order root z)) (2,x.1.unit)=some (fZ esc order x.1):=by rw [gk,if_pos (cu.2 (.inr (.inr rfl)))];simp [ef,hidx,hk]
 have hfo:Oe 0 ((an order x.1.facts).map dG):=oF _ 0 (acU _) (kN hs.inc (fun f hf=>(hs.facts f hf).EP)) (fun f hf=>⟨(hs.facts f (aM hf)).JR,(hs.facts f (aM hf)).text⟩)
 have l3:gK unesc (fZ esc order x.1)=some ⟨x.1.level.toNat,x.1.title,x.1.mark,(an order x.1.facts).map dG⟩:=by have:=hs.l1;have:=hs.l2;exact kM h1 h2 (by omega) (by omega) hs.title hfo
 have l4:fZ esc order x.1≠ []:=by unfold fZ u4 gL;simp
 unfold DV;rw [l1,l2];simp only [abn];rw [if_neg (by simp only [not_or];exact ⟨hne,l4⟩),l3];simp only;rw [zI _ _ (fun f hf=>(hs.facts f (aM hf)).EP) (fun f hf z hz=>cu.2 (.inl (acd.2 ⟨f,hf,hz⟩)))];simp only;rw [DW hs.l1 hs.l2];rfl
end Go.Proofs.YtfgbpngakkhdcaaGreatDoor
namespace Go.Proofs.YtfgbpngakkhdcaaGreatDoor
def lY (p:Nat×ae):List Cell:=(3,(p.1:Int))::eM p.2
theorem xQ {f:Fc} (h:1<=f.el):cF f=lY (dG f):=by unfold cF lY dG;simp only;rw [Int.toNat_of_nonneg (by omega)]
theorem gM: ∀{l:List Fc},(∀f∈l,1<=f.el)->l.flatMap cF=(l.map dG).flatMap lY
 | [],_=>rfl
 | f::r,h=>by
  rw [abr,aaM,abr,xQ (h f (by simp)),gM (fun g hg=>h g (by simp [hg]))]
theorem Bn {u:Int} {l m:List Fc} (hl: ∀f∈l,1<=f.el) (hm: ∀f∈m,1<=f.el) (h:l.map dG=m.map dG):cellsOf u l=cellsOf u m:=by unfold cellsOf;rw [gM hl,gM hm,h]
theorem sE {it:Int->ae} {l:List Sh} {root:Int}: ∀(r:List Sh) (i:Nat),l.drop i=r-> ∀(k:Nat) (s:Sh),i<=k->l[k]?=some s->sy l root k=true->(s,oC it l root k)∈fP it l root i r
 | [],i,hd,k,s,hk,hs,_=>by
  have:=(ab8.1 hs).1;have h0:=acW.1 hd;omega
 | x::r,i,hd,k,s,hk,hs,hb=>by
  have hx:l[i]?=some x:=by rw [<-ac3,hd];rfl
  have hd':l.drop (i+1)=r:=by rw [<-ada,hd];rfl
  unfold fP;by_cases hki:k=i
  ·subst hki;rw [hx] at hs;cases hs;rw [if_pos hb];simp
  ·have ih:=sE (it:=it) r (i+1) hd' k s (by omega) hs hb;split
   ·exact abO _ ih
   ·exact ih
theorem sF {it:Int->ae} {c:Ct} (hc:gl c) {root u:Int} (h:cP it c root u≠ []): ∃y∈bK it root ⟨[], []⟩ c.ao,y.1.unit=u∧y.2=cP it c root u:=by
 rw [kK hc] at h⊢;rw [ig it hc.valid root];unfold pg at h⊢;cases hi:aY c.ao u with
 | none=>rw [hi] at h;exact absurd rfl h
 | some k=>
  rw [hi] at h;simp only at h⊢;by_cases hb:sy c.ao root k=true
  ·obtain ⟨s,hs,hu⟩:=iS hi;exact ⟨(s,oC it c.ao root k),sE c.ao 0 rfl k s (acH _) hs hb,hu,by rw [if_pos hb]⟩
  ·rw [if_neg hb] at h;exact absurd rfl h
theorem di {it:Int->ae} {c:Ct} (hc:gl c) {root:Int} {x:Sh×ae} (hx:x∈bK it root ⟨[], []⟩ c.ao):cP it c root x.1.unit=x.2∧x.2≠ []∧x.1∈c.ao∧ ∃k,c.ao[k]?=some x.1∧aY c.ao x.1.unit=some k:=by rw [ig it hc.valid root] at hx;obtain ⟨k,hk,hin,hnum⟩:=lX c.ao 0 x rfl hx;have hidx:aY c.ao x.1.unit=some k:=ic hk (hc.valid.uniq k x.1 hk);refine ⟨?_,by rw [hnum];exact Hi hk,ab3 hk,k,hk,hidx⟩;rw [kK hc,pg,hidx];simp only;rw [if_pos hin,hnum]
theorem lq {S:List Cell} {f g:Cell->ae} (h: ∀z∈S,f z=g z):(S.map fun z=>(z,f z))=S.map fun z=>(z,g z):=
 ab9 fun z hz=>by rw [h z hz]
theorem fresh {it:Int->ae} {esc:ae->ae} {unesc:ae->Option ae} (h1: ∀s,unesc (esc s)=some s) (h2: ∀s,(10:UInt8)∉esc s) {a b:Ct} (ha:gl a) (hb:gl b) (oa ob:List ae) (root:Int) {x:Sh×ae} (hx:x∈bK it root ⟨[], []⟩ a.ao)
  (hs: ∀z∈cellsOf x.1.unit (an oa x.1.facts),ef it esc b ob root z=ef it esc a oa root z):
  ∃y∈bK it root ⟨[], []⟩ b.ao,y.1.unit=x.1.unit∧kZ it ob b y=kZ it oa a x:=by
 obtain ⟨n1,n2,n3,k,n4,n5⟩:=di ha hx;have v1:=hs (1,x.1.unit) (cu.2 (.inr (.inl rfl)));have v2:=hs (2,x.1.unit) (cu.2 (.inr (.inr rfl)));simp only [ef,if_true,n1] at v1;obtain ⟨y,hy,hyu,hyn⟩:=sF hb (it:=it) (root:=root) (u:=x.1.unit) (by rw [v1];exact n2);obtain ⟨m1,m2,m3,j,m4,m5⟩:=di hb hy;have hxo:=ha.ao x.1 n3;have hyo:=hb.ao y.1 m3;rw [hyu] at m5;simp only [ef,show¬ (2:Int)=1 by decide,if_false,if_true,n5,n4,m5,m4] at v2;have fx:Oe 0 ((an oa x.1.facts).map dG):=oF _ 0 (acU _) (kN hxo.inc (fun f hf=>(hxo.facts f hf).EP)) (fun f hf=>⟨(hxo.facts f (aM hf)).JR,(hxo.facts f (aM hf)).text⟩);have fy:Oe 0 ((an ob y.1.facts).map dG):=oF _ 0 (acU _) (kN hyo.inc (fun f hf=>(hyo.facts f hf).EP)) (fun f hf=>⟨(hyo.facts f (aM hf)).JR,(hyo.facts f (aM hf)).text⟩)
 have px:gK unesc (fZ esc oa x.1)=some ⟨x.1.level.toNat,x.1.title,x.1.mark,(an oa x.1.facts).map dG⟩:=by have:=hxo.l1;have:=hxo.l2;exact kM h1 h2 (by omega) (by omega) hxo.title fx
 have py:gK unesc (fZ esc ob y.1)=some ⟨y.1.level.toNat,y.1.title,y.1.mark,(an ob y.1.facts).map dG⟩:=by have:=hyo.l1;have:=hyo.l2;exact kM h1 h2 (by omega) (by omega) hyo.title fy
 rw [v2,px] at py;simp only [Option.some.injEq,YE.mk.injEq] at py
 have hcells:cellsOf y.1.unit (an ob y.1.facts)=cellsOf x.1.unit (an oa x.1.facts):=by rw [hyu];exact Bn (fun f hf=>(hyo.facts f (aM hf)).EP) (fun f hf=>(hxo.facts f (aM hf)).EP) py.2.2.2.symm
 have e1:=F2 (it:=it) h1 h2 ha oa root hx;have e2:=F2 (it:=it) h1 h2 hb ob root hy;rw [hcells,hyu,lq hs,e1] at e2;simp only [Prod.mk.injEq,Option.some.injEq,true_and] at e2;exact ⟨y,hy,hyu,e2.symm⟩
end Go.Proofs.YtfgbpngakkhdcaaGreatDoor
namespace Go.Proofs.YtfgbpngakkhdcaaGreatDoor
theorem Lc {order:List ae} {aD:List Lb} {af:List ae} (h: ∀x∈aD,N8 af x) (el:Int) {d:ae} (hd:d≠ []):gz order aD el d≠ []:=by
 unfold gz;rcases tJ order el aD d order.length with ⟨h1,_⟩ | ⟨f,hf,_,h1,_⟩
 ·rw [h1];exact hd
 ·rw [h1];exact (h f hf).text
theorem Ld {c:Ct} (hc:gl c) (u:Int):eZ c.ao u≠ []:=by
 unfold eZ;cases hi:aY c.ao u with
 | none=>simp
 | some i=>
  obtain ⟨s,hs,_⟩:=iS hi;simp only [hs];split
  ·exact (hc.ao s (ab3 hs)).title
  ·simp
theorem zJ (esc:ae->ae) (order:List ae) (s:Sh):fZ esc order s≠ []:=by unfold fZ u4 gL;simp
theorem pR {u:Int} {facts:List Fc} {z:Cell} (h:z∈cellsOf u facts):z=(1,u)∨z=(2,u)∨(∃f∈facts,z=(3,f.el))∨ ∃v,z=(4,v):=by
 rcases cu.1 h with h | h | h
 ·obtain ⟨f,hf,hz⟩:=acd.1 h;unfold cF at hz;rcases aaQ.1 hz with hz | hz
  ·exact .inr (.inr (.inl ⟨f,hf,hz⟩))
  ·unfold eM at hz;obtain ⟨i,_,hi⟩:=abQ.1 hz;split at hi
   ·cases hi
   ·cases hi;exact .inr (.inr (.inr ⟨_,rfl⟩))
 ·exact .inl h
 ·exact .inr (.inl h)
theorem Bo {it:Int->ae} {esc:ae->ae} {c:Ct} (hc:gl c) (order:List ae) (root:Int) {x:Sh×ae} (hx:x∈bK it root ⟨[], []⟩ c.ao) {z:Cell} (hz:z∈cellsOf x.1.unit (an order x.1.facts)):ef it esc c order root z≠ []:=by
 obtain ⟨n1,n2,n3,k,n4,n5⟩:=di hc hx;rcases pR hz with rfl | rfl | ⟨f,_,rfl⟩ | ⟨v,rfl⟩
 ·simp only [ef,if_true,n1];exact n2
 ·simp only [ef,show¬ (2:Int)=1 by decide,if_false,if_true,n5,n4];exact zJ esc order x.1
 ·simp only [ef,show¬ (3:Int)=1 by decide,show¬ (3:Int)=2 by decide,if_false,if_true];exact Lc hc.aD _ (by simp [gd])
 ·simp only [ef,show¬ (4:Int)=1 by decide,show¬ (4:Int)=2 by decide,show¬ (4:Int)=3 by decide,if_false,if_true];exact Ld hc v
def xR (it:Int->ae) (esc:ae->ae) (c:Ct) (order:List ae) (root:Int) (x:Cell):ae:=
 if x.1=3∧(x.2<1∨64<x.2) then [] else ef it esc c order root x
theorem F3 {it:Int->ae} {esc:ae->ae} {c:Ct} (hc:gl c) (order:List ae) (root:Int) {s:Sh} (hs:s∈c.ao) {z:Cell} (hz:z∈cellsOf s.unit (an order s.facts)):xR it esc c order root z=ef it esc c order root z:=by
 unfold xR;rw [if_neg];rintro ⟨h1,h2⟩;rcases pR hz with rfl | rfl | ⟨f,hf,rfl⟩ | ⟨v,rfl⟩
 ·exact absurd (show (1:Int)=3 from h1) (by decide)
 ·exact absurd (show (2:Int)=3 from h1) (by decide)
 ·have:=((hc.ao s hs).facts f (aM hf)).EP;have:=((hc.ao s hs).facts f (aM hf)).JR;simp only at h2;omega
 ·exact absurd (show (4:Int)=3 from h1) (by decide)
def gN (val:Cell->ae) (l:List (Cell×ae)):Bool:=l.any fun r=>decide (val r.1≠r.2)
def iw (f g:Cell->ae) (l:List Cell):List Cell:=l.filter fun x=>decide (f x≠g x)
theorem IG (f:Cell->ae) (S:List Cell):gN f (S.map fun z=>(z,f z))=false:=by unfold gN;simp
theorem gq.nodup: ∀{l:List Cell},gq l->l.Nodup
 | [],_=>ac9
 | x::r,h=>aaU.2 ⟨fun hx=>fj x (h.1 x hx),gq.nodup h.2⟩
end Go.Proofs.YtfgbpngakkhdcaaGreatDoor
namespace Go.Proofs.YtfgbpngakkhdcaaGreatDoor
def aC (look:Int->Option ae) (s:ae):ae×Bool:=
 match s with
 | []=>([],false)
 | c::r=>if h:(aj (c::r)).2=0 then (c::(aC look r).1,(aC look r).2) else
  match look (aj (c::r)).1 with
  | some a=>(a++(aC look ((c::r).drop (aj (c::r)).2.toNat)).1,(aC look ((c::r).drop (aj (c::r)).2.toNat)).2)
  | none=>((aC look ((c::r).drop (aj (c::r)).2.toNat)).1,true)
termination_by s.length
decreasing_by
 all_goals first
  | (simp;done)
  | (rcases dt (c :: r) with h' | h'
     ·exact absurd (by rw [h']) h
     ·simp only [abb, aaH] at *; omega)
theorem kP (look:Int->Option ae):aC look []=([],false):=by rw [aC]
theorem mY (look:Int->Option ae) (c:UInt8) (r:ae) (h:(aj (c::r)).2=0):aC look (c::r)=(c::(aC look r).1,(aC look r).2):=by rw [aC,dif_pos h]
theorem lr (look:Int->Option ae) (s:ae) (h:(aj s).2≠0):aC look s=(match look (aj s).1 with
  | some a=>(a++(aC look (s.drop (aj s).2.toNat)).1,(aC look (s.drop (aj s).2.toNat)).2)
  | none=>((aC look (s.drop (aj s).2.toNat)).1,true)):=by
 cases s with
 | nil=>exact absurd rfl h
 | cons c r=>rw [aC,dif_neg h]
theorem DX (look:Int->Option ae):c5 look []=some []:=by rw [c5]
theorem sG (look:Int->Option ae) (c:UInt8) (r:ae) (h:(aj (c::r)).2=0):c5 look (c::r)=(c5 look r).map (c:: ·):=by rw [c5,dif_pos h]
theorem pT (look:Int->Option ae) (s:ae) (h:(aj s).2≠0):c5 look s=(match look (aj s).1,c5 look (s.drop (aj s).2.toNat) with
  | some a,some b=>some (a++b)
  | _,_=>none):=by
 cases s with
 | nil=>exact absurd rfl h
 | cons c r=>
  rw [c5,dif_neg h]
  first | done | (cases look (aj (c::r)).1 <;> cases c5 look ((c::r).drop (aj (c::r)).2.toNat) <;> rfl)
theorem tP (look:Int->Option ae): ∀(n:Nat) (s:ae),s.length<=n->c5 look s=if (aC look s).2=true then none else some (aC look s).1
 | _, [],_=>by rw [DX,kP];rfl
 | 0,c::r,h=>by simp at h
 | n+1,c::r,h=>by
  simp only [aaH] at h;by_cases hp:(aj (c::r)).2=0
  ·rw [sG look c r hp,mY look c r hp,tP look n r (by omega)];split <;> rfl
  ·have hlen:((c::r).drop (aj (c::r)).2.toNat).length<=n:=by
    rcases dt (c::r) with h' | h'
    ·exact absurd (by rw [h']) hp
    ·simp only [abb,aaH];omega
   rw [pT look _ hp,lr look _ hp,tP look n _ hlen];cases look (aj (c::r)).1 with
   | none=>rfl
   | some a=>cases hb:(aC look ((c::r).drop (aj (c::r)).2.toNat)).2 <;> simp
def ez (l:List (Cell×ae)) (d:Int):List (Nat×ae)->List Nd×Bool
 | []=>([],false)
 | f::r=>(⟨d, [112],(aw l (3,(f.1:Int))).getD []++ [58,32]++(aC (fun u=>aw l (4,u)) f.2).1⟩::(ez l d r).1,
   (aw l (3,(f.1:Int))).isNone || ((aC (fun u=>aw l (4,u)) f.2).2 || (ez l d r).2))
theorem DY (l:List (Cell×ae)) (d:Int): ∀fs:List (Nat×ae),j5 l d fs=if (ez l d fs).2=true then none else some (ez l d fs).1
 | []=>rfl
 | f::r=>by
  rw [j5,ez,DY l d r,tP _ f.2.length f.2 (aa0 _)];cases h3:aw l (3,(f.1:Int)) with
  | none=>simp
  | some a=>
   simp only [Option.isNone_some,abE,abn];cases h4:(aC (fun u=>aw l (4,u)) f.2).2 with
   | true=>simp
   | false=>
    simp only [abE,aav,if_false];cases h5:(ez l d r).2 with
    | true=>simp
    | false=>simp
theorem pU {x:Cell×ae} {r:List (Cell×ae)} {c:Cell} (h:x.1≠c):aw (x::r) c=aw r c:=by
 unfold aw;rw [ac0];have:decide (x.1=c)=false:=by simpa using h
 simp only [this]
theorem yw {x:Cell×ae} {r:List (Cell×ae)} {c:Cell} (h:x.1=c):aw (x::r) c=some x.2:=by
 unfold aw;rw [ac0];have:decide (x.1=c)=true:=by simpa using h
 simp only [this];rfl
theorem xS {c:Cell}: ∀{l:List (Cell×ae)},(∀x∈l,x.1≠c)->aw l c=none
 | [],_=>rfl
 | x::r,h=>by rw [pU (h x (by simp)),xS (fun y hy=>h y (by simp [hy]))]
theorem Hk {c:Cell}: ∀(l:List (Cell×ae)) (i:Nat),gq (l.map Prod.fst)->(∀j r,j<i->l[j]?=some r->fY r.1 c=true)->(∀j r,i<=j->l[j]?=some r-> ¬ fY r.1 c=true)->
  aw l c=match l[i]? with
   | some r=>if r.1=c then some r.2 else none
   | none=>none
 | [],i,_,_,_=>by simp [aw]
 | x::r,0,hi,_,h2=>by
  simp only [List.getElem?_cons_zero];by_cases h:x.1=c
  ·rw [if_pos h,yw h]
  ·rw [if_neg h];have hc:=mZ (h2 0 x (aa0 _) rfl) h;refine xS fun y hy=> ?_;rcases aaQ.1 hy with hy | hy
   ·rw [hy];exact h
   ·intro he;have:=hi.1 y.1 (aaS.2 ⟨y,hy,rfl⟩);rw [he] at this;exact fj _ (fk this hc)
 | x::r,i+1,hi,h1,h2=>by
  have hx:=h1 0 x (by omega) rfl;have hne:x.1≠c:=fun h=>by rw [h] at hx;exact fj _ hx
  rw [pU hne,List.getElem?_cons_succ];exact Hk r i hi.2 (fun j y hj hy=>h1 (j+1) y (by omega) (by simpa using hy)) (fun j y hj hy=>h2 (j+1) y (by omega) (by simpa using hy))
end Go.Proofs.YtfgbpngakkhdcaaGreatDoor
namespace Go.Proofs.YtfgbpngakkhdcaaGreatDoor
def br (c:Ct) (lang:ae):Bool:=decide (iE c=0)&&gP c.af lang
def aH (c:Ct) (root:Int) (lang:ae):Int:=if iE c≠0 then 1 else if gP c.af lang=false then 10 else if (aY c.ao root).isSome=false then 7 else 0
theorem rf {c:Ct} {root:Int} {lang:ae} (h:aH c root lang=0):iE c=0∧gP c.af lang=true∧ ∃i,aY c.ao root=some i:=by
 unfold aH at h;split at h
 ·cases h
 ·split at h
  ·cases h
  ·split at h
   ·cases h
   ·rename_i h1 h2 h3;refine ⟨by simpa using h1,by simpa using h2,?_⟩;cases hi:aY c.ao root with
    | none=>rw [hi] at h3;simp at h3
    | some i=>exact ⟨i,rfl⟩
theorem dz {c:Ct} {lang:ae} (h:br c lang=true):iE c=0∧gP c.af lang=true:=by simpa [br] using h
theorem Lf {c:Ct} {lang:ae} (h1:iE c=0) (h2:gP c.af lang=true):br c lang=true:=by simp [br,h1,h2]
def dI (c:Ct) (u:Int):Option Sh:=match aY c.ao u with
 | some i=>c.ao[i]?
 | none=>none
theorem kQ {c:Ct} {u:Int} {s:Sh} (h:dI c u=some s): ∃i,aY c.ao u=some i∧c.ao[i]?=some s∧s.unit=u∧s∈c.ao:=by
 unfold dI at h;cases hi:aY c.ao u with
 | none=>rw [hi] at h;cases h
 | some i=>rw [hi] at h;obtain ⟨t,h1,h2⟩:=iS hi;have h:c.ao[i]?=some s:=h;rw [h1] at h;cases h;exact ⟨i,rfl,h1,h2,ab3 h1⟩
def k7 (c:Ct) (u:Int):List Fc:=match dI c u with
 | some s=>s.facts
 | none=> []
def ba (c:Ct) (u:Int) (lang:ae):List Fc:=if br c lang=true then an (au c.af lang) (k7 c u) else []
def DZ (it:Int->ae) (esc:ae->ae) (tag title mark:ae) (facts:List Fc):ae:=tag++ [32]++esc title++ [10]++(oD++ [32]++esc mark++ [10])++facts.flatMap fun f=>it f.el++ [32]++esc f.text++ [10]
theorem zK (it:Int->ae) (esc:ae->ae) (hit: ∀n:Int,1<=n->n<=64->it n=ny n.toNat): ∀(l:List Fc),(∀f∈l,1<=f.el∧f.el<=64)->(l.flatMap fun f=>it f.el++ [32]++esc f.text++ [10])=((l.map dG).map (u3 esc)).flatMap fun p=>p++ [10]
 | [],_=>rfl
 | f::r,h=>by
  obtain ⟨h1,h2⟩:=h f (by simp);rw [abr,aaM,aaM,abr,zK it esc hit r (fun g hg=>h g (by simp [hg])),hit _ h1 h2];simp [u3,dG]
theorem Of {it:Int->ae} {esc:ae->ae} (hit: ∀n:Int,1<=n->n<=64->it n=ny n.toNat) {lev:Int} (h1:1<=lev) (h2:lev<=4) (title mark:ae) {facts:List Fc} (hf: ∀f∈facts,1<=f.el∧f.el<=64):DZ it esc (g8 lev) title mark facts=u4 esc lev.toNat title mark (facts.map dG):=by unfold DZ u4 gL;rw [zK it esc hit facts hf,abr,abr,DW h1 h2];simp
def dY (it:Int->ae) (esc:ae->ae) (c:Ct) (lang:ae) (root:Int) (x:Cell):ae:=if br c lang=true then xR it esc c (au c.af lang) root x else []
def yx (it:Int->ae) (esc:ae->ae) (c:Ct) (lang:ae) (root:Int) (x:Cell):ae:=
 if x.1=1 then cP it c root x.2 else if x.1=2 then (match dI c x.2 with
  | some s=>DZ it esc (g8 s.level) s.title s.mark (an (au c.af lang) s.facts)
  | none=> []) else if x.1=3 then (if x.2<1∨64<x.2 then [] else gz (au c.af lang) c.aD x.2 (gd it x.2)) else if x.1=4 then eZ c.ao x.2 else []
theorem Og {it:Int->ae} {esc:ae->ae} (hit: ∀n:Int,1<=n->n<=64->it n=ny n.toNat) {c:Ct} (hc:gl c) (lang:ae) (root:Int) (x:Cell):yx it esc c lang root x=xR it esc c (au c.af lang) root x:=by
 unfold yx xR ef;by_cases h1:x.1=1
 ·simp [h1]
 by_cases h2:x.1=2
 ·simp only [h2,show¬ (2:Int)=1 by decide,show¬ (2:Int)=3 by decide,if_false,if_true,false_and];unfold dI;cases hi:aY c.ao x.2 with
  | none=>rfl
  | some i=>
   simp only;cases hs:c.ao[i]? with
   | none=>rfl
   | some s=>have hm:=ab3 hs;have ho:=hc.ao s hm;exact Of hit ho.l1 ho.l2 _ _ (fun f hf=>⟨(ho.facts f (aM hf)).EP,(ho.facts f (aM hf)).JR⟩)
 by_cases h3:x.1=3
 ·simp only [h3,show¬ (3:Int)=1 by decide,show¬ (3:Int)=2 by decide,if_false,if_true,true_and]
 ·simp [h1,h2,h3]
def bN (it:Int->ae) (esc:ae->ae) (c:Ct) (root:Int) (lang:ae) (u:Int):List (Cell×ae)×Int:=
 if aH c root lang≠0 then ([],aH c root lang) else if cP it c root u= [] then ([],7) else ((cellsOf u (ba c u lang)).map fun z=>(z,dY it esc c lang root z),0)
end Go.Proofs.YtfgbpngakkhdcaaGreatDoor
namespace Go.Proofs.YtfgbpngakkhdcaaGreatDoor
variable {it:Int->ae} {esc:ae->ae} {unesc:ae->Option ae}
def tQ:List (Cell×ae)->Bool
 | []=>true
 | [_]=>true
 | a::b::r=>fY a.1 b.1&&tQ (b::r)
theorem Hl: ∀{l:List (Cell×ae)},tQ l=true->gq (l.map Prod.fst)
 | [],_=>trivial
 | [a],_=>⟨by simp,trivial⟩
 | a::b::r,h=>by
  simp only [tQ,abj] at h;have ih:=Hl h.2;refine ⟨fun y hy=> ?_,ih⟩;rcases aaQ.1 hy with hy | hy
  ·rw [hy];exact h.1
  ·exact fk h.1 (ih.1 y hy)
theorem Hm: ∀{l:List (Cell×ae)},gq (l.map Prod.fst)->tQ l=true
 | [],_=>rfl
 | [a],_=>rfl
 | a::b::r,h=>by
  simp only [tQ,abj];exact ⟨h.1 b.1 (by simp),Hm h.2⟩
def dH (unesc:ae->Option ae) (unit:Int) (l:List (Cell×ae)):Int×Option mm:=if tQ l=true then DV unesc unit l else (5,none)
theorem F4 {c:Ct} {lang:ae} {root:Int} {x:Cell} (h:dY it esc c lang root x≠ []):br c lang=true:=by
 unfold dY at h;split at h
 ·assumption
 ·exact absurd rfl h
theorem qO {c:Ct} {lang:ae} (h:br c lang=true) (root:Int) {s:Sh} (hs:s∈c.ao) {z:Cell} (hz:z∈cellsOf s.unit (an (au c.af lang) s.facts)):dY it esc c lang root z=ef it esc c (au c.af lang) root z:=by unfold dY;rw [if_pos h];exact F3 (cJ (dz h).1) _ root hs hz
theorem dA {c:Ct} {root:Int} {lang:ae} (h:aH c root lang=0):br c lang=true:=by obtain ⟨h1,h2,_⟩:=rf h;exact Lf h1 h2
theorem IH {c:Ct} {lang:ae} (h:br c lang=true) {s:Sh} {k:Nat} (hk:c.ao[k]?=some s) (hi:aY c.ao s.unit=some k):ba c s.unit lang=an (au c.af lang) s.facts:=by unfold ba k7 dI;rw [if_pos h,hi];simp only [hk]
theorem lZ {c:Ct} {root:Int} {lang:ae} (h:aH c root lang=0) {x:Sh×ae} (hx:x∈bK it root ⟨[], []⟩ c.ao):
  bN it esc c root lang x.1.unit=((cellsOf x.1.unit (an (au c.af lang) x.1.facts)).map fun z=>(z,ef it esc c (au c.af lang) root z),0):=by
 have hr:=dA h;have hc:=cJ (dz hr).1;obtain ⟨n1,n2,n3,k,n4,n5⟩:=di hc hx;unfold bN;rw [if_neg (by simp [h]),if_neg (by rw [n1];exact n2),IH hr n4 n5];congr 1;exact lq fun z hz=>qO hr root n3 hz
theorem tR {c:Ct} {root u:Int} {lang:ae} (h:(bN it esc c root lang u).2=0):aH c root lang=0∧ ∃x∈bK it root ⟨[], []⟩ c.ao,x.1.unit=u:=by
 unfold bN at h;split at h
 ·rename_i h0;exact absurd h h0
 ·rename_i h0;have h0:aH c root lang=0:=by simpa using h0
  split at h
  ·cases h
  ·rename_i h1;obtain ⟨y,hy,hyu,_⟩:=sF (cJ (dz (dA h0)).1) h1;exact ⟨h0,y,hy,hyu⟩
theorem II (f:Cell->ae) (u:Int) (l:List Fc):tQ ((cellsOf u l).map fun z=>(z,f z))=true:=by
 refine Hm ?_;rw [ab2];have:(Prod.fst∘fun z:Cell=>(z,f z))=id:=by funext z;rfl
 rw [this,ac5];exact kO u l
theorem Oh (h1: ∀s,unesc (esc s)=some s) (h2: ∀s,(10:UInt8)∉esc s) {c:Ct} {root:Int} {lang:ae} (h:aH c root lang=0) {x:Sh×ae} (hx:x∈bK it root ⟨[], []⟩ c.ao):
  (bN it esc c root lang x.1.unit).2=0∧dH unesc x.1.unit (bN it esc c root lang x.1.unit).1=(0,some (kZ it (au c.af lang) c x)):=by
 rw [lZ h hx];refine ⟨rfl,?_⟩;unfold dH;simp only;rw [if_pos (II _ _ _)];exact F2 h1 h2 (cJ (dz (dA h)).1) _ root hx
def ij (it:Int->ae) (esc:ae->ae) (c:Ct) (root:Int) (lang:ae) (l:List (Cell×ae)):Bool:=gN (dY it esc c lang root) l
def eU (it:Int->ae) (esc:ae->ae) (a b:Ct) (root:Int) (lang:ae) (l:List Cell):List Cell:=iw (dY it esc a lang root) (dY it esc b lang root) l
theorem Lg {c:Ct} (hc:gl c) {root:Int} {x:Sh×ae} (hx:x∈bK it root ⟨[], []⟩ c.ao): ∃i,aY c.ao root=some i:=by
 rw [ig it hc.valid root] at hx;obtain ⟨k,hk,hin,_⟩:=lX c.ao 0 x rfl hx;have hroot:root∈chain c.ao k:=by simpa [sy] using hin
 obtain ⟨j,s,_,h2,h3⟩:=kJ k root hroot;refine ⟨j,?_⟩;rw [<-h3];exact ic h2 (hc.valid.uniq j s h2)
theorem D0 {c:Ct} (hc:gl c) {root:Int} {x y:Sh×ae} (hx:x∈bK it root ⟨[], []⟩ c.ao) (hy:y∈bK it root ⟨[], []⟩ c.ao) (h:x.1.unit=y.1.unit):x=y:=by obtain ⟨n1,_,_,k,n4,n5⟩:=di hc hx;obtain ⟨m1,_,_,j,m4,m5⟩:=di hc hy;rw [h,m5] at n5;cases n5;rw [m4] at n4;have e1:y.1=x.1:=Option.some.inj n4;refine Prod.ext e1.symm ?_;rw [<-n1,<-m1,h]
theorem IJ (order:List ae) (c:Ct) (x:Sh×ae):(kZ it order c x).unit=x.1.unit:=rfl
theorem D1 {c:Ct} (hc:gl c) {root:Int} (lang:ae) {x:Sh×ae} (hx:x∈bK it root ⟨[], []⟩ c.ao):(eh it c root lang).find? (fun s=>decide (s.unit=x.1.unit))=some (kZ it (au c.af lang) c x):=by
 unfold eh;cases hf:((bK it root ⟨[], []⟩ c.ao).map (kZ it (au c.af lang) c)).find? (fun s=>decide (s.unit=x.1.unit)) with
 | none=>have:=ac1.1 hf _ (aaS.2 ⟨x,hx,rfl⟩);simp [IJ] at this
 | some s=>have h1:=ac2 hf;have h2:=ac7 hf;obtain ⟨y,hy,rfl⟩:=aaS.1 h2;have h3:y.1.unit=x.1.unit:=of_decide_eq_true h1;rw [D0 hc hy hx h3]
theorem R1 (h1: ∀s,unesc (esc s)=some s) (h2: ∀s,(10:UInt8)∉esc s) {a b:Ct} {root u:Int} {lang:ae} (h:(bN it esc a root lang u).2=0) (hs:ij it esc b root lang (bN it esc a root lang u).1=false):
  aH a root lang=0∧aH b root lang=0∧ ∃s,(eh it a root lang).find? (fun s=>decide (s.unit=u))=some s∧(eh it b root lang).find? (fun s=>decide (s.unit=u))=some s:=by
 obtain ⟨ha0,x,hx,rfl⟩:=tR h;have ha:=dA ha0;have hca:=cJ (dz ha).1;rw [lZ ha0 hx] at hs
 have hval: ∀z∈cellsOf x.1.unit (an (au a.af lang) x.1.facts),dY it esc b lang root z=ef it esc a (au a.af lang) root z:=fun z hz=>by
  unfold ij gN at hs;rw [List.any_eq_false] at hs;have:=hs (z,ef it esc a (au a.af lang) root z) (aaS.2 ⟨z,hz,rfl⟩);simpa using this
 have hz1:(1,x.1.unit)∈cellsOf x.1.unit (an (au a.af lang) x.1.facts):=cu.2 (.inr (.inl rfl));have hne:=Bo (esc:=esc) hca (au a.af lang) root hx hz1;have hb:br b lang=true:=F4 (it:=it) (esc:=esc) (root:=root) (x:=(1,x.1.unit)) (by rw [hval _ hz1];exact hne);have hcb:=cJ (dz hb).1
 have hvb: ∀z∈cellsOf x.1.unit (an (au a.af lang) x.1.facts),ef it esc b (au b.af lang) root z=ef it esc a (au a.af lang) root z:=fun z hz=>by
  have h3:=hval z hz;have hn:=Bo (esc:=esc) hca (au a.af lang) root hx hz;rw [<-h3];unfold dY at h3⊢;rw [if_pos hb] at h3⊢;unfold xR at h3⊢;split
  ·rename_i h4;rw [if_pos h4] at h3;exact absurd h3.symm hn
  ·rfl
 obtain ⟨y,hy,hyu,hys⟩:=fresh h1 h2 hca hcb (au a.af lang) (au b.af lang) root hx hvb;obtain ⟨i,hi⟩:=Lg hcb hy
 have hb0:aH b root lang=0:=by unfold aH;rw [if_neg (by simp [(dz hb).1]),if_neg (by simp [(dz hb).2]),if_neg (by simp [hi])]
 refine ⟨ha0,hb0,_,D1 hca lang hx,?_⟩;have:=D1 (it:=it) hcb lang hy;rw [hyu,hys] at this;exact this
theorem kR {c:Ct} {root u:Int} {lang:ae} (h:(bN it esc c root lang u).2=0): ∃S:List Cell,gq S∧(1,u)∈S∧(2,u)∈S∧(bN it esc c root lang u).1=S.map (fun z=>(z,dY it esc c lang root z))∧ ∀z∈S,dY it esc c lang root z≠ []:=by
 obtain ⟨h0,x,hx,rfl⟩:=tR h;have hr:=dA h0;have hc:=cJ (dz hr).1;obtain ⟨n1,n2,n3,k,n4,n5⟩:=di hc hx;refine ⟨cellsOf x.1.unit (an (au c.af lang) x.1.facts),kO _ _,cu.2 (.inr (.inl rfl)),cu.2 (.inr (.inr rfl)),?_,fun z hz=> ?_⟩
 ·rw [lZ h0 hx];exact lq fun z hz=>(qO hr root n3 hz).symm
 ·rw [qO hr root n3 hz];exact Bo hc _ root hx hz
end Go.Proofs.YtfgbpngakkhdcaaGreatDoor
namespace Go.Proofs.YtfgbpngakkhdcaaGreatDoor
def Sh.pj (s:Sh):Sh:=⟨s.unit,s.par,s.level,s.mark,s.title,s.facts,none,0⟩
def Ct.pj (c:Ct):Ct:=⟨c.af,c.aD,c.ao.map Sh.pj,none,0,none,0,none,0⟩
def Ct.Wt (a b:Ct):Prop:=a.pj=b.pj
theorem sH: ∀(l:List Sh) (u:Int),aY (l.map Sh.pj) u=aY l u
 | [],_=>rfl
 | s::r,u=>by simp only [aaM,aY,sH r u];rfl
theorem Lh (pre:List Sh) (s:Sh):mg (pre.map Sh.pj) s.pj=mg pre s:=by unfold mg;rw [sH];rfl
theorem zL (af:List ae): ∀(l pre:List Sh) (path:List Int),nG af (pre.map Sh.pj) path (l.map Sh.pj)=nG af pre path l
 | [],_,_=>rfl
 | s::r,pre,path=>by
  have h1:(pre.map Sh.pj)++ [s.pj]=(pre++ [s]).map Sh.pj:=by simp
  have h2:gx path s.pj=gx path s:=rfl;simp only [aaM,nG,Lh,h2,h1,zL af r];rfl
theorem Oi (c:Ct):iE c.pj=iE c:=by
 have h:vU c.af (c.ao.map Sh.pj)=vU c.af c.ao:=by unfold vU;have:=zL c.af c.ao [] [];rw [abp];rw [show ([]:List Sh).map Sh.pj= [] from rfl] at this;rw [this]
 unfold iE;show (if qa c.af=0 then (if vQ c.af c.aD=0 then vU c.af (c.ao.map Sh.pj) else _) else _)=_;rw [h];rfl
theorem tS (c:Ct) (lang:ae):br c.pj lang=br c lang:=by unfold br;rw [Oi];rfl
theorem qP (it:Int->ae) (root:Int): ∀(l:List Sh) (st:NS),bK it root st (l.map Sh.pj)=(bK it root st l).map fun x=>(x.1.pj,x.2)
 | [],_=>rfl
 | s::r,st=>by
  have h:eo it root st s.pj=eo it root st s:=rfl;simp only [aaM,bK,h];rw [show s.pj.unit=s.unit from rfl];cases cw (eo it root st s).FT s.unit with
  | none=>exact qP it root r _
  | some n=>simp only [aaM];rw [qP it root r]
theorem zM (u:Int): ∀(l:List (Sh×ae)) (f:ae),fE u f (l.map fun x=>(x.1.pj,x.2))=fE u f l
 | [],_=>rfl
 | x::r,f=>by
  simp only [aaM,fE,zM u r];rfl
theorem F5 (it:Int->ae) (c:Ct) (root u:Int):cP it c.pj root u=cP it c root u:=by unfold cP;rw [show c.pj.ao=c.ao.map Sh.pj from rfl,qP,zM]
theorem Li (c:Ct):eZ c.pj.ao=eZ c.ao:=by
 funext u;unfold eZ;rw [show c.pj.ao=c.ao.map Sh.pj from rfl,sH];cases aY c.ao u with
 | none=>rfl
 | some i=>simp only [abo];cases c.ao[i]? <;> rfl
theorem Lj (it:Int->ae) (esc:ae->ae) (c:Ct) (order:List ae) (root:Int) (x:Cell):ef it esc c.pj order root x=ef it esc c order root x:=by
 unfold ef;rw [F5,Li,show c.pj.ao=c.ao.map Sh.pj from rfl,sH];cases aY c.ao x.2 with
 | none=>rfl
 | some i=>simp only [abo];cases c.ao[i]? <;> rfl
theorem D3 (it:Int->ae) (esc:ae->ae) (c:Ct) (lang:ae) (root:Int):dY it esc c.pj lang root=dY it esc c lang root:=by funext x;unfold dY xR;rw [tS,Lj];rfl
section
variable {a b:Ct} (h:a.Wt b)
include h
theorem Ct.Wt.right (lang:ae):br a lang=br b lang:=by rw [<-tS a,<-tS b,h]
theorem Ct.Wt.dY (it:Int->ae) (esc:ae->ae) (lang:ae) (root:Int):dY it esc a lang root=dY it esc b lang root:=by rw [<-D3 it esc a,<-D3 it esc b,h]
end
end Go.Proofs.YtfgbpngakkhdcaaGreatDoor
namespace Go.Proofs.YtfgbpngakkhdcaaGreatDoor
theorem xT {s:ae} (h:s.getD 0 0≠91):aj s=(0,0):=by unfold aj;rw [if_pos (.inr (.inl h))]
theorem Hn: ∀(t:ae) (n k m j:Nat),vt t n k=some (m,j)-> ∀i,i+k<j->aj (t.drop i)=(0,0)
 | [],_,_,_,_,h,_,_=>by cases h
 | c::r,n,k,m,j,h,i,hi=>by
  unfold vt at h;split at h
  ·rename_i hc;split at h
   ·cases h
   ·cases i with
    | zero=>refine xT fun h0=> ?_;have h0:c=91:=h0;subst h0;exact absurd hc (by decide)
    | succ i=>rw [acX];exact Hn r _ _ m j h i (by omega)
  ·split at h
   ·rename_i hc;cases h;obtain rfl:i=0:=by omega
    refine xT fun h0=> ?_;have h0:c=91:=h0;rw [h0] at hc;exact absurd hc (by decide)
   ·cases h
theorem Lk {s:ae} {i:Nat} (h0:0<i) (h:i<(aj s).2.toNat):(aj (s.drop i)).2=0:=by
 unfold aj at h;split at h
 ·cases h
 ·split at h
  ·rename_i n k hg;have:=Hn _ _ _ _ _ hg (i-1) (by simp at h;omega);rw [acV,show 1+(i-1)=i by omega] at this;rw [this]
  ·cases h
theorem m7 {look:Int->Option ae}: ∀(n:Nat) (s:ae),s.length<=n-> ∀i,i<s.length->(aj (s.drop i)).2≠0->look (aj (s.drop i)).1=none->c5 look s=none
 | _, [],_,i,hi,_,_=>by cases hi
 | 0,c::r,h,_,_,_,_=>by simp at h
 | n+1,c::r,h,i,hi,hp,hl=>by
  simp only [aaH] at h hi;by_cases h0:(aj (c::r)).2=0
  ·cases i with
   | zero=>exact absurd h0 hp
   | succ i=>rw [acX] at hp hl;rw [sG look c r h0,m7 n r (by omega) i (by omega) hp hl];rfl
  ·rw [pT look _ h0];by_cases hi0:i=0
   ·subst hi0;rw [acY] at hl;rw [hl]
   ·by_cases hin:i<(aj (c::r)).2.toNat
    ·exact absurd (Lk (by omega) hin) hp
    ·have hlen:((c::r).drop (aj (c::r)).2.toNat).length<=n:=by
      rcases dt (c::r) with h' | h'
      ·exact absurd (by rw [h']) h0
      ·simp only [abb,aaH];omega
     have e:(c::r).drop i=((c::r).drop (aj (c::r)).2.toNat).drop (i-(aj (c::r)).2.toNat):=by rw [acV];congr 1;omega
     rw [e] at hp hl;rw [m7 n _ hlen (i-(aj (c::r)).2.toNat) (by simp only [abb,aaH];omega) hp hl];cases look (aj (c::r)).1 <;> rfl
theorem u5 {l:List (Cell×ae)} {d:Int} {z:Cell} (hz:aw l z=none): ∀{fs:List (Nat×ae)} {f:Nat×ae},f∈fs->z∈lY f->j5 l d fs=none
 | [],_,h,_=>by cases h
 | g::r,f,h,hm=>by
  unfold j5;rcases aaQ.1 h with h | h
  ·subst h;unfold lY at hm;rcases aaQ.1 hm with hm | hm
   ·subst hm;rw [hz]
   ·unfold eM at hm;obtain ⟨i,hi,hc⟩:=abQ.1 hm;rw [abl] at hi;split at hc
    ·cases hc
    ·rename_i hne;cases hc;have:=m7 (look:=fun u=>aw l (4,u)) f.2.length f.2 (aa0 _) i hi hne hz;rw [this];cases aw l (3,(f.1:Int)) <;> rfl
  ·rw [u5 hz h hm];cases aw l (3,(g.1:Int)) with
   | none=>rfl
   | some a=>cases c5 (fun u=>aw l (4,u)) g.2 <;> rfl
theorem not_mem_erase: ∀{S:List Cell} (_:S.Nodup) {i:Nat} (h:i<S.length),S[i]∉S.eraseIdx i
 | x::r,hn,0,_=>by rw [aaU] at hn;exact hn.1
 | x::r,hn,i+1,h=>by
  rw [aaU] at hn;simp only [aaH] at h;simp only [List.getElem_cons_succ,acZ,aaQ,not_or];refine ⟨fun hx=>hn.1 ?_,not_mem_erase hn.2 (by omega)⟩;rw [<-hx];exact aa8 _
theorem sI: ∀{S:List Cell} {i:Nat} (h:i<S.length) {z:Cell},z∈S->z≠S[i]->z∈S.eraseIdx i
 | x::r,0,_,z,hz,hne=>by
  rcases aaQ.1 hz with h | h
  ·exact absurd h hne
  ·exact h
 | x::r,i+1,h,z,hz,hne=>by
  simp only [aaH] at h;simp only [acZ,aaQ];rcases aaQ.1 hz with h' | h'
  ·exact .inl h'
  ·exact .inr (sI (by omega) h' hne)
theorem F6 {it:Int->ae} {esc:ae->ae} {unesc:ae->Option ae} (h1: ∀s,unesc (esc s)=some s) (h2: ∀s,(10:UInt8)∉esc s) {c:Ct} (hc:gl c) (order:List ae) (root:Int) {x:Sh×ae} (hx:x∈bK it root ⟨[], []⟩ c.ao) {i:Nat} (hi:i<(cellsOf x.1.unit (an order x.1.facts)).length):
  (DV unesc x.1.unit (((cellsOf x.1.unit (an order x.1.facts)).eraseIdx i).map fun z=>(z,ef it esc c order root z))).1≠0:=by
 obtain ⟨n1,n2,n3,k,n4,n5⟩:=di hc hx;have hs:=hc.ao x.1 n3;have hnd:=gq.nodup (kO x.1.unit (an order x.1.facts));have hno:=not_mem_erase hnd hi;have hel: ∀f∈an order x.1.facts,1<=f.el:=fun f hf=>(hs.facts f (aM hf)).EP;have hmem:=aa8 hi;have hin: ∀{z:Cell},z∈cellsOf x.1.unit (an order x.1.facts)->z≠(cellsOf x.1.unit (an order x.1.facts))[i]->z∈(cellsOf x.1.unit (an order x.1.facts)).eraseIdx i:=fun hz hne=>sI hi hz hne;generalize hz:(cellsOf x.1.unit (an order x.1.facts))[i]=z at*
 generalize hS:(cellsOf x.1.unit (an order x.1.facts)).eraseIdx i=S at*
 have l0:aw (S.map fun z=>(z,ef it esc c order root z)) z=none:=by rw [gk,if_neg hno]
 unfold DV;by_cases z1:z=(1,x.1.unit)
 ·rw [z1] at l0;rw [l0];rw [if_pos (.inl rfl)];exact (by decide:(7:Int)≠0)
 by_cases z2:z=(2,x.1.unit)
 ·rw [z2] at l0;rw [l0];rw [if_pos (.inr rfl)];exact (by decide:(7:Int)≠0)
 have m1:(1,x.1.unit)∈S:=hin (cu.2 (.inr (.inl rfl))) (fun h=>z1 h.symm);have m2:(2,x.1.unit)∈S:=hin (cu.2 (.inr (.inr rfl))) (fun h=>z2 h.symm)
 have l1:aw (S.map fun z=>(z,ef it esc c order root z)) (1,x.1.unit)=some x.2:=by rw [gk,if_pos m1];simp [ef,n1]
 have l2:aw (S.map fun z=>(z,ef it esc c order root z)) (2,x.1.unit)=some (fZ esc order x.1):=by rw [gk,if_pos m2];simp [ef,n5,n4]
 have hfo:Oe 0 ((an order x.1.facts).map dG):=oF _ 0 (acU _) (kN hs.inc (fun f hf=>(hs.facts f hf).EP)) (fun f hf=>⟨(hs.facts f (aM hf)).JR,(hs.facts f (aM hf)).text⟩)
 have l3:gK unesc (fZ esc order x.1)=some ⟨x.1.level.toNat,x.1.title,x.1.mark,(an order x.1.facts).map dG⟩:=by have:=hs.l1;have:=hs.l2;exact kM h1 h2 (by omega) (by omega) hs.title hfo
 rw [l1,l2];simp only [abn];rw [if_neg (by simp only [not_or];exact ⟨n2,zJ esc order x.1⟩),l3];simp only;rcases cu.1 hmem with h | h | h
 ·rw [gM hel] at h;obtain ⟨f,hf,hzf⟩:=acd.1 h;rw [u5 l0 hf hzf];exact (by decide:(7:Int)≠0)
 ·exact absurd h z1
 ·exact absurd h z2
theorem tT {α β:Type} (f:α->β): ∀(l:List α) (i:Nat),(l.map f).eraseIdx i=(l.eraseIdx i).map f
 | [],_=>rfl
 | _::_,0=>rfl
 | x::r,i+1=>by simp [tT f r i]
theorem Wu {it:Int->ae} {esc:ae->ae} {unesc:ae->Option ae} (h1: ∀s,unesc (esc s)=some s) (h2: ∀s,(10:UInt8)∉esc s) {c:Ct} {root u:Int} {lang:ae} (h:(bN it esc c root lang u).2=0) {i:Nat} (hi:i<(bN it esc c root lang u).1.length):
  (dH unesc u ((bN it esc c root lang u).1.eraseIdx i)).1≠0:=by
 obtain ⟨h0,x,hx,rfl⟩:=tR h;rw [lZ h0 hx] at hi⊢;simp only [abp] at hi;simp only [tT];unfold dH;split
 ·exact F6 h1 h2 (cJ (dz (dA h0)).1) _ root hx hi
 ·decide
end Go.Proofs.YtfgbpngakkhdcaaGreatDoor
namespace Go.Proofs.YtfgbpngakkhdcaaGreatDoor
abbrev Mm:=List (Cell×ae)×mm
def gO (l:List Mm) (u:Int):Option Mm:=l.find? fun m=>decide (m.2.unit=u)
def Bp (unesc:ae->Option ae) (m:Mm):Bool:=(List.range m.1.length).all fun i=>decide ((dH unesc m.2.unit (m.1.eraseIdx i)).1≠0)
def iy (unesc:ae->Option ae) (m:Mm):Bool:=decide (dH unesc m.2.unit m.1=(0,some m.2))&&Bp unesc m
def dL (l:List Mm):List Int:=l.map fun m=>m.2.unit
def fF (unesc:ae->Option ae) (l:List Mm):Int:=if (dL l).Nodup then (if l.all (iy unesc)=true then 0 else 14) else 6
def pV (stale:List (Cell×ae)->Bool) (rd:Int->List (Cell×ae)) (old:List Mm) (s:mm):Mm×Bool:=
 match gO old s.unit with
 | some m=>if stale m.1=true then ((rd s.unit,s),true) else (m,false)
 | none=>((rd s.unit,s),true)
variable {it:Int->ae} {esc:ae->ae} {unesc:ae->Option ae}
def iT (it:Int->ae) (esc:ae->ae) (c:Ct) (root:Int) (lang:ae) (old:List Mm) (s:mm):Mm×Bool:=pV (ij it esc c root lang) (fun u=>(bN it esc c root lang u).1) old s
def aG (it:Int->ae) (esc:ae->ae) (c:Ct) (root:Int) (lang:ae) (old:List Mm):List Mm:=(eh it c root lang).map fun s=>(iT it esc c root lang old s).1
def fC (it:Int->ae) (esc:ae->ae) (c:Ct) (root:Int) (lang:ae) (old:List Mm):List Int:=((eh it c root lang).filter fun s=>(iT it esc c root lang old s).2).map mm.unit
theorem m8 {l:List Mm} {u:Int} {m:Mm} (h:gO l u=some m):m∈l∧m.2.unit=u:=⟨ac7 h,by have:=ac2 h;simpa using this⟩
theorem pq: ∀{l:List Mm} {m:Mm},(dL l).Nodup->m∈l->gO l m.2.unit=some m
 | x::r,m,hn,hm=>by
  unfold dL at hn;rw [aaM,aaU] at hn;unfold gO;rw [ac0];rcases aaQ.1 hm with h | h
  ·subst h;simp
  ·have hne:x.2.unit≠m.2.unit:=fun he=>hn.1 (by rw [he];exact aaS.2 ⟨m,h,rfl⟩);rw [show decide (x.2.unit=m.2.unit)=false by simpa using hne];exact pq hn.2 h
theorem F7 {l:List Mm} {u:Int} (h:gO l u=none): ∀m∈l,m.2.unit≠u:=fun m hm=>by
 have:=ac1.1 h m hm;simpa using this
structure Good (it:Int->ae) (esc:ae->ae) (root:Int) (lang:ae) (m:Mm):Prop where
 made: ∃a:Ct,aH a root lang=0∧bN it esc a root lang m.2.unit=(m.1,0)∧m.2∈eh it a root lang
theorem sJ {c:Ct} {root:Int} {lang:ae} {s:mm} (h:s∈eh it c root lang): ∃x∈bK it root ⟨[], []⟩ c.ao,s=kZ it (au c.af lang) c x∧s.unit=x.1.unit:=by obtain ⟨x,hx,rfl⟩:=aaS.1 h;exact ⟨x,hx,rfl,rfl⟩
theorem pv {c:Ct} {root:Int} {lang:ae} (h:aH c root lang=0):gl c:=cJ (rf h).1
theorem D4 {c:Ct} (hc:gl c) {root:Int} {lang:ae} {s t:mm} (hs:s∈eh it c root lang) (ht:t∈eh it c root lang) (h:s.unit=t.unit):s=t:=by obtain ⟨x,hx,rfl,h1⟩:=sJ hs;obtain ⟨y,hy,rfl,h2⟩:=sJ ht;rw [D0 hc hx hy (by rw [<-h1,<-h2,h])]
theorem u6 {l:List Sh} (hu:kf l) (root:Int): ∀(r:List Sh) (i:Nat),l.drop i=r->((fP it l root i r).map fun x=>x.1.unit).Nodup∧ ∀x∈fP it l root i r,∃k,i<=k∧l[k]?=some x.1
 | [],_,_=>⟨ac9,fun x h=>by cases h⟩
 | s::r,i,hd=>by
  have hs:l[i]?=some s:=by rw [<-ac3,hd];rfl
  have hd':l.drop (i+1)=r:=by rw [<-ada,hd];rfl
  obtain ⟨h1,h2⟩:=u6 hu root r (i+1) hd';unfold fP;split
  ·refine ⟨?_,fun x hx=> ?_⟩
   ·rw [aaM,aaU];refine ⟨fun hm=> ?_,h1⟩;obtain ⟨x,hx,he⟩:=aaS.1 hm;obtain ⟨k,hk,hkx⟩:=h2 x hx;have:=lV hu hkx hs he;omega
   ·rcases aaQ.1 hx with h | h
    ·exact ⟨i,aa0 _,by rw [h];exact hs⟩
    ·obtain ⟨k,hk,hkx⟩:=h2 x h;exact ⟨k,by omega,hkx⟩
  ·refine ⟨h1,fun x hx=> ?_⟩;obtain ⟨k,hk,hkx⟩:=h2 x hx;exact ⟨k,by omega,hkx⟩
theorem pz {c:Ct} (hc:gl c) (root:Int) (lang:ae):((eh it c root lang).map mm.unit).Nodup:=by unfold eh;rw [ab2,ig it hc.valid root];exact (u6 hc.valid.uniq root c.ao 0 rfl).1
theorem tU (stale:List (Cell×ae)->Bool) (rd:Int->List (Cell×ae)) (old:List Mm) (s:mm):(pV stale rd old s).1.2.unit=s.unit:=by
 unfold pV;cases hf:gO old s.unit with
 | none=>rfl
 | some m=>
  simp only;split
  ·rfl
  ·exact (m8 hf).2
theorem iU (c:Ct) (root:Int) (lang:ae) (old:List Mm):dL (aG it esc c root lang old)=(eh it c root lang).map mm.unit:=by unfold dL aG;rw [ab2];exact ab9 fun s _=>tU _ _ old s
theorem jz {c:Ct} {root:Int} {lang:ae} (h:aH c root lang=0) {s:mm} (hs:s∈eh it c root lang):(bN it esc c root lang s.unit).2=0:=by obtain ⟨x,hx,_,hu⟩:=sJ hs;rw [hu,lZ h hx]
theorem zN (h1: ∀s,unesc (esc s)=some s) (h2: ∀s,(10:UInt8)∉esc s) {c:Ct} {root:Int} {lang:ae} (h:aH c root lang=0) {old:List Mm} (ho: ∀m∈old,Good it esc root lang m) {s:mm} (hs:s∈eh it c root lang):
  Good it esc root lang (iT it esc c root lang old s).1∧(iT it esc c root lang old s).1.2=s:=by
 have hnew:Good it esc root lang ((bN it esc c root lang s.unit).1,s):=⟨c,h,Prod.ext rfl (jz h hs),hs⟩;unfold iT pV;cases hf:gO old s.unit with
 | none=>exact ⟨hnew,rfl⟩
 | some m=>
  simp only;obtain ⟨hm,hu⟩:=m8 hf;have hg:=ho m hm;split
  ·exact ⟨hnew,rfl⟩
  ·rename_i hst;refine ⟨hg,?_⟩;obtain ⟨a,ha,hr,hsa⟩:=hg.made;rw [hu] at hr;have hst:ij it esc c root lang m.1=false:=by simpa using hst
   rw [show m.1=(bN it esc a root lang s.unit).1 by rw [hr]] at hst;obtain ⟨_,_,t,t1,t2⟩:=R1 (unesc:=unesc) h1 h2 (by rw [hr]) hst;have u1:=ac2 t1;have u2:=ac2 t2;simp only [decide_eq_true_eq] at u1 u2;have e1:=D4 (pv ha) hsa (ac7 t1) (by rw [hu,u1]);have e2:=D4 (pv h) hs (ac7 t2) (by rw [u2]);show m.2=s;rw [e1,e2]
theorem qQ (h1: ∀s,unesc (esc s)=some s) (h2: ∀s,(10:UInt8)∉esc s) {c:Ct} {root:Int} {lang:ae} (h:aH c root lang=0) {old:List Mm} (ho: ∀m∈old,Good it esc root lang m):
  (∀m∈aG it esc c root lang old,Good it esc root lang m)∧(aG it esc c root lang old).map Prod.snd=eh it c root lang:=by
 refine ⟨fun m hm=> ?_,?_⟩
 ·obtain ⟨s,hs,rfl⟩:=aaS.1 hm;exact (zN h1 h2 h ho hs).1
 ·unfold aG;rw [ab2]
  conv=>rhs;rw [<-ac5 (eh it c root lang)]
  exact ab9 fun s hs=>(zN h1 h2 h ho hs).2
theorem D5 (h1: ∀s,unesc (esc s)=some s) (h2: ∀s,(10:UInt8)∉esc s) {root:Int} {lang:ae} {m:Mm} (h:Good it esc root lang m):iy unesc m=true:=by
 obtain ⟨a,ha,hr,hs⟩:=h.made;obtain ⟨x,hx,hsx,hu⟩:=sJ hs;unfold iy Bp;rw [abj,decide_eq_true_eq,abH];refine ⟨?_,fun i hi=> ?_⟩
 ·have:=(Oh (unesc:=unesc) h1 h2 ha hx).2;rw [<-hu,hr,<-hsx] at this;exact this
 ·rw [abl] at hi;rw [decide_eq_true_eq];have:=Wu (unesc:=unesc) (u:=m.2.unit) (i:=i) h1 h2 (c:=a) (root:=root) (lang:=lang) (by rw [hr]) (by rw [hr];exact hi);rw [hr] at this;exact this
theorem qR (h1: ∀s,unesc (esc s)=some s) (h2: ∀s,(10:UInt8)∉esc s) {root:Int} {lang:ae} {l:List Mm} (h: ∀m∈l,Good it esc root lang m) (hn:(dL l).Nodup):fF unesc l=0:=by unfold fF;rw [if_pos hn,if_pos (abH.2 fun m hm=>D5 h1 h2 (h m hm))]
theorem oG (h1: ∀s,unesc (esc s)=some s) (h2: ∀s,(10:UInt8)∉esc s) {c:Ct} {root:Int} {lang:ae} (h:aH c root lang=0) {old:List Mm} (ho: ∀m∈old,Good it esc root lang m):fF unesc (aG it esc c root lang old)=0:=
 qR h1 h2 (qQ h1 h2 h ho).1 (by rw [iU];exact pz (pv h) root lang)
theorem R2 {c:Ct} {root:Int} {lang:ae} (h:aH c root lang=0):aG it esc c root lang (aG it esc c root lang [])=aG it esc c root lang []∧fC it esc c root lang (aG it esc c root lang [])= []:=by
 have hn:(dL (aG it esc c root lang [])).Nodup:=by rw [iU];exact pz (pv h) root lang
 have hp: ∀s∈eh it c root lang,iT it esc c root lang (aG it esc c root lang []) s=(((bN it esc c root lang s.unit).1,s),false):=fun s hs=>by
  have hm:((bN it esc c root lang s.unit).1,s)∈aG it esc c root lang []:=aaS.2 ⟨s,hs,rfl⟩;have hf:=pq hn hm;have hf:gO (aG it esc c root lang []) s.unit=some ((bN it esc c root lang s.unit).1,s):=hf;unfold iT pV;rw [hf];simp only;obtain ⟨S,_,_,_,hS,_⟩:=kR (jz (esc:=esc) h hs)
  have:ij it esc c root lang (bN it esc c root lang s.unit).1=false:=by rw [hS];exact IG _ S
  rw [this,if_neg (by simp)]
 refine ⟨ab9 fun s hs=>by rw [hp s hs];rfl,?_⟩;unfold fC;rw [ab1,List.filter_eq_nil_iff];intro s hs;rw [hp s hs];simp
theorem Oj (b:Ct) (root:Int) (lang:ae) (old:List Mm):fC it esc b root lang old=((aG it esc b root lang old).filter fun m=>match gO old m.2.unit with | some x=>ij it esc b root lang x.1 | none=>true).map fun m=>m.2.unit:=by
 unfold fC aG;rw [List.filter_map,ab2]
 have:((fun m:Mm=>m.2.unit)∘fun s=>(iT it esc b root lang old s).1)=mm.unit:=by funext s;exact tU _ _ old s
 rw [this];congr 1;refine List.filter_congr fun s _=> ?_;show _=(match gO old (iT it esc b root lang old s).1.2.unit with | some x=>ij it esc b root lang x.1 | none=>true);rw [show (iT it esc b root lang old s).1.2.unit=s.unit from tU _ _ old s];unfold iT pV;cases gO old s.unit with
 | none=>rfl
 | some m=>simp only;split <;> rename_i hh <;> simp_all
def bR (l:List Mm):List Cell:=(l.flatMap fun m=>m.1.map Prod.fst).foldl lp []
theorem qS {l:List Mm} {z:Cell}:z∈bR l↔ ∃m∈l,z∈m.1.map Prod.fst:=by unfold bR;rw [tO];simp only [List.not_mem_nil,or_false,acd]
theorem F8 (l:List Mm):gq (bR l):=tN _ _ trivial
def oH (l:List Mm) (cs:List Cell):List Int:=(l.filter fun m=>m.1.any fun r=>decide (r.1∈cs)).map fun m=>m.2.unit
theorem R3 {a b:Ct} {root:Int} {lang:ae} (ha:aH a root lang=0) {u:Int} (hb:u∈(eh it b root lang).map mm.unit) (hu:u∈dL (aG it esc a root lang [])):
  u∈fC it esc b root lang (aG it esc a root lang [])↔u∈oH (aG it esc a root lang []) (eU it esc a b root lang (bR (aG it esc a root lang []))):=by
 have hn:(dL (aG it esc a root lang [])).Nodup:=by rw [iU];exact pz (pv ha) root lang
 have hform: ∀m∈aG it esc a root lang [],∃S:List Cell,m.1=S.map fun z=>(z,dY it esc a lang root z):=fun m hm=>by
  obtain ⟨s,hs,rfl⟩:=aaS.1 hm;obtain ⟨S,_,_,_,hS,_⟩:=kR (jz (esc:=esc) ha hs);exact ⟨S,hS⟩
 generalize aG it esc a root lang []=K at*
 obtain ⟨m,hm,rfl⟩:=aaS.1 hu;have hf:=pq hn hm;obtain ⟨S,hS⟩:=hform m hm
 have e1:m.2.unit∈fC it esc b root lang K↔ij it esc b root lang m.1=true:=by
  unfold fC;simp only [aaS,abP];constructor
  ·rintro ⟨s,⟨hs,hp⟩,hsu⟩;unfold iT pV at hp;rw [hsu,hf] at hp;simp only at hp;split at hp
   ·assumption
   ·cases hp
  ·intro hst;obtain ⟨s,hs,hsu⟩:=aaS.1 hb;refine ⟨s,⟨hs,?_⟩,hsu⟩;unfold iT pV;rw [hsu,hf];simp only [hst,if_true]
 have e2:m.2.unit∈oH K (eU it esc a b root lang (bR K))↔ ∃r∈m.1,r.1∈eU it esc a b root lang (bR K):=by
  unfold oH;simp only [aaS,abP,acq,decide_eq_true_eq];constructor
  ·rintro ⟨x,⟨hx,r,hr,hrc⟩,hxu⟩;have:=pq hn hx;rw [hxu,hf] at this;cases this;exact ⟨r,hr,hrc⟩
  ·rintro ⟨r,hr,hrc⟩;exact ⟨m,⟨hm,r,hr,hrc⟩,rfl⟩
 rw [e1,e2];unfold ij gN eU iw;simp only [acq,decide_eq_true_eq,abP,qS];constructor
 ·rintro ⟨r,hr,hne⟩;refine ⟨r,hr,⟨m,hm,aaS.2 ⟨r,hr,rfl⟩⟩,?_⟩;rw [hS] at hr;obtain ⟨z,_,rfl⟩:=aaS.1 hr;exact fun h=>hne h.symm
 ·rintro ⟨r,hr,_,hne⟩;refine ⟨r,hr,?_⟩;rw [hS] at hr;obtain ⟨z,_,rfl⟩:=aaS.1 hr;exact fun h=>hne h.symm
end Go.Proofs.YtfgbpngakkhdcaaGreatDoor
namespace Go.Proofs.YtfgbpngakkhdcaaGreatDoor
variable {it:Int->ae} {esc:ae->ae} {unesc:ae->Option ae}
theorem D6 {l:List Sh} {root:Int} {k:Nat} (hb:sy l root k=true): ∀(r:List Sh) (i:Nat),l.drop i=r->i<=k->k<l.length->fP it l root i r≠ []
 | [],i,hd,hik,hk=>by
  have:=congrArg List.length hd;simp at this;omega
 | s::r,i,hd,hik,hk=>by
  have hd':l.drop (i+1)=r:=by rw [<-ada,hd];rfl
  unfold fP;split
  ·simp
  ·rename_i hn;have hne:i≠k:=fun e=>by subst e;exact hn hb
   exact D6 hb r (i+1) hd' (by omega) hk
theorem R4 {c:Ct} {root:Int} {lang:ae} (h:aH c root lang=0):eh it c root lang≠ []:=by
 obtain ⟨h1,_,i,hi⟩:=rf h;have hc:=cJ h1;obtain ⟨s,hs,hu⟩:=iS hi;obtain ⟨t,ht⟩:=xM hs
 have hb:sy c.ao root i=true:=by unfold sy;rw [ht,hu];simp
 unfold eh;rw [ig it hc.valid root];intro h;exact D6 (it:=it) hb c.ao 0 rfl (acH _) (ep hi) (ab1.1 h)
theorem Ll {c:Ct} {root:Int} {lang:ae} (h:aH c root lang=0):bR (aG it esc c root lang [])≠ []:=by
 intro he;obtain ⟨s,r,hs⟩:=List.exists_cons_of_ne_nil (R4 (it:=it) h);have hm:s∈eh it c root lang:=by rw [hs];simp
 obtain ⟨S,_,h1,_,hS,_⟩:=kR (jz (esc:=esc) h hm)
 have:((1,s.unit):Cell)∈bR (aG it esc c root lang []):=by rw [qS];refine ⟨((bN it esc c root lang s.unit).1,s),aaS.2 ⟨s,hm,rfl⟩,?_⟩;rw [hS,ab2];exact aaS.2 ⟨_,h1,rfl⟩
 rw [he] at this;cases this
theorem Ho: ∀(l:List Cell) (x:Cell),(lp l x).length<=l.length+1
 | [],x=>by simp [lp]
 | y::r,x=>by
  have:=Ho r x;unfold lp;split
  ·simp only [aaH];omega
  ·split <;> simp
theorem D7: ∀(l K:List Cell),(l.foldl lp K).length<=K.length+l.length
 | [],K=>by simp
 | x::r,K=>by
  have h1:=D7 r (lp K x);have h2:=Ho K x;simp only [List.foldl_cons,aaH];omega
theorem IK {l:List Mm} {N:Nat} (h: ∀m∈l,m.1.length<=N):(bR l).length<=l.length*N:=by
 have h1:=D7 (l.flatMap fun m=>m.1.map Prod.fst) []
 have h2:(l.flatMap fun m=>m.1.map Prod.fst).length<=l.length*N:=by
  clear h1
  induction l with
  | nil=>simp
  | cons x r ih=>have h3:=h x (by simp);have h4:=ih (fun m hm=>h m (by simp [hm]));simp only [abr,aba,abp,aaH,Nat.add_mul,Nat.one_mul];omega
 unfold bR;simp only [List.length_nil] at h1;omega
def oI (u:Int):List Mm->Nat->Int
 | [],_=> -1
 | m::r,i=>if m.2.unit=u then (i:Int) else oI u r (i+1)
theorem qT (u:Int): ∀(l:List Mm) (i:Nat),(∃k m,gO l u=some m∧oI u l i=((i+k:Nat):Int)∧l[k]?=some m)∨(gO l u=none∧oI u l i= -1)
 | [],i=> .inr ⟨rfl,rfl⟩
 | x::r,i=>by
  unfold oI gO;rw [ac0];by_cases h:x.2.unit=u
  ·rw [if_pos h,show decide (x.2.unit=u)=true by simpa using h];exact .inl ⟨0,x,rfl,by simp,rfl⟩
  ·rw [if_neg h,show decide (x.2.unit=u)=false by simpa using h];rcases qT u r (i+1) with ⟨k,m,h1,h2,h3⟩ | ⟨h1,h2⟩
   ·exact .inl ⟨k+1,m,h1,by rw [h2];congr 1;omega,by simpa using h3⟩
   ·exact .inr ⟨h1,h2⟩
theorem IL (u:Int) (l:List Mm):0<=oI u l 0↔u∈dL l:=by
 rcases qT u l 0 with ⟨k,m,h1,h2,h3⟩ | ⟨h1,h2⟩
 ·rw [h2];obtain ⟨h4,h5⟩:=m8 h1;exact ⟨fun _=>aaS.2 ⟨m,h4,h5⟩,fun _=>by omega⟩
 ·rw [h2];refine ⟨fun h=>absurd h (by decide),fun h=> ?_⟩;obtain ⟨m,hm,hu⟩:=aaS.1 h;exact absurd hu (F7 h1 m hm)
def Wv (it:Int->ae) (esc:ae->ae) (b:Ct) (root:Int) (lang:ae) (old:List Mm) (m:Mm):Bool:=match gO old m.2.unit with | some x=>ij it esc b root lang x.1 | none=>true
end Go.Proofs.YtfgbpngakkhdcaaGreatDoor
