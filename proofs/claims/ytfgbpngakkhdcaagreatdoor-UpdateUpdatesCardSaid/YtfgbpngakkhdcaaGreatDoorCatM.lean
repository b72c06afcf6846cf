/- Catalogs as plain values: -/
import Derived.Test.YtfgbpngakkhdcaaGreatDoorStrM
open Bool renaming false->τ,true->O,and_eq_true->ι,false_eq_true->ψ,false_or->Τ,or_eq_true->Λ
open Go.Lib renaming compareBytes->X,indexByte->P
open Int renaming le_refl->ξ
open List renaming length->É,any_cons->κ,any_eq_true->Ζ,append_nil->ώ,cons_append->N,drop_left->ϐ,drop_succ_cons->δ,drop_zero->Α,filter_cons->Ε,find?_cons->ρ,find?_some->Μ,findSome?_cons->ε,flatMap_cons->R,getElem?_append_left->Γ,getElem?_map->Ω,getElem?_take->φ,head?_drop->π,length_append->χ,length_cons->G,length_drop->Y,length_singleton->θ,length_take->V,map_congr_left->υ,map_cons->Q,mem_append->Ν,mem_append_left->μ,mem_cons->H,mem_cons_of_mem->ο,mem_cons_self->Φ,mem_of_find?_eq_some->γ,mem_of_getElem?->T,nil_append->Κ,range->Υ,tail_drop->Β,take_append->ϊ,take_of_length_le->Η,take_succ_cons->σ,take_take->Ξ
open Nat renaming le_refl->Δ,le_trans->Ψ,min_eq_left->Ι,mul_assoc->ϒ,mul_comm->Χ,mul_le_mul_right->Z,pow_le_pow_right->Ρ,pow_succ->ϕ,strongRecOn->Θ,zero_add->ϔ,zero_le->Ο
open Option renaming none->J,some->E,getD_some->ό,map_none->ύ,map_some->W
open Option.some renaming injEq->M
open Prod renaming fst->ϑ
open Prod.mk renaming injEq->ϓ
open _root_ renaming Bool->ω,List->B,Nat->K,Option->D,UInt8->L,absurd->I,beq_iff_eq->Ϗ,decidable_of_iff->ϋ,decide_eq_true_eq->η,dif_neg->ϖ,dif_pos->ϗ,if_false->ν,if_neg->C,if_pos->F,if_true->ζ,not_or->U
set_option linter.all false
namespace Go.Proofs.YtfgbpngakkhdcaaGreatDoor
def mC (e:Int) (s:ae) (f:Int) (t:ae):ω:=decide (e<f\/e=f/\X s t<0)
structure Lb where
 el:Int
 lang:ae
 text:ae
 ix:Int
structure Fc where
 el:Int
 lang:ae
 text:ae
structure Sh where
 unit:Int
 par:Int
 level:Int
 mark:ae
 title:ae
 facts:B Fc
 fn:D ω
 fz:K
structure Ct where
 ad:B ae
 av:B Lb
 ai:B Sh
 ln:D ω
 lz:K
 bn:D ω
 bz:K
 sn:D ω
 sz:K
def Cc (s:ae):ω:=decide (É s=2)&&(decide (97<=(s.getD 0 0).toNat/\(s.getD 0 0).toNat<=122)&&decide (97<=(s.getD 1 0).toNat/\(s.getD 1 0).toNat<=122))
def cD (l:B ae) (s:ae):ω:=l.any (s== ·)
def ej:B ae->B ae->Int
 | _, []=>0
 | pre,s::r=>if Cc s=τ then 4 else if cD pre s=O then 6 else ej (pre++ [s]) r
def lQ (l:B ae):Int:=if (É l)<1\/8<É l then 2 else ej [] l
def ux (ad:B ae) (p:D Lb) (l:Lb):Int:=
 if l.el<1\/64<l.el\/l.ix<0\/3<l.ix then 2 else if cD ad l.lang=τ then 7 else if l.text.length<1\/64<l.text.length then 4 else
 match p with
 | none=>0
 | some p=>if mC p.el p.lang l.el l.lang=τ then 5 else if p.el=l.el/\p.ix≠l.ix then 10 else 0
def e7 (ad:B ae):D Lb->B Lb->Int
 | _, []=>0
 | p,l::r=>if ux ad p l=0 then e7 ad (E l) r else ux ad p l
def qN (ad:B ae) (l:B Lb):Int:=if 256<É l then 8 else e7 ad J l
def wJ (ad:B ae) (p:D Fc) (f:Fc):Int:=
 if f.el<1\/64<f.el then 2 else if cD ad f.lang=τ then 7 else if f.text.length<1\/4096<f.text.length then 4 else
 match p with
 | none=>0
 | some p=>if mC p.el p.lang f.el f.lang=τ then 5 else 0
def e8 (ad:B ae):D Fc->B Fc->Int
 | _, []=>0
 | p,f::r=>if wJ ad p f=0 then e8 ad (E f) r else wJ ad p f
def k9 (ad:B ae) (l:B Fc):Int:=if 32<É l then 8 else e8 ad J l
def aL:B Sh->Int->D K
 | [],_=>J
 | s::r,u=>if s.unit=u then E 0 else (aL r u).map (· +1)
def rA:B Int->Int->D K
 | [],_=>J
 | x::r,u=>if x=u then E 0 else (rA r u).map (· +1)
def aJ (o:D K):Int:=match o with | some n=>n | none=> -1
def kY (pre:B Sh) (s:Sh):Int:=
 if s.unit<1\/1073741824<s.unit\/s.level<1\/4<s.level then 2 else
 if 64<s.mark.length\/s.title.length<1\/64<s.title.length then 4 else if (aL pre s.unit).isSome=O then 6 else 0
def gU (path:B Int) (s:Sh):D K:=if s.par=0 then E 0 else (rA path s.par).map (· +1)
def oK (ad:B ae):B Sh->B Int->B Sh->Int
 | _,_, []=>0
 | pre,path,s::r=>if kY pre s=0 then
   (match gU path s with
   | none=>7
   | some k=>if 12<=k then 15 else if k9 ad s.facts=0 then oK ad (pre++ [s]) (path.take k++ [s.unit]) r else k9 ad s.facts)
  else kY pre s
def xw (ad:B ae) (l:B Sh):Int:=if 256<É l then 8 else oK ad [] [] l
def dU (c:Ct):Int:=if lQ c.ad=0 then (if qN c.ad c.av=0 then xw c.ad c.ai else qN c.ad c.av) else lQ c.ad
theorem cN: ∀{l:B Sh} {u:Int} {k:K},aL l u=E k->k<É l
 | s::r,u,k,h=>by
  unfold aL at h;split at h
  ·cases h;simp
  ·cases hr:aL r u with
   | none=>rw [hr] at h;cases h
   | some j=>rw [hr] at h;simp only [W,M] at h;have:=cN hr;simp only [G];omega
def chain (l:B Sh) (i:K):B Int:=
 match h:l[i]? with
 | none=> []
 | some s=>s.unit::(if s.par=0 then [] else
  match hj:aL (l.take i) s.par with
  | some j=>chain l j
  | none=> [])
termination_by i
decreasing_by
 have:=cN hj;simp only [V] at this;omega
def iM (l:B Sh) (i:K) (s:Sh):D K:=
 if s.par=0 then E 0 else if i=0 then J else if (chain l (i-1)).contains s.par=O then
  E (match aL (l.take i) s.par with | some j=>(chain l j).length | none=>0) else J
def tX (ad:B ae) (l:B Sh) (i:K) (s:Sh):Int:=
 if kY (l.take i) s=0 then
  (match iM l i s with
  | none=>7
  | some k=>if 12<=k then 15 else k9 ad s.facts)
 else kY (l.take i) s
def l8 (ad:B ae) (l:B Sh):K->B Sh->Int
 | _, []=>0
 | i,s::r=>if tX ad l i s=0 then l8 ad l (i+1) r else tX ad l i s
def QU (ad:B ae) (l:B Sh):Int:=if 256<É l then 8 else l8 ad l 0 l
theorem da {l:B Sh} {i:K} {s:Sh} (h:l[i]?=E s):chain l i=s.unit::(if s.par=0 then [] else match aL (l.take i) s.par with | some j=>chain l j | none=> []):=by
 rw [chain];split
 ·rename_i h';rw [h'] at h;cases h
 ·rename_i s' h';rw [h'] at h;cases h;congr 1;split
  ·rfl
  ·split
   ·rename_i h1;rw [h1]
   ·rename_i h1;rw [h1]
theorem kQ: ∀{l:B Sh} {u:Int} {k:K},aL l u=E k-> ∃s,l[k]?=E s/\s.unit=u
 | s::r,u,k,h=>by
  unfold aL at h;split at h
  ·cases h;exact ⟨s,rfl,by assumption⟩
  ·cases hr:aL r u with
   | none=>rw [hr] at h;cases h
   | some j=>rw [hr] at h;simp only [W,M] at h;subst h;obtain ⟨x,h1,h2⟩:=kQ hr;exact ⟨x,by simpa using h1,h2⟩
def l6 (l:B Sh):Prop:= ∀(i:K) (s:Sh),l[i]?=E s->aL (l.take i) s.unit=J
theorem ka: ∀{l:B Sh} {j:K} {s:Sh},l[j]?=E s->aL (l.take j) s.unit=none->aL l s.unit=E j
 | x::r,0,s,h,_=>by cases h;simp [aL]
 | x::r,j+1,s,h,hn=>by
  simp only [σ,aL] at hn;split at hn
  ·cases hn
  ·rename_i hx
   rw [aL,C hx,ka (l:=r) (j:=j) h (by
    cases hr:aL (r.take j) s.unit with
    | none=>rfl
    | some k=>rw [hr] at hn;cases hn)]
   rfl
theorem yW {l:B Sh}: ∀(i:K) (u:Int),u∈chain l i-> ∃(p:B Int) (j:K) (s:Sh),j<=i/\l[j]?=E s/\s.unit=u/\chain l i=p++chain l j/\u∉p:=by
 intro i
 induction i using Θ with
 | _ i ih=>
  intro u hu;cases hs:l[i]? with
  | none=>
   rw [chain] at hu;split at hu
   ·cases hu
   ·rename_i h;rw [hs] at h;cases h
  | some s=>
   by_cases hsu:s.unit=u
   ·exact ⟨[],i,s,Δ _,hs,hsu,rfl,by simp⟩
   ·rw [da hs] at hu⊢;rcases List.mem_cons.1 hu with rfl | hu
    ·exact I rfl hsu
    ·split at hu
     ·cases hu
     ·rename_i hp;rw [C hp];split at hu
      ·rename_i j hj;have hlt:=cN hj;simp only [V] at hlt;obtain ⟨p,k,t,h1,h2,h3,h4,h5⟩:=ih j (by omega) u hu;refine ⟨s.unit::p,k,t,by omega,h2,h3,by rw [h4];rfl,?_⟩;simp only [H,U];exact ⟨fun h=>hsu h.symm,h5⟩
      ·cases hu
theorem pJ {l:B Sh} (i:K) (u:Int) (h:u∈chain l i): ∃(j:K) (s:Sh),j<=i/\l[j]?=E s/\s.unit=u:=by obtain ⟨_,j,s,h1,h2,h3,_⟩:=yW i u h;exact ⟨j,s,h1,h2,h3⟩
theorem HW {l:B Sh} {j:K} {s:Sh} (h:l[j]?=E s): ∃t,chain l j=s.unit::t:=⟨_,da h⟩
theorem qq {l:B Sh} (hu:l6 l) {i j:K} {s t:Sh} (h1:l[i]?=E s) (h2:l[j]?=E t) (h:s.unit=t.unit):i=j:=by have e1:=ka h1 (hu i s h1);have e2:=ka h2 (hu j t h2);rw [h] at e1;rw [e1] at e2;exact Option.some.inj e2
theorem Fv {l:B Sh} (hu:l6 l): ∀i,(chain l i).Nodup:=by
 intro i
 induction i using Θ with
 | _ i ih=>
  cases hs:l[i]? with
  | none=>
   rw [chain];split
   ·exact List.nodup_nil
   ·rename_i h;rw [hs] at h;cases h
  | some s=>
   rw [da hs];split
   ·simp
   ·split
    ·rename_i j hj;have hlt:=cN hj;simp only [V] at hlt;refine List.nodup_cons.2 ⟨fun hm=> ?_,ih j (by omega)⟩;obtain ⟨k,t,h1,h2,h3⟩:=pJ j _ hm;have:=qq hu h2 hs h3;omega
    ·simp
theorem Fw: ∀(a:B Int) (u:Int) (b:B Int),u∉a->rA (a++u::b) u=E (É a)
 | [],u,b,_=>by simp [rA]
 | x::a,u,b,h=>by
  simp only [H,U] at h;rw [N,rA,C (fun hx=>h.1 hx.symm),Fw a u b h.2];rfl
theorem A8: ∀(a:B Int) (u:Int),u∉a->rA a u=J
 | [],u,_=>rfl
 | x::a,u,h=>by
  simp only [H,U] at h;rw [rA,C (fun hx=>h.1 hx.symm),A8 a u h.2];rfl
theorem A9 {l:B Sh} (hu:l6 l) {i j:K} {s:Sh} (hj:l[j]?=E s) (ľ:j<i):aL (l.take i) s.unit=E j:=by refine ka (l:=l.take i) (by rw [φ,F ľ];exact hj) ?_;rw [Ξ,Ι (by omega)];exact hu j s hj
def iN (l:B Sh) (i:K):B Int:=if i=0 then [] else (chain l (i-1)).reverse
theorem HX {l:B Sh} (hu:l6 l) (i:K) (s:Sh) (hs:l[i]?=E s):
  gU (iN l i) s=iM l i s/\ ∀k,gU (iN l i) s=E k->(iN l i).take k++ [s.unit]=(chain l i).reverse:=by
 unfold gU iM iN;by_cases hp:s.par=0
 ·rw [F hp,F hp];refine ⟨rfl,fun k hk=> ?_⟩;cases hk;rw [da hs,F hp];simp
 ·rw [C hp,C hp];by_cases h0:i=0
  ·rw [F h0,F h0];exact ⟨rfl,fun k hk=>by cases hk⟩
  ·rw [C h0,C h0];by_cases hm:s.par∈chain l (i-1)
   ·obtain ⟨p,j,t,h1,h2,h3,h4,h5⟩:=yW (i-1) s.par hm;obtain ⟨r,hr⟩:=HW h2;have Į:=Fv hu (i-1)
    have e1:(chain l (i-1)).reverse=r.reverse++s.par::p.reverse:=by rw [h4,hr,h3];simp
    have Ł:s.par∉r.reverse:=by rw [h4,hr,h3] at Į;have:=(List.nodup_append.1 Į).2.1;exact fun h=>(List.nodup_cons.1 this).1 (List.mem_reverse.1 h)
    have e2:rA ((chain l (i-1)).reverse) s.par=E (É r):=by rw [e1,Fw _ _ _ Ł,List.length_reverse]
    have e3:aL (l.take i) s.par=E j:=by rw [<-h3];exact A9 hu h2 (by omega)
    rw [e2,F (by simpa using hm),e3];refine ⟨by simp [hr],fun k hk=> ?_⟩;simp only [W,M] at hk;subst hk;rw [da hs,C hp,e3,e1];simp only [hr,h3];simp [ϊ];rw [Η (by simp)]
   ·rw [A8 _ _ (fun h=>hm (List.mem_reverse.1 h)),C (by simpa using hm)];exact ⟨rfl,fun k hk=>by cases hk⟩
theorem n9 {l:B Sh} {n:K}: ∀i,i<n->chain (l.take n) i=chain l i:=by
 intro i
 induction i using Θ with
 | _ i ih=>
  intro hi;have hg:(l.take n)[i]?=l[i]?:=by rw [φ,F hi]
  cases hs:l[i]? with
  | none=>
   rw [chain,chain];split
   ·split
    ·rfl
    ·rename_i h;rw [hs] at h;cases h
   ·rename_i h;rw [hg,hs] at h;cases h
  | some s=>
   rw [da hs,da (hg.trans hs),Ξ,Ι (by omega)];congr 1;split
   ·rfl
   ·split
    ·rename_i j hj;have hlt:=cN hj;simp only [V] at hlt;exact ih j (by omega) (by omega)
    ·rfl
theorem Fx {l:B Sh} {n i:K} (h:i<n) (s:Sh):iM (l.take n) i s=iM l i s:=by
 unfold iM;by_cases h0:i=0
 ·subst h0;rfl
 ·rw [Ξ,Ι (by omega),n9 (i-1) (by omega)];congr 3;split
  ·rename_i j hj;have hlt:=cN hj;simp only [V] at hlt;rw [n9 j (by omega)]
  ·rfl
theorem wi (ad:B ae) (l:B Sh): ∀(r pre:B Sh),l=pre++r->l6 pre->oK ad pre (iN l (É pre)) r=l8 ad l (É pre) r
 | [],_,_,_=>rfl
 | s::r,pre,hl,hu=>by
  have hs:l[É pre]?=E s:=by rw [hl];simp
  have ht:l.take (É pre)=pre:=by rw [hl];simp
  unfold oK l8 tX;rw [ht];by_cases h1:kY pre s=0
  ·have hn:aL pre s.unit=none:=by
    unfold kY at h1;split at h1
    ·cases h1
    ·split at h1
     ·cases h1
     ·split at h1
      ·cases h1
      ·rename_i h;simpa using h
   have į:l6 (pre++ [s]):=fun i t hi=>by
    rcases Nat.lt_trichotomy i (É pre) with h | h | h
    ·rw [Γ h] at hi;rw [List.take_append_of_le_length (by omega)];exact hu i t hi
    ·subst h;simp at hi;subst hi;simp [hn]
    ·rw [List.getElem?_eq_none (by simp;omega)] at hi;cases hi
   have İ: ∀m,gU (iN l (É pre)) s=m->iM l (É pre) s=m/\ ∀k,m=E k->(iN l (É pre)).take k++ [s.unit]=iN l (pre++ [s]).length:=fun m hm=>by
    have hw:l.take (É pre+1)=pre++ [s]:=by rw [hl];simp [ϊ];rw [Η (by omega)]
    have key:=HX (l:=pre++ [s]) į (É pre) s (by simp);rw [<-hw,Fx (by omega),n9 _ (by omega)] at key
    have hp:iN (l.take (É pre+1)) (É pre)=iN l (É pre):=by
     unfold iN;split
     ·rfl
     ·rw [n9 _ (by omega)]
    rw [hp,hm] at key;refine ⟨key.1.symm,fun k hk=> ?_⟩;rw [key.2 k hk];unfold iN;simp
   rw [F h1,F h1];cases hm:gU (iN l (É pre)) s with
   | none=>rw [(İ _ hm).1];rfl
   | some k=>
    obtain ⟨e1,e2⟩:=İ _ hm;rw [e1];simp only;by_cases hk:12<=k
    ·rw [F hk,F hk];rfl
    ·rw [C hk,C hk];by_cases hf:k9 ad s.facts=0
     ·rw [F hf,F hf,e2 k rfl];have:=wi ad l r (pre++ [s]) (by rw [hl];simp) į;rw [this];simp
     ·rw [C hf,C hf]
  ·rw [C h1,C h1,C h1]
theorem Fy (ad:B ae) (l:B Sh):xw ad l=QU ad l:=by
 unfold xw QU;split
 ·rfl
 ·have:=wi ad l l [] rfl (fun i s h=>by simp at h);exact this
variable (it:Int->ae)
def cL {α:Type}:B (Int×α)->Int->D α
 | [],_=>J
 | (x,v)::r,u=>if x=u then E v else cL r u
def jx {α:Type}:B (Int×α)->Int->α->B (Int×α)
 | [],u,v=> [(u,v)]
 | (x,w)::r,u,v=>if x=u then (x,v)::r else (x,w)::jx r u v
theorem ga {α:Type}: ∀(l:B (Int×α)) (u:Int) (v:α) (t:Int),cL (jx l u v) t=if u=t then E v else cL l t
 | [],u,v,t=>by simp [jx,cL]
 | (x,w)::r,u,v,t=>by
  unfold jx;by_cases h:x=u
  ·subst h;rw [F rfl];simp only [cL];split <;> rfl
  ·rw [C h];simp only [cL,ga r u v t];by_cases h2:x=t
   ·rw [F h2,F h2,C (fun h3=>h (h2.trans h3.symm))]
   ·rw [C h2,C h2]
structure NS where
 HY:B (Int×ae)
 kids:B (Int×Int)
def eF (root:Int) (st:NS) (s:Sh):NS:=
 if s.unit=root then ⟨jx st.HY s.unit [49],st.kids⟩ else
 match cL st.HY s.par with
 | some Ė=>⟨jx st.HY s.unit (Ė++ [46]++it ((cL st.kids s.par).getD 0+1)),jx st.kids s.par ((cL st.kids s.par).getD 0+1)⟩
 | none=>st
def cK (root:Int):NS->B Sh->B (Sh×ae)
 | _, []=> []
 | st,s::r=>match cL (eF it root st s).HY s.unit with
  | some n=>(s,n)::cK root (eF it root st s) r
  | none=>cK root (eF it root st s) r
def uv (p:K->ω):K->K
 | 0=>0
 | n+1=>uv p n+if p n=O then 1 else 0
theorem Ba {p q:K->ω}: ∀n,(∀k,k<n->p k=q k)->uv p n=uv q n
 | 0,_=>rfl
 | n+1,h=>by rw [uv,uv,Ba n (fun k hk=>h k (by omega)),h n (by omega)]
def so (l:B Sh) (u:Int) (k:K):ω:=match l[k]? with | some s=>decide (s.par=u) | none=>τ
def jF (l:B Sh) (root:Int) (i:K):ae:=
 match l[i]? with
 | none=> []
 | some s=>if s.unit=root then [49] else
  (match hj:aL (l.take i) s.par with
  | some j=>jF l root j
  | none=> [])++ [46]++it (uv (so l s.par) (i+1))
termination_by i
decreasing_by
 have:=cN hj;simp only [V] at this;omega
theorem mY {l:B Sh} {root:Int} {i:K} {s:Sh} (h:l[i]?=E s):jF it l root i=if s.unit=root then [49] else (match aL (l.take i) s.par with | some j=>jF it l root j | none=> [])++ [46]++it (uv (so l s.par) (i+1)):=by
 rw [jF,h];simp only;split
 ·rfl
 ·congr 2;split
  ·rename_i h1;rw [h1]
  ·rename_i h1;rw [h1]
structure Valid (l:B Sh):Prop where
 uniq:l6 l
 par: ∀(i:K) (s:Sh),l[i]?=E s->s.par≠0-> ∃j,aL (l.take i) s.par=E j
 pos: ∀s∈l,1<=s.unit
def qt (l:B Sh) (root:Int) (i:K):ω:=(chain l i).contains root
def fi (l:B Sh) (root:Int):K->B Sh->B (Sh×ae)
 | _, []=> []
 | i,s::r=>if qt l root i=O then (s,jF it l root i)::fi l root (i+1) r else fi l root (i+1) r
def HZ (l:B Sh) (root u:Int) (k:K):ω:=match l[k]? with | some s=>decide (s.par=u)&&(qt l root k&&decide (s.unit≠root)) | none=>τ
theorem mZ: ∀(pre:B Sh) (s:Sh) (u:Int),aL (pre++ [s]) u=match aL pre u with | some j=>E j | none=>if s.unit=u then E (É pre) else J
 | [],s,u=>by simp [aL]
 | x::r,s,u=>by
  rw [N,aL,aL,mZ r s u];by_cases h:x.unit=u
  ·simp [h]
  ·simp only [C h];cases aL r u with
   | some j=>rfl
   | none=>simp only [ύ,G];split <;> rfl
theorem NM {l:B Sh} {i:K} {u:Int} (hu:l6 l) (h:u∈chain l i) {k:K} {s:Sh} (hk:l[k]?=E s) (hs:s.unit=u):k<=i:=by obtain ⟨j,t,h1,h2,h3⟩:=pJ i u h;have:=qq hu hk h2 (by rw [hs,h3]);omega
theorem Bb {l:B Sh} (hv:Valid l) (root:Int): ∀(r pre:B Sh) (st:NS),l=pre++r->
  (∀u,cL st.HY u=match aL pre u with | some j=>if qt l root j=O then E (jF it l root j) else J | none=>J)->
  (∀u,(cL st.kids u).getD 0=(uv (HZ l root u) (É pre):Int))->cK it root st r=fi it l root (É pre) r
 | [],_,_,_,_,_=>rfl
 | s::r,pre,st,hl,hA,hB=>by
  have hs:l[É pre]?=E s:=by rw [hl];simp
  have ht:l.take (É pre)=pre:=by rw [hl];simp
  have hn:aL pre s.unit=none:=by have:=hv.uniq _ _ hs;rwa [ht] at this
  have ł:l=(pre++ [s])++r:=by rw [hl];simp
  have ĉ:=da hs;rw [ht] at ĉ;have ā:=mY it (root:=root) hs;rw [ht] at ā
  have ć: ∀u,uv (HZ l root u) (pre++ [s]).length=uv (HZ l root u) (É pre)+if (decide (s.par=u)&&(qt l root (É pre)&&decide (s.unit≠root)))=O then 1 else 0:=fun u=>by
   rw [χ,θ,uv];congr 2;unfold HZ;rw [hs]
  -- the step
  have step: ∃st',eF it root st s=st'/\(∀u,cL st'.HY u=match aL (pre++ [s]) u with | some j=>if qt l root j=O then E (jF it l root j) else J | none=>J)/\
    (∀u,(cL st'.kids u).getD 0=(uv (HZ l root u) (pre++ [s]).length:Int)):=by
   refine ⟨_,rfl,?_⟩;unfold eF;by_cases hr:s.unit=root
   ·rw [F hr];rw [F hr] at ā;have hin:qt l root (É pre)=true:=by unfold qt;rw [ĉ,hr];simp
    constructor
    ·intro u;simp only [ga,mZ,hA u];by_cases hu:s.unit=u
     ·subst hu;rw [F rfl,hn];simp only [ζ,hin,ā]
     ·rw [C hu];cases aL pre u with
      | some j=>rfl
      | none=>simp only [C hu]
    ·intro u;rw [hB u,ć u];simp [hr]
   ·rw [C hr];rw [C hr] at ā;have Ĉ:=hA s.par;by_cases hp:s.par=0
    ·have h0:aL pre s.par=none:=by
      cases h:aL pre s.par with
      | none=>rfl
      | some j=>obtain ⟨t,h1,h2⟩:=kQ h;have:=hv.pos t (by rw [hl];exact μ _ (T h1));omega
     rw [h0] at Ĉ;simp only [Ĉ];rw [F hp] at ĉ;have hin:qt l root (É pre)=false:=by unfold qt;rw [ĉ];simpa using fun h=>hr h.symm
     constructor
     ·intro u;rw [hA u,mZ];cases hx:aL pre u with
      | some j=>rfl
      | none=>
       by_cases hu:s.unit=u
       ·simp [hu,hin]
       ·simp [hu]
     ·intro u;rw [hB u,ć u,hin];simp
    ·obtain ⟨j,hj⟩:=hv.par _ _ hs hp;rw [ht] at hj;rw [hj] at Ĉ ĉ ā;rw [C hp] at ĉ;simp only at Ĉ ĉ ā;have Ń:=cN hj;obtain ⟨t,ń,Ņ⟩:=kQ hj;have Ġ:l[j]?=E t:=by rw [hl,Γ Ń];exact ń
     have hin:qt l root (É pre)=qt l root j:=by unfold qt;rw [ĉ,List.contains_cons,show (root==s.unit)=τ from by simpa using fun h=>hr h.symm];rfl
     by_cases hrj:qt l root j=O
     ·rw [hrj] at hin;rw [F hrj] at Ĉ;rw [Ĉ]
      have ġ:uv (HZ l root s.par) (É pre)=uv (so l s.par) (É pre):=Ba _ fun k hk=>by
       unfold HZ so;cases Ģ:l[k]? with
       | none=>rfl
       | some x=>
        simp only;by_cases hx:x.par=s.par
        ·have ı:x.par≠0:=by rw [hx];exact hp
         obtain ⟨m,hm⟩:=hv.par _ _ Ģ ı;have ņ:=kQ hm;obtain ⟨y,Ĵ,Ň⟩:=ņ;have hmk:=cN hm;simp only [V] at hmk;rw [φ,F (by omega)] at Ĵ;have ň:=qq hv.uniq Ĵ Ġ (by rw [Ň,Ņ,hx]);subst ň;have ģ:=da Ģ;rw [C ı,hm] at ģ;simp only at ģ;have Ċ:root∈chain l m:=by simpa [qt] using hrj
         have Ŋ:x.unit≠root:=fun h=>by
          have:=NM hv.uniq Ċ Ģ h;omega
         have:qt l root k=true:=by unfold qt;rw [ģ];simp [Ċ]
         simp [hx,this,Ŋ]
        ·simp [hx]
      have ė:uv (so l s.par) (É pre+1)=uv (so l s.par) (É pre)+1:=by
       rw [uv];have:so l s.par (É pre)=true:=by unfold so;rw [hs];simp
       rw [this];rfl
      have hk:=hB s.par;rw [ġ] at hk;rw [ė] at ā
      have Ę:jF it l root (É pre)=jF it l root j++ [46]++it ((cL st.kids s.par).getD 0+1):=by rw [ā,hk];rfl
      constructor
      ·intro u;simp only [ga,mZ];by_cases hu:s.unit=u
       ·subst hu;rw [F rfl,hn];simp only [ζ,hin,Ę]
       ·rw [C hu,hA u];cases aL pre u with
        | some j=>rfl
        | none=>simp only [C hu]
      ·intro u;simp only [ga];rw [ć u,hin];by_cases hu:s.par=u
       ·subst hu;rw [F rfl];rw [hB s.par];simp [hr]
       ·rw [C hu,hB u];simp [hu]
     ·have hrj:qt l root j=false:=by simpa using hrj
      rw [hrj] at hin;rw [hrj] at Ĉ;simp only [ψ,ν] at Ĉ;rw [Ĉ];constructor
      ·intro u;rw [hA u,mZ];cases hx:aL pre u with
       | some j=>rfl
       | none=>
        by_cases hu:s.unit=u
        ·simp [hu,hin]
        ·simp [hu]
      ·intro u;rw [hB u,ć u,hin];simp
  obtain ⟨st',e,ĵ,ŋ⟩:=step;have ih:=Bb hv root r (pre++ [s]) st' ł ĵ ŋ;have Ą:=ĵ s.unit;rw [mZ,hn] at Ą;simp only [ζ] at Ą;unfold cK fi;rw [e,Ą];by_cases hin:qt l root (É pre)=O
  ·rw [F hin,F hin];simp only [ih,χ,θ]
  ·rw [C hin,C hin];simp only [ih,χ,θ]
theorem m7 {l:B Sh} (hv:Valid l) (root:Int):cK it root ⟨[], []⟩ l=fi it l root 0 l:=
 Bb it hv root l [] ⟨[], []⟩ rfl (fun u=>rfl) (fun u=>rfl)
end Go.Proofs.YtfgbpngakkhdcaaGreatDoor
namespace Go.Proofs.YtfgbpngakkhdcaaGreatDoor
def gP:B ae->ae->D K
 | [],_=>J
 | x::r,s=>if x=s then E 0 else (gP r s).map (· +1)
theorem tY: ∀{l:B ae} {s:ae} {k:K},gP l s=E k->l[k]?=E s
 | x::r,s,k,h=>by
  unfold gP at h;split at h
  ·rename_i hx;cases h;simp [hx]
  ·cases hr:gP r s with
   | none=>rw [hr] at h;cases h
   | some j=>rw [hr] at h;simp only [W,M] at h;subst h;simpa using tY hr
theorem Fz {l:B ae} {s t:ae} {k:K} (h1:gP l s=E k) (h2:gP l t=E k):s=t:=by have e1:=tY h1;have e2:=tY h2;rw [e1] at e2;exact Option.some.inj e2
theorem oM: ∀{l:B ae} {s:ae},cD l s=true-> ∃k,gP l s=E k
 | [],s,h=>by simp [cD] at h
 | x::r,s,h=>by
  unfold gP;by_cases hx:x=s
  ·exact ⟨0,by rw [F hx]⟩
  ·have:cD r s=true:=by unfold cD at h⊢;rw [κ,show (s==x)=τ from by simpa using fun h=>hx h.symm] at h;simpa using h
   obtain ⟨k,hk⟩:=oM this;exact ⟨k+1,by rw [C hx,hk];rfl⟩
def aF (l:B ae) (s:ae):B ae:=match gP l s with | some i=>s::(l.take i++l.drop (i+1)) | none=> []
def aw (l:B ae) (s:ae):B ae:=s::l.filter (fun x=> !(x==s))
def Diff:B ae->Prop
 | []=>True
 | x::r=>x∉r/\Diff r
theorem filter_all: ∀(l:B ae) (s:ae),s∉l->l.filter (fun x=> !(x==s))=l
 | [],_,_=>rfl
 | x::r,s,h=>by
  simp only [H,U] at h;rw [Ε,show (!(x==s))=O from by simpa using fun hx=>h.1 hx.symm,filter_all r s h.2];rfl
theorem lL: ∀{l:B ae} {s:ae},Diff l->cD l s=true->aF l s=aw l s
 | [],s,_,h=>by simp [cD] at h
 | x::r,s,hd,h=>by
  unfold aF aw;by_cases hx:x=s
  ·subst hx;rw [gP,F rfl];simp only [List.take_zero,Κ,ϔ,δ,Α];rw [Ε];simp only [beq_self_eq_true,Bool.not_true,ψ,ν];rw [filter_all r x hd.1]
  ·have hr:cD r s=true:=by unfold cD at h⊢;rw [κ,show (s==x)=τ from by simpa using fun h=>hx h.symm] at h;simpa using h
   obtain ⟨k,hk⟩:=oM hr;have ih:=lL hd.2 hr;unfold aF aw at ih;rw [hk] at ih;rw [gP,C hx,hk];simp only [W,σ,δ,N];rw [Ε,show (!(x==s))=O from by simpa using hx,F rfl];have:=(List.cons.inj ih).2;rw [this]
theorem sq {l:B ae} {s t:ae} (ht:cD l t=O):cD (aw l s) t=true:=by
 unfold cD aw at*
 rw [Ζ] at ht;obtain ⟨x,hx,he⟩:=ht;rw [κ];by_cases Ķ:t=s
 ·simp [Ķ]
 ·rw [Λ];right;rw [Ζ];refine ⟨x,?_,he⟩;rw [List.mem_filter];refine ⟨hx,?_⟩;have:=eq_of_beq he;subst this;simpa using Ķ
def rk (order:B ae) (s:ae):Int:=match gP order s with | some k=>k | none=> -1
def fo (order:B ae) (cur:Fc):B Fc->B Fc
 | []=> [cur]
 | f::r=>if cur.el≠f.el then cur::fo order f r else if rk order f.lang<rk order cur.lang then fo order f r else fo order cur r
def ay (order:B ae):B Fc->B Fc
 | []=> []
 | f::r=>fo order f r
def jH (l:B Fc) (el:Int) (lang:ae):D Fc:=l.find? fun f=>decide (f.el=el)&&(f.lang==lang)
def qU (order:B ae) (l:B Fc) (el:Int):B Fc:=match order.findSome? (jH l el) with | some f=> [f] | none=> []
def cz (order:B ae) (l:B Fc):D Int->B Fc->B Fc
 | _, []=> []
 | p,f::r=>if p=E f.el then cz order l (E f.el) r else qU order l f.el++cz order l (E f.el) r
def cB (order:B ae) (l:B Fc):B Fc:=cz order l J l
def Jw:B Fc->Prop
 | []=>True
 | f::r=>(∀g∈r,f.el<g.el\/f.el=g.el/\f.lang≠g.lang)/\Jw r
theorem Jx: ∀{a b:B Fc},Jw (a++b)->Jw a/\Jw b/\ ∀f∈a,∀g∈b,f.el<g.el\/f.el=g.el/\f.lang≠g.lang
 | [],b,h=>⟨trivial,h,by simp⟩
 | x::a,b,h=>by
  obtain ⟨h1,h2⟩:=h;obtain ⟨i1,i2,i3⟩:=Jx h2;refine ⟨⟨fun g hg=>h1 g (μ _ hg),i1⟩,i2,fun f hf g hg=> ?_⟩;rcases List.mem_cons.1 hf with rfl | hf
  ·exact h1 g (List.mem_append_right _ hg)
  ·exact i3 f hf g hg
theorem Jy: ∀{l:B Fc},Jw l-> ∀f∈l,∀g∈l,f.el=g.el->f.lang=g.lang->f=g
 | x::r,h,f,hf,g,hg,h1,h2=>by
  rcases List.mem_cons.1 hf with Ĕ | ę
  ·rcases List.mem_cons.1 hg with ċ | ď
   ·rw [Ĕ,ċ]
   ·rcases h.1 g ď with h3 | h3
    ·rw [Ĕ] at h1;omega
    ·rw [Ĕ] at h2;exact I h2 h3.2
  ·rcases List.mem_cons.1 hg with ċ | ď
   ·rcases h.1 f ę with h3 | h3
    ·rw [ċ] at h1;omega
    ·rw [ċ] at h2;exact I h2.symm h3.2
   ·exact Jy h.2 f ę g ď h1 h2
theorem l9 {order:B ae} {l:B Fc} {el:Int} {f:Fc}: ∀(o:B ae),o.findSome? (jH l el)=E f->f∈l/\f.el=el/\ ∃k,gP o f.lang=E k/\ ∀g∈l,g.el=el-> ∀j,gP o g.lang=E j->k<=j
 | [],h=>by cases h
 | x::o,h=>by
  rw [ε] at h;cases hx:jH l el x with
  | some y=>rw [hx] at h;cases h;have h1:=γ hx;have h2:=Μ hx;simp only [ι,η,Ϗ] at h2;refine ⟨h1,h2.1,0,by rw [gP,F h2.2.symm],fun _ _ _ _ _=>Ο _⟩
  | none=>
   rw [hx] at h;obtain ⟨h1,h2,k,h3,h4⟩:=l9 (order:=order) o h
   have ą: ∀g∈l,g.el=el->x≠g.lang:=fun g hg he Ĥ=>by
    have:=List.find?_eq_none.1 hx g hg;simp [he,Ĥ] at this
   refine ⟨h1,h2,k+1,by rw [gP,C (ą f h1 h2),h3];rfl,fun g hg he j hj=> ?_⟩;rw [gP,C (ą g hg he)] at hj;cases Đ:gP o g.lang with
   | none=>rw [Đ] at hj;cases hj
   | some m=>rw [Đ] at hj;cases hj;have:=h4 g hg he m Đ;simp only;omega
theorem qV {l:B Fc} {el:Int}: ∀{o:B ae} {g:Fc},g∈l->g.el=el->cD o g.lang=true-> ∃f,o.findSome? (jH l el)=E f
 | [],g,_,_,h=>by simp [cD] at h
 | x::o,g,hg,he,h=>by
  rw [ε];cases hx:jH l el x with
  | some y=>exact ⟨y,rfl⟩
  | none=>
   simp only;refine qV hg he ?_;unfold cD at h⊢;rw [κ,Λ] at h;rcases h with h | h
   ·have hl:=eq_of_beq h;have:=List.find?_eq_none.1 hx g hg;simp [he,hl] at this
   ·exact h
theorem FB {order:B ae} {l:B Fc} (hl:Jw l) (ho: ∀g∈l,cD order g.lang=O) {f:Fc} (hf:f∈l) (hb: ∀g∈l,g.el=f.el->rk order f.lang<=rk order g.lang):qU order l f.el= [f]:=by
 obtain ⟨b,ķ⟩:=qV hf rfl (ho f hf);obtain ⟨h1,h2,k,h3,h4⟩:=l9 (order:=order) order ķ;unfold qU;rw [ķ];obtain ⟨j,hj⟩:=oM (ho f hf);have e1:=h4 f hf rfl j hj;have e2:=hb b h1 h2;unfold rk at e2;rw [hj,h3] at e2;simp only at e2;have:k=j:=by omega
 subst this;have:=Fz hj h3;rw [Jy hl f hf b h1 h2.symm this]
theorem u3 {order:B ae} {l:B Fc} (hl:Jw l) (ho: ∀g∈l,cD order g.lang=O): ∀(r pre:B Fc) (cur:Fc),l=pre++r->cur∈pre->
  (∀g∈pre,g.el<=cur.el)->(∀g∈pre,g.el=cur.el->rk order cur.lang<=rk order g.lang)->fo order cur r=qU order l cur.el++cz order l (E cur.el) r
 | [],pre,cur,he,hc,h1,h2=>by
  rw [ώ] at he;rw [FB hl ho (by rw [he];exact hc) (by rw [he];exact h2)];rfl
 | f::r,pre,cur,he,hc,h1,h2=>by
  have ĥ:=Jx (by rw [<-he];exact hl:Jw (pre++f::r));have Ħ:=ĥ.2.2 cur hc f (by simp);unfold fo cz;by_cases Ă:cur.el=f.el
  ·rw [C (fun h:cur.el≠f.el=>h Ă),F (show E cur.el=E f.el by rw [Ă])]
   have Č: ∀c':Fc,(c'=f\/c'=cur)->(rk order c'.lang<=rk order f.lang/\rk order c'.lang<=rk order cur.lang)->fo order c' r=qU order l cur.el++cz order l (E f.el) r:=fun c' Ě hr=>by
    have ħ:c'.el=cur.el:=by
     rcases Ě with rfl | rfl
     ·exact Ă.symm
     ·rfl
    have ih:=u3 hl ho r (pre++ [f]) c' (by rw [he];simp) (by
      rcases Ě with rfl | rfl
      ·simp
      ·simp [hc]) (fun g hg=>by
      rw [ħ];rcases List.mem_append.1 hg with hg | hg
      ·exact h1 g hg
      ·rw [List.mem_singleton.1 hg];omega) (fun g hg ğ=>by
      rcases List.mem_append.1 hg with hg | hg
      ·have:=h2 g hg (by rw [ğ,ħ]);omega
      ·rw [List.mem_singleton.1 hg];exact hr.1)
    rw [ih,ħ,Ă]
   by_cases hlt:rk order f.lang<rk order cur.lang
   ·rw [F hlt];exact Č f (.inl rfl) ⟨ξ _,by omega⟩
   ·rw [C hlt];exact Č cur (.inr rfl) ⟨by omega,ξ _⟩
  ·rw [F (show cur.el≠f.el from Ă),C (show¬ E cur.el=E f.el by simpa using Ă)]
   have hlt:cur.el<f.el:=by
    rcases Ħ with h | h
    ·exact h
    ·exact I h.1 Ă
   have ih:=u3 hl ho r (pre++ [f]) f (by rw [he];simp) (by simp) (fun g hg=>by
     rcases List.mem_append.1 hg with hg | hg
     ·have:=h1 g hg;omega
     ·rw [List.mem_singleton.1 hg];omega) (fun g hg ğ=>by
     rcases List.mem_append.1 hg with hg | hg
     ·have:=h1 g hg;omega
     ·rw [List.mem_singleton.1 hg];omega)
   rw [ih,FB hl ho (f:=cur) (by rw [he];exact μ _ hc) (fun g hg ğ=>by
     rw [he] at hg;rcases List.mem_append.1 hg with hg | hg
     ·exact h2 g hg ğ
     ·rcases ĥ.2.2 cur hc g hg with h3 | h3
      ·omega
      ·rcases List.mem_cons.1 hg with rfl | hg
       ·omega
       ·have:=ĥ.2.1.1 g hg;omega)]
   rfl
theorem pK {order:B ae} {l:B Fc} (hl:Jw l) (ho: ∀g∈l,cD order g.lang=O):ay order l=cB order l:=by
 unfold cB;cases l with
 | nil=>rfl
 | cons f r=>
  have:=u3 hl ho r [f] f rfl (by simp) (fun g hg=>by rw [List.mem_singleton.1 hg];omega) (fun g hg _=>by rw [List.mem_singleton.1 hg];omega);have e1:ay order (f::r)=fo order f r:=rfl
  have e2:cz order (f::r) J (f::r)=qU order (f::r) f.el++cz order (f::r) (E f.el) r:=by rw [cz,C (by simp)]
  rw [e1,e2,this]
def gu (order:B ae) (el:Int):ae->Int->B Lb->ae
 | t,_, []=>t
 | t,b,l::r=>if l.el=el/\rk order l.lang<b then gu order el l.text (rk order l.lang) r else gu order el t b r
def fZ (order:B ae) (av:B Lb) (el:Int) (đ:ae):ae:=gu order el đ order.length av
def m8 (l:B Lb) (el:Int) (lang:ae):D ae:=(l.find? fun f=>decide (f.el=el)&&(f.lang==lang)).map (·.text)
def jI (order:B ae) (av:B Lb) (el:Int) (đ:ae):ae:=match order.findSome? (m8 av el) with | some t=>t | none=>đ
def NP:B Lb->Prop
 | []=>True
 | f::r=>(∀g∈r,f.el=g.el->f.lang≠g.lang)/\NP r
theorem FC: ∀{l:B Lb},NP l-> ∀f∈l,∀g∈l,f.el=g.el->f.lang=g.lang->f=g
 | x::r,h,f,hf,g,hg,h1,h2=>by
  rcases List.mem_cons.1 hf with Ĕ | ę
  ·rcases List.mem_cons.1 hg with ċ | ď
   ·rw [Ĕ,ċ]
   ·rw [Ĕ] at h1 h2;exact I h2 (h.1 g ď h1)
  ·rcases List.mem_cons.1 hg with ċ | ď
   ·rw [ċ] at h1 h2;exact I h2.symm (h.1 f ę h1.symm)
   ·exact FC h.2 f ę g ď h1 h2
theorem qu (order:B ae) (el:Int): ∀(l:B Lb) (t:ae) (b:Int),
  (gu order el t b l=t/\ ∀g∈l,g.el=el->b<=rk order g.lang)\/ ∃f∈l,f.el=el/\gu order el t b l=f.text/\rk order f.lang<b/\ ∀g∈l,g.el=el->rk order f.lang<=rk order g.lang
 | [],t,b=> .inl ⟨rfl,by simp⟩
 | l::r,t,b=>by
  unfold gu;by_cases h:l.el=el/\rk order l.lang<b
  ·rw [F h];right;rcases qu order el r l.text (rk order l.lang) with ⟨h1,h2⟩ | ⟨f,hf,h1,h2,h3,h4⟩
   ·refine ⟨l,by simp,h.1,h1,h.2,fun g hg he=> ?_⟩;rcases List.mem_cons.1 hg with rfl | hg
    ·exact ξ _
    ·exact h2 g hg he
   ·refine ⟨f,by simp [hf],h1,h2,by omega,fun g hg he=> ?_⟩;rcases List.mem_cons.1 hg with rfl | hg
    ·omega
    ·exact h4 g hg he
  ·rw [C h];rcases qu order el r t b with ⟨h1,h2⟩ | ⟨f,hf,h1,h2,h3,h4⟩
   ·refine .inl ⟨h1,fun g hg he=> ?_⟩;rcases List.mem_cons.1 hg with rfl | hg
    ·omega
    ·exact h2 g hg he
   ·refine .inr ⟨f,by simp [hf],h1,h2,h3,fun g hg he=> ?_⟩;rcases List.mem_cons.1 hg with rfl | hg
    ·omega
    ·exact h4 g hg he
theorem jT {l:B Lb} {el:Int} {t:ae}: ∀(o:B ae),o.findSome? (m8 l el)=E t-> ∃f∈l,f.text=t/\f.el=el/\ ∃k,gP o f.lang=E k/\ ∀g∈l,g.el=el-> ∀j,gP o g.lang=E j->k<=j
 | [],h=>by cases h
 | x::o,h=>by
  rw [ε] at h;unfold m8 at h;cases hx:l.find? (fun f=>decide (f.el=el)&&(f.lang==x)) with
  | some y=>rw [hx] at h;cases h;have h1:=γ hx;have h2:=Μ hx;simp only [ι,η,Ϗ] at h2;refine ⟨y,h1,rfl,h2.1,0,by rw [gP,F h2.2.symm],fun _ _ _ _ _=>Ο _⟩
  | none=>
   rw [hx] at h;obtain ⟨f,h1,h0,h2,k,h3,h4⟩:=jT o h
   have ą: ∀g∈l,g.el=el->x≠g.lang:=fun g hg he Ĥ=>by
    have:=List.find?_eq_none.1 hx g hg;simp [he,Ĥ] at this
   refine ⟨f,h1,h0,h2,k+1,by rw [gP,C (ą f h1 h2),h3];rfl,fun g hg he j hj=> ?_⟩;rw [gP,C (ą g hg he)] at hj;cases Đ:gP o g.lang with
   | none=>rw [Đ] at hj;cases hj
   | some m=>rw [Đ] at hj;cases hj;have:=h4 g hg he m Đ;simp only;omega
theorem qW {l:B Lb} {el:Int}: ∀{o:B ae} {g:Lb},g∈l->g.el=el->cD o g.lang=true-> ∃f,o.findSome? (m8 l el)=E f
 | [],g,_,_,h=>by simp [cD] at h
 | x::o,g,hg,he,h=>by
  rw [ε];unfold m8;cases hx:l.find? (fun f=>decide (f.el=el)&&(f.lang==x)) with
  | some y=>exact ⟨y.text,rfl⟩
  | none=>
   simp only [ύ]
   have:cD o g.lang=true:=by
    unfold cD at h⊢;rw [κ,Λ] at h;rcases h with h | h
    ·have hl:=eq_of_beq h;have:=List.find?_eq_none.1 hx g hg;simp [he,hl] at this
    ·exact h
   have:=qW hg he this;unfold m8 at this;exact this
theorem IZ: ∀{l:B ae} {s:ae} {k:K},gP l s=E k->k<É l:=fun h=>by
 have:=tY h;exact (List.getElem?_eq_some_iff.1 this).1
theorem Bc {order:B ae} {l:B Lb} (hl:NP l) (ho: ∀g∈l,cD order g.lang=O) (el:Int) (d:ae):fZ order l el d=jI order l el d:=by
 unfold fZ jI;rcases qu order el l d order.length with ⟨h1,h2⟩ | ⟨f,hf,h0,h1,h2,h3⟩
 ·rw [h1];cases hx:order.findSome? (m8 l el) with
  | none=>rfl
  | some t=>
   obtain ⟨g,hg,_,he,k,hk,_⟩:=jT order hx;have:=h2 g hg he;unfold rk at this;rw [hk] at this;have:=IZ hk;simp only at*
   omega
 ·obtain ⟨t,ht⟩:=qW hf h0 (ho f hf);obtain ⟨g,hg,h4,h5,k,h6,h7⟩:=jT order ht;rw [h1,ht];simp only;rw [<-h4];obtain ⟨j,hj⟩:=oM (ho f hf);have e1:=h7 f hf h0 j hj;have e2:=h3 g hg h5;unfold rk at e2;rw [hj,h6] at e2;simp only at e2;have:k=j:=by omega
  subst this;rw [FC hl f hf g hg (by rw [h0,h5]) (Fz hj h6)]
end Go.Proofs.YtfgbpngakkhdcaaGreatDoor
namespace Go.Proofs.YtfgbpngakkhdcaaGreatDoor
theorem yX: ∀(l pre:B ae),ej pre l=0->Diff l/\(∀s∈l,Cc s=O)/\ ∀s∈l,s∉pre
 | [],_,_=>⟨trivial,by simp,by simp⟩
 | x::r,pre,h=>by
  unfold ej at h;split at h
  ·cases h
  ·rename_i h1;split at h
   ·cases h
   ·rename_i h2;obtain ⟨i1,i2,i3⟩:=yX r _ h;refine ⟨⟨fun hx=>i3 x hx (by simp),i1⟩,fun s hs=> ?_,fun s hs hp=> ?_⟩
    ·rcases List.mem_cons.1 hs with rfl | hs
     ·simpa using h1
     ·exact i2 s hs
    ·rcases List.mem_cons.1 hs with rfl | hs
     ·apply h2;unfold cD;rw [Ζ];exact ⟨s,hp,by simp⟩
     ·exact i3 s hs (by simp [hp])
theorem tZ {e f:Int} {s t:ae} (h:mC e s f t=O):e<f\/e=f/\X s t<0:=by simpa [mC] using h
theorem FD {a b c:ae} (h1:X a b<0) (h2:X b c<0):X a c<0:=by
 have h:=FE a b c (by omega) (by omega);by_cases h0:X a c=0
 ·have:=(h.2 h0).1;omega
 ·omega
theorem yY {e f g:Int} {s t u:ae} (h1:mC e s f t=O) (h2:mC f t g u=O):mC e s g u=true:=by
 unfold mC;rw [η];rcases tZ h1 with h1 | h1 <;> rcases tZ h2 with h2 | h2
 ·left;omega
 ·left;omega
 ·left;omega
 ·right;exact ⟨by omega,FD h1.2 h2.2⟩
theorem Jz {e f:Int} {s t:ae} (h:mC e s f t=O):e<f\/e=f/\s≠t:=by
 rcases tZ h with h | h
 ·exact .inl h
 ·exact .inr ⟨h.1,fun hs=>by rw [hs,QV] at h;exact I h.2 (by decide)⟩
theorem QW {ad:B ae} {p:D Lb} {l:Lb} (h:ux ad p l=0):cD ad l.lang=O/\1<=l.el/\l.el<=64/\0<=l.ix/\l.ix<=3/\l.text≠ []/\l.text.length<=64/\ ∀q,p=E q->mC q.el q.lang l.el l.lang=O/\(q.el=l.el->q.ix=l.ix):=by
 unfold ux at h;split at h
 ·cases h
 ·rename_i h1;split at h
  ·cases h
  ·rename_i h2;split at h
   ·cases h
   ·rename_i h3;refine ⟨by simpa using h2,by omega,by omega,by omega,by omega,fun h0=>by rw [h0] at h3;simp at h3,by omega,fun q hq=> ?_⟩;subst hq;simp only at h;split at h
    ·cases h
    ·rename_i h4;split at h
     ·cases h
     ·rename_i h5
      exact ⟨by simpa using h4,fun he=>by
       by_cases hi:q.ix=l.ix
       ·exact hi
       ·exact I ⟨he,hi⟩ h5⟩
structure QX (ad:B ae) (l:Lb):Prop where
 lang:cD ad l.lang=O
 Cm:1<=l.el
 GM:l.el<=64
 ix1:0<=l.ix
 ix2:l.ix<=3
 text:l.text≠ []
 len:l.text.length<=64
theorem Be {ad:B ae}: ∀(l:B Lb) (p:D Lb),e7 ad p l=0->
  NP l/\(∀x∈l,QX ad x)/\(∀x∈l,∀q,p=E q->mC q.el q.lang x.el x.lang=O/\(q.el=x.el->q.ix=x.ix))/\ ∀x∈l,∀y∈l,x.el=y.el->x.ix=y.ix
 | [],_,_=>⟨trivial,by simp,by simp,by simp⟩
 | x::r,p,h=>by
  unfold e7 at h;split at h
  ·rename_i h0;obtain ⟨a1,a2,a3,a4,a5,a6,a7,a8⟩:=QW h0;obtain ⟨i1,i2,i3,i4⟩:=Be r _ h;have hx:QX ad x:=⟨a1,a2,a3,a4,a5,a6,a7⟩;refine ⟨⟨fun g hg he hl=> ?_,i1⟩,fun y hy=> ?_,fun y hy q hq=> ?_,fun y hy z hz he=> ?_⟩
   ·rcases Jz (i3 g hg x rfl).1 with h | h
    ·omega
    ·exact h.2 hl
   ·rcases List.mem_cons.1 hy with rfl | hy
    ·exact hx
    ·exact i2 y hy
   ·rcases List.mem_cons.1 hy with rfl | hy
    ·exact a8 q hq
    ·have e1:=a8 q hq;have e2:=i3 y hy x rfl;have e3:=yY e1.1 e2.1;refine ⟨e3,fun he=> ?_⟩
     have:q.el=x.el:=by
      rcases tZ e1.1 with h1 | h1
      ·rcases tZ e2.1 with h2 | h2 <;> omega
      ·exact h1.1
     rw [e1.2 this,e2.2 (by omega)]
   ·rcases List.mem_cons.1 hy with ĸ | Ĺ
    ·rcases List.mem_cons.1 hz with Ĩ | ĩ
     ·rw [ĸ,Ĩ]
     ·rw [ĸ] at he⊢;exact (i3 z ĩ x rfl).2 he
    ·rcases List.mem_cons.1 hz with Ĩ | ĩ
     ·rw [Ĩ] at he⊢;exact ((i3 y Ĺ x rfl).2 he.symm).symm
     ·exact i4 y Ĺ z ĩ he
  ·rename_i h0;exact I h h0
structure zZ (ad:B ae) (l:Fc):Prop where
 lang:cD ad l.lang=O
 Cm:1<=l.el
 GM:l.el<=64
 text:l.text≠ []
 len:l.text.length<=4096
theorem QY {ad:B ae} {p:D Fc} {l:Fc} (h:wJ ad p l=0):zZ ad l/\ ∀q,p=E q->mC q.el q.lang l.el l.lang=true:=by
 unfold wJ at h;split at h
 ·cases h
 ·rename_i h1;split at h
  ·cases h
  ·rename_i h2;split at h
   ·cases h
   ·rename_i h3;refine ⟨⟨by simpa using h2,by omega,by omega,fun h0=>by rw [h0] at h3;simp at h3,by omega⟩,fun q hq=> ?_⟩;subst hq;simp only at h;split at h
    ·cases h
    ·rename_i h4;simpa using h4
theorem Bf {ad:B ae}: ∀(l:B Fc) (p:D Fc),e8 ad p l=0->
  Jw l/\(∀x∈l,zZ ad x)/\ ∀x∈l,∀q,p=E q->mC q.el q.lang x.el x.lang=O
 | [],_,_=>⟨trivial,by simp,by simp⟩
 | x::r,p,h=>by
  unfold e8 at h;split at h
  ·rename_i h0;obtain ⟨hx,a8⟩:=QY h0;obtain ⟨i1,i2,i3⟩:=Bf r _ h;refine ⟨⟨fun g hg=>Jz (i3 g hg x rfl),i1⟩,fun y hy=> ?_,fun y hy q hq=> ?_⟩
   ·rcases List.mem_cons.1 hy with rfl | hy
    ·exact hx
    ·exact i2 y hy
   ·rcases List.mem_cons.1 hy with rfl | hy
    ·exact a8 q hq
    ·exact yY (a8 q hq) (i3 y hy x rfl)
  ·rename_i h0;exact I h h0
structure Z2 (ad:B ae) (s:Sh):Prop where
 u1:1<=s.unit
 u2:s.unit<=1073741824
 l1:1<=s.level
 l2:s.level<=4
 mark:s.mark.length<=64
 title:s.title≠ []
 wO:s.title.length<=64
 FG:s.facts.length<=32
 inc:Jw s.facts
 facts: ∀f∈s.facts,zZ ad f
theorem NQ {ad:B ae} {l:B Fc} (h:k9 ad l=0):É l<=32/\Jw l/\ ∀x∈l,zZ ad x:=by
 unfold k9 at h;split at h
 ·cases h
 ·obtain ⟨h1,h2,_⟩:=Bf l J h;exact ⟨by omega,h1,h2⟩
theorem Dh {pre:B Sh} {s:Sh} (h:kY pre s=0):1<=s.unit/\s.unit<=1073741824/\1<=s.level/\s.level<=4/\s.mark.length<=64/\s.title≠ []/\s.title.length<=64/\aL pre s.unit=none:=by
 unfold kY at h;split at h
 ·cases h
 ·split at h
  ·cases h
  ·rename_i h1;split at h
   ·cases h
   ·rename_i h2;refine ⟨by omega,by omega,by omega,by omega,by omega,fun h0=>by rw [h0] at h1;simp at h1,by omega,by simpa using h2⟩
theorem Bg {ad:B ae} {l:B Sh}: ∀(r:B Sh) (i:K),l.drop i=r->l8 ad l i r=0-> ∀(k:K) (s:Sh),i<=k->l[k]?=E s->tX ad l k s=0
 | [],i,hd,_,k,s,hk,hs=>by
  have:=(List.getElem?_eq_some_iff.1 hs).1;have h0:=List.drop_eq_nil_iff.1 hd;omega
 | x::r,i,hd,h,k,s,hk,hs=>by
  unfold l8 at h;split at h
  ·rename_i h0;by_cases Ī:k=i
   ·subst Ī;have:l[k]?=E x:=by rw [<-π,hd];rfl
    rw [this] at hs;cases hs;exact h0
   ·exact Bg r (i+1) (by rw [<-Β,hd];rfl) h k s (by omega) hs
  ·rename_i h0;exact I h h0
theorem QZ {ad:B ae} {l:B Sh} (h:xw ad l=0):É l<=256/\Valid l/\(∀s∈l,Z2 ad s)/\ ∀(k:K) (s:Sh),l[k]?=E s->(chain l k).length<=12:=by
 rw [Fy] at h;unfold QU at h;split at h
 ·cases h
 ·rename_i ă;have key:=Bg l 0 rfl h
  have one: ∀(k:K) (s:Sh),l[k]?=E s->kY (l.take k) s=0/\ ∃n,iM l k s=E n/\n<12/\k9 ad s.facts=0:=fun k s hs=>by
   have:=key k s (Ο _) hs;unfold tX at this;split at this
   ·rename_i h1;refine ⟨h1,?_⟩;split at this
    ·cases this
    ·rename_i n hn;split at this
     ·cases this
     ·exact ⟨n,hn,by omega,this⟩
   ·rename_i h1;exact I this h1
  have hu:l6 l:=fun i s hs=>(Dh (one i s hs).1).2.2.2.2.2.2.2;refine ⟨by omega,⟨hu,fun i s hs hp=> ?_,fun s hs=> ?_⟩,fun s hs=> ?_,fun k s hs=> ?_⟩
  ·obtain ⟨_,n,hn,_⟩:=one i s hs;unfold iM at hn;rw [C hp] at hn;split at hn
   ·cases hn
   ·rename_i h0;split at hn
    ·rename_i hc;obtain ⟨j,t,h1,h2,h3⟩:=pJ (i-1) s.par (by simpa using hc);exact ⟨j,by rw [<-h3];exact A9 hu h2 (by omega)⟩
    ·cases hn
  ·obtain ⟨i,hi⟩:=List.mem_iff_getElem?.1 hs;exact (Dh (one i s hi).1).1
  ·obtain ⟨i,hi⟩:=List.mem_iff_getElem?.1 hs;obtain ⟨h1,n,_,_,h4⟩:=one i s hi;obtain ⟨b1,b2,b3,b4,b5,b6,b7,_⟩:=Dh h1;obtain ⟨f1,f2,f3⟩:=NQ h4;exact ⟨b1,b2,b3,b4,b5,b6,b7,f1,f2,f3⟩
  ·obtain ⟨_,n,hn,hn2,_⟩:=one k s hs;rw [da hs];unfold iM at hn;split
   ·simp
   ·rename_i hp;rw [C hp] at hn;split at hn
    ·cases hn
    ·split at hn
     ·rename_i hc;cases hn;split
      ·rename_i j hj;rw [hj] at hn2;have hn3:(chain l j).length<12:=hn2;simp only [G];omega
      ·simp
     ·cases hn
structure iq (c:Ct):Prop where
 l1:1<=c.ad.length
 l2:c.ad.length<=8
 diff:Diff c.ad
 two: ∀s∈c.ad,Cc s=O
 afx:c.av.length<=256
 Z3:NP c.av
 av: ∀x∈c.av,QX c.ad x
 kinds: ∀x∈c.av,∀y∈c.av,x.el=y.el->x.ix=y.ix
 G1:c.ai.length<=256
 valid:Valid c.ai
 ai: ∀s∈c.ai,Z2 c.ad s
 deep: ∀(k:K) (s:Sh),c.ai[k]?=E s->(chain c.ai k).length<=12
theorem cj {c:Ct} (h:dU c=0):iq c:=by
 unfold dU at h;split at h
 ·rename_i h1;split at h
  ·rename_i h2;unfold lQ at h1;split at h1
   ·cases h1
   ·unfold qN at h2;split at h2
    ·cases h2
    ·obtain ⟨d1,d2,_⟩:=yX _ _ h1;obtain ⟨b1,b2,_,b4⟩:=Be _ _ h2;obtain ⟨s1,s2,s3,s4⟩:=QZ h;exact ⟨by omega,by omega,d1,d2,by omega,b1,b2,b4,s1,s2,s3,s4⟩
  ·rename_i h2;exact I h h2
 ·rename_i h1;exact I h h1
end Go.Proofs.YtfgbpngakkhdcaaGreatDoor
namespace Go.Proofs.YtfgbpngakkhdcaaGreatDoor
def sL (acc:K):ae->D K
 | []=>E acc
 | c::r=>if 48<=c.toNat/\c.toNat<=57 then (if 1099511627775<acc*10+(c.toNat-48) then J else sL (acc*10+(c.toNat-48)) r) else J
def wY (s:ae):D K:=if s= [] then J else sL 0 s
def rD (s:ae):Int×Int:=
 if P s 93<2\/11<P s 93\/s.getD 1 0=48 then (0,0) else
 match wY ((s.take (P s 93).toNat).drop 1) with
 | some n=>if 1073741824<n then (0,0) else ((n:Int),P s 93+1)
 | none=>(0,0)
def ua:ae->K->K->D (K×K)
 | [],_,_=>J
 | c::r,n,k=>if 48<=c.toNat/\c.toNat<=57 then (if 1073741824<10*n+(c.toNat-48) then J else ua r (10*n+(c.toNat-48)) (k+1)) else if c=93 then E (n,k+1) else J
def ao (s:ae):Int×Int:=
 if (É s)<3\/s.getD 0 0≠91\/ ¬ (49<=(s.getD 1 0).toNat/\(s.getD 1 0).toNat<=57) then (0,0) else
 match ua (s.drop 1) 0 1 with
 | some (n,k)=>((n:Int),(k:Int))
 | none=>(0,0)
theorem Di: ∀(u:ae) (n m:K),sL n u=E m->n*10^É u<=m
 | [],n,m,h=>by cases h;simp
 | c::r,n,m,h=>by
  unfold sL at h;split at h
  ·split at h
   ·cases h
   ·have:=Di r _ m h;rw [G,ϕ];have h2:n*(10^É r*10)=(n*10)*10^É r:=by rw [Χ (10^É r) 10,ϒ]
    rw [h2];exact Ψ (Z _ (by omega)) this
  ·cases h
theorem Q0 (u:ae) (n m:K) (h:sL n u=E m):n<=m:=by have:=Di u n m h;exact Ψ (Nat.le_mul_of_pos_right n (Nat.pow_pos (by decide))) this
theorem Bh: ∀(t:ae) (n k:K),(93:L)∉t->ua t n k=J
 | [],_,_,_=>rfl
 | c::r,n,k,h=>by
  simp only [H,U] at h;unfold ua;split
  ·split
   ·rfl
   ·exact Bh r _ _ h.2
  ·rw [C (fun hc=>h.1 hc.symm)]
theorem JA: ∀(u v:ae) (n k:K),(93:L)∉u->n<=1073741824->ua (u++93::v) n k=match sL n u with
  | some m=>if 1073741824<m then J else E (m,k+É u+1)
  | none=>J
 | [],v,n,k,_,hn=>by
  simp only [Κ,sL];unfold ua;rw [C (by decide),F rfl,C (by omega)];rfl
 | c::r,v,n,k,h,hn=>by
  simp only [H,U] at h;rw [N];unfold ua sL;by_cases hd:48<=c.toNat/\c.toNat<=57
  ·rw [F hd,F hd,Χ 10 n];by_cases hb:1073741824<n*10+(c.toNat-48)
   ·rw [F hb];split
    ·rename_i m hm;split at hm
     ·cases hm
     ·have:=Q0 _ _ _ hm;rw [F (by omega)]
    ·rfl
   ·rw [C hb,C (show¬ 1099511627775<n*10+(c.toNat-48) by omega),JA r v _ (k+1) h.2 (by omega)];simp only [G];split
    ·split
     ·rfl
     ·congr 2;omega
    ·rfl
  ·rw [C hd,C hd,C (fun hc=>h.1 hc.symm)]
theorem FH: ∀(t:ae),(93:L)∉t->P t 93= -1
 | [],_=>rfl
 | c::r,h=>by
  simp only [H,U] at h;have hc:(c==93)=false:=by simpa using fun h'=>h.1 h'.symm
  rw [P,hc,FH r h.2];rfl
theorem FI: ∀(u v:ae),(93:L)∉u->P (u++93::v) 93=(É u:Int)
 | [],v,_=>by simp [P]
 | c::r,v,h=>by
  simp only [H,U] at h;have hc:(c==93)=false:=by simpa using fun h'=>h.1 h'.symm
  rw [N,P,hc,FI r v h.2];have:((É r:Int)== -1)=false:=by simp
  rw [this];simp
theorem FJ: ∀(t:ae),(93:L)∈t-> ∃u v,t=u++93::v/\(93:L)∉u
 | c::r,h=>by
  by_cases hc:c=93
  ·exact ⟨[],r,by rw [hc];rfl,by simp⟩
  ·rcases List.mem_cons.1 h with h | h
   ·exact I h.symm hc
   ·obtain ⟨u,v,h1,h2⟩:=FJ r h;exact ⟨c::u,v,by rw [h1];rfl,by simp only [H,U];exact ⟨fun h=>hc h.symm,h2⟩⟩
theorem rE (t:ae):rD (91::t)=ao (91::t):=by
 by_cases h:(93:L)∈t
 ·obtain ⟨u,v,rfl,hu⟩:=FJ t h
  have hi:P (91::(u++93::v)) 93=((É u+1:K):Int):=by have:=FI (91::u) v (by simp only [H,U];exact ⟨by decide,hu⟩);rw [N] at this;rw [this];rfl
  unfold rD ao;rw [hi];cases u with
  | nil=>simp
  | cons c r=>
   have g1:(91::(c::r++93::v)).getD 1 0=c:=rfl;have g0:(91::(c::r++93::v)).getD 0 0=91:=rfl;rw [g1,g0]
   have ě:((91::(c::r++93::v)).take (((c::r).length+1:K):Int).toNat).drop 1=c::r:=by rw [Int.toNat_natCast,σ,δ,Α,List.take_left]
   rw [ě];have hgo:=JA (c::r) v 0 1 hu (by decide);have Ĝ:(91::(c::r++93::v)).drop 1=c::r++93::v:=rfl;rw [Ĝ,hgo];have ă: ¬ (91::(c::r++93::v)).length<3:=by simp;omega
   unfold wY;rw [C (show¬ c::r= [] by simp)];by_cases hd:49<=c.toNat/\c.toNat<=57
   ·have ī:c≠48:=fun h=>by subst h;exact I hd.1 (by decide)
    rw [C (show¬ ((91::(c::r++93::v)).length<3\/(91:L)≠91\/ ¬ (49<=c.toNat/\c.toNat<=57)) by
     simp only [U,Classical.not_not];exact ⟨ă,trivial,hd⟩)]
    by_cases hl:É r<=9
    ·rw [C (show¬ ((((c::r).length+1:K):Int)<2\/11<(((c::r).length+1:K):Int)\/c=48) by
      simp only [G,U];exact ⟨by omega,by omega,ī⟩)]
     cases hn:sL 0 (c::r) with
     | none=>rfl
     | some m=>
      simp only;by_cases hm:1073741824<m
      ·rw [F hm,F hm]
      ·rw [C hm,C hm];simp only [G];congr 1;omega
    ·rw [F (show ((((c::r).length+1:K):Int)<2\/11<(((c::r).length+1:K):Int)\/c=48) by
      simp only [G];right;left;omega)]
     cases hn:sL 0 (c::r) with
     | none=>rfl
     | some m=>
      have h1:=hn;unfold sL at h1;rw [F (by omega),C (by omega)] at h1;have h2:=Di _ _ _ h1;have h3:(10:K)^10<=10^É r:=Ρ (by decide) (by omega);have h4:1*10^É r<=(0*10+(c.toNat-48))*10^É r:=Z _ (by omega);have h5:(10:K)^10=10000000000:=by decide
      simp only;rw [F (show 1073741824<m by omega)]
   ·rw [F (show ((91::(c::r++93::v)).length<3\/(91:L)≠91\/ ¬ (49<=c.toNat/\c.toNat<=57)) from Or.inr (Or.inr hd))];by_cases hb:(((c::r).length+1:K):Int)<2\/11<(((c::r).length+1:K):Int)\/c=48
    ·rw [F hb]
    ·rw [C hb]
     have hc: ¬ (48<=c.toNat/\c.toNat<=57):=fun h=>by
      have:c=48:=UInt8.toNat_inj.1 (by show c.toNat=48;have h6:=h.1;have h7:=h.2;omega);exact hb (.inr (.inr this))
     rw [sL,C hc]
 ·have hi:P (91::t) 93= -1:=FH _ (by simp only [H,U];exact ⟨by decide,h⟩);unfold rD ao;rw [hi,F (.inl (by decide))];split
  ·rfl
  ·have:=Bh t 0 1 h;rw [δ,Α,this]
def Ch (s:ae):Int×Int:=if s.getD 0 0≠91 then (0,0) else rD s
theorem wj: ∀{s:ae},s≠ []->Ch s=ao s
 | c::t,_=>by
  unfold Ch;by_cases h:c=91
  ·subst h;rw [C (by simp),rE]
  ·have h0:(c::t).getD 0 0≠91:=h;rw [F h0];unfold ao;rw [F (.inr (.inl h0))]
theorem FK: ∀(t:ae) (n k a b:K),ua t n k=E (a,b)->n<=a/\k<b/\b<=k+É t/\a<=1073741824\/(n<=a/\k<b/\b<=k+É t/\a=n)
 | [],_,_,_,_,h=>by cases h
 | c::r,n,k,a,b,h=>by
  unfold ua at h;split at h
  ·split at h
   ·cases h
   ·rename_i hb;rcases FK r _ _ a b h with h | h
    ·left;simp only [G];omega
    ·left;simp only [G];omega
  ·split at h
   ·cases h;right;exact ⟨Δ _,Nat.lt_succ_self _,by simp only [G];omega,rfl⟩
   ·cases h
theorem c7 (s:ae):ao s=(0,0)\/(1<=(ao s).1/\(ao s).1<=1073741824/\2<=(ao s).2/\(ao s).2<=É s/\s.getD 0 0=91):=by
 unfold ao;split
 ·exact .inl rfl
 ·rename_i h;simp only [U,Classical.not_not] at h;split
  ·rename_i n k hg;right;obtain ⟨h1,h2,h3⟩:=h
   match s,h1,h2,h3,hg with
   | a::c::r,h1,h2,h3,hg=>
    have g1:(a::c::r).getD 1 0=c:=rfl;rw [g1] at h3;have g2:(a::c::r).drop 1=c::r:=rfl;rw [g2] at hg;unfold ua at hg;rw [F (show 48<=c.toNat/\c.toNat<=57 by omega)] at hg;split at hg
    ·cases hg
    ·have:=FK _ _ _ _ _ hg;simp only [G];refine ⟨by omega,by omega,by omega,by omega,h2⟩
   | [a],h1,_,_,_=>exact I (by simp) h1
   | [],h1,_,_,_=>exact I (by simp) h1
  ·exact .inl rfl
end Go.Proofs.YtfgbpngakkhdcaaGreatDoor
namespace Go.Proofs.YtfgbpngakkhdcaaGreatDoor
def cY (l:B Sh) (u:Int):ae:=
 match aL l u with
 | none=> [63]
 | some i=>match l[i]? with
  | some s=>if s.mark= [] then s.title else s.mark++ [32]++s.title
  | none=> []
def bI (Ā:Int->ae) (s:ae):ae:=
 match s with
 | []=> []
 | c::r=>if h:(ao (c::r)).2=0 then c::bI Ā r else Ā (ao (c::r)).1++bI Ā ((c::r).drop (ao (c::r)).2.toNat)
termination_by (É s)
decreasing_by
 ·simp
 ·rcases c7 (c::r) with h' | h'
  ·exact I (by rw [h']) h
  ·simp only [Y,G] at*;omega
theorem jd (Ā:Int->ae):bI Ā []= []:=by rw [bI]
theorem jO (Ā:Int->ae) (c:L) (r:ae) (h:(ao (c::r)).2=0):bI Ā (c::r)=c::bI Ā r:=by rw [bI,ϗ h]
theorem iU (Ā:Int->ae) (s:ae) (h:(ao s).2≠0):bI Ā s=Ā (ao s).1++bI Ā (s.drop (ao s).2.toNat):=by
 cases s with
 | nil=>exact I rfl h
 | cons c r=>rw [bI,ϖ h]
structure Nd where
 depth:Int
 tag:ae
 text:ae
structure mv where
 unit:Int
 num:ae
 nodes:B Nd
instance:DecidableEq Nd:=fun a b=>ϋ (a.depth=b.depth/\a.tag=b.tag/\a.text=b.text) (by cases a;cases b;simp)
instance:DecidableEq mv:=fun a b=>ϋ (a.unit=b.unit/\a.num=b.num/\a.nodes=b.nodes) (by cases a;cases b;simp)
def ec (level:Int):ae:=if level=1 then [102,111,110,100,115] else if level=2 then [115,101,114,105,101,115] else if level=3 then [102,105,108,101] else [105,116,101,109]
def aY (s:ae):K:=s.count 46
def oP (d:Int) (s:Sh):B Nd:=if s.mark= [] then [] else [⟨d, [109,97,114,107],s.mark⟩]
def cX (it:Int->ae) (el:Int):ae:= [101,108,101,109,101,110,116,32]++it el
def oQ (it:Int->ae) (order:B ae) (c:Ct) (d:Int) (f:Fc):Nd:=⟨d, [112],fZ order c.av f.el (cX it f.el)++ [58,32]++bI (cY c.ai) f.text⟩
def kZ (it:Int->ae) (order:B ae) (c:Ct) (x:Sh×ae):mv:=
 ⟨x.1.unit,x.2,⟨aY x.2,ec x.1.level,x.2++ [32]++x.1.title⟩::(oP (aY x.2+1) x.1++(ay order x.1.facts).map (oQ it order c (aY x.2+1)))⟩
def ss (it:Int->ae) (order:B ae) (c:Ct) (d:Int) (f:Fc):Nd:=⟨d, [112],jI order c.av f.el (cX it f.el)++ [58,32]++bI (cY c.ai) f.text⟩
def Dj (it:Int->ae) (order:B ae) (c:Ct) (x:Sh×ae):mv:=
 ⟨x.1.unit,x.2,⟨aY x.2,ec x.1.level,x.2++ [32]++x.1.title⟩::(oP (aY x.2+1) x.1++(cB order x.1.facts).map (ss it order c (aY x.2+1)))⟩
theorem yZ {c:Ct} (h:iq c) {s:ae} {lang:ae} (hl:cD c.ad lang=O):cD (aw c.ad s) lang=true:=sq hl
theorem NR {c:Ct} (h:iq c) (it:Int->ae) (lang:ae) (x:Sh×ae) (hx:x.1∈c.ai):kZ it (aw c.ad lang) c x=Dj it (aw c.ad lang) c x:=by
 have hs:=h.ai x.1 hx;unfold kZ Dj;rw [pK hs.inc (fun g hg=>yZ h (hs.facts g hg).lang)]
 have:oQ it (aw c.ad lang) c (aY x.2+1)=ss it (aw c.ad lang) c (aY x.2+1):=by funext f;unfold oQ ss;rw [Bc h.Z3 (fun g hg=>yZ h (h.av g hg).lang)]
 rw [this]
def fp (it:Int->ae) (c:Ct) (root:Int) (lang:ae):B mv:=(cK it root ⟨[], []⟩ c.ai).map (kZ it (aF c.ad lang) c)
def NT (it:Int->ae) (c:Ct) (root:Int) (lang:ae):B mv:=(fi it c.ai root 0 c.ai).map (Dj it (aw c.ad lang) c)
theorem m9 {it:Int->ae} {l:B Sh} {root:Int}: ∀(r:B Sh) (i:K) (x:Sh×ae),x∈fi it l root i r->x.1∈r
 | [],_,_,h=>by cases h
 | s::r,i,x,h=>by
  unfold fi at h;split at h
  ·rcases List.mem_cons.1 h with rfl | h
   ·simp
   ·simp [m9 r _ x h]
  ·simp [m9 r _ x h]
theorem NU {c:Ct} (h:iq c) (it:Int->ae) (root:Int) {lang:ae} (hl:cD c.ad lang=O):fp it c root lang=NT it c root lang:=by unfold fp NT;rw [m7 it h.valid root,lL h.diff hl];apply υ;intro x hx;exact NR h it lang x (m9 _ _ x hx)
def fT (u:Int):ae->B (Sh×ae)->ae
 | f, []=>f
 | f,x::r=>if x.1.unit=u then fT u x.2 r else fT u f r
def de (it:Int->ae) (c:Ct) (root u:Int):ae:=fT u [] (cK it root ⟨[], []⟩ c.ai)
def eL (it:Int->ae) (c:Ct) (root u:Int):ae:=match aL c.ai u with
 | some i=>if qt c.ai root i=O then jF it c.ai root i else []
 | none=> []
theorem u4 {u:Int}: ∀(r:B (Sh×ae)) (f:ae),(∀x∈r,x.1.unit≠u)->fT u f r=f
 | [],_,_=>rfl
 | x::r,f,h=>by
  unfold fT;rw [C (h x (by simp)),u4 r f (fun y hy=>h y (by simp [hy]))]
theorem FL {it:Int->ae} {l:B Sh} (hu:l6 l) (root u:Int): ∀(r:B Sh) (i:K) (f:ae),l.drop i=r->
  fT u f (fi it l root i r)=match aL r u with
   | some j=>if qt l root (i+j)=O then jF it l root (i+j) else f
   | none=>f
 | [],_,_,_=>rfl
 | s::r,i,f,hd=>by
  have hs:l[i]?=E s:=by rw [<-π,hd];rfl
  have Ē:l.drop (i+1)=r:=by rw [<-Β,hd];rfl
  have ą: ∀x∈r,x.unit≠s.unit:=fun x hx Ō=>by
   obtain ⟨k,hk⟩:=List.mem_iff_getElem?.1 hx;rw [<-Ē,List.getElem?_drop] at hk;have:=qq hu hk hs Ō;omega
  unfold fi;by_cases h1:s.unit=u
  ·have hi:aL (s::r) u=E 0:=by rw [aL,F h1]
   rw [hi];simp only [Nat.add_zero];by_cases h2:qt l root i=O
   ·rw [F h2,F h2,fT,F h1];refine u4 _ _ fun x hx=> ?_;have:=ą _ (m9 _ _ x hx);rw [<-h1];exact this
   ·rw [C h2,C h2];refine u4 _ _ fun x hx=> ?_;have:=ą _ (m9 _ _ x hx);rw [<-h1];exact this
  ·have hi:aL (s::r) u=(aL r u).map (· +1):=by rw [aL,C h1]
   have ih:=FL (it:=it) hu root u r (i+1) f Ē;rw [hi]
   have e:fT u f (if qt l root i=O then (s,jF it l root i)::fi it l root (i+1) r else fi it l root (i+1) r)=fT u f (fi it l root (i+1) r):=by
    split
    ·rw [fT,C h1]
    ·rfl
   rw [e,ih];cases aL r u with
   | none=>rfl
   | some j=>simp only [W];rw [show i+1+j=i+(j+1) by omega]
theorem gM {c:Ct} (h:iq c) (it:Int->ae) (root u:Int):de it c root u=eL it c root u:=by
 unfold de eL;rw [m7 it h.valid root,FL h.valid.uniq root u c.ai 0 [] rfl];cases aL c.ai u with
 | none=>rfl
 | some j=>simp only [ϔ]
theorem JB {it:Int->ae} {l:B Sh} {root:Int} {i:K} {s:Sh} (h:l[i]?=E s):jF it l root i≠ []:=by
 rw [mY it h];split
 ·simp
 ·simp
end Go.Proofs.YtfgbpngakkhdcaaGreatDoor
namespace Go.Proofs.YtfgbpngakkhdcaaGreatDoor
def ee:ae->D (ae×ae)
 | []=>J
 | c::r=>if c=32 then E ([],r) else (ee r).map fun p=>(c::p.1,p.2)
theorem kR: ∀(a b:ae),(32:L)∉a->ee (a++32::b)=E (a,b)
 | [],b,_=>by simp [ee]
 | c::r,b,h=>by
  simp only [H,U] at h;rw [N,ee,C (fun hc=>h.1 hc.symm),kR r b h.2];rfl
theorem eX: ∀{s a b:ae},ee s=E (a,b)->s=a++32::b/\(32:L)∉a
 | c::r,a,b,h=>by
  unfold ee at h;split at h
  ·rename_i hc;cases h;exact ⟨by rw [hc];rfl,by simp⟩
  ·rename_i hc;cases hr:ee r with
   | none=>rw [hr] at h;cases h
   | some p=>rw [hr] at h;simp only [W,M,ϓ] at h;obtain ⟨rfl,rfl⟩:=h;obtain ⟨h1,h2⟩:=eX (a:=p.1) (b:=p.2) hr;exact ⟨by rw [h1];rfl,by simp only [H,U];exact ⟨fun h=>hc h.symm,h2⟩⟩
def wM (acc:K):ae->D K
 | []=>E acc
 | c::r=>if 48<=c.toNat/\c.toNat<=57 then (if 65535<acc*10+(c.toNat-48) then J else wM (acc*10+(c.toNat-48)) r) else J
def lj (s:ae):D K:=if s= [] then J else wM 0 s
def fS (ag:ae->D ae) (line:ae):D (K×ae):=
 match ee line with
 | some (num,rest)=>match lj num,ag rest with
  | some n,E t=>if t= []\/num.getD 0 0=48\/64<n then J else E (n,t)
  | _,_=>J
 | none=>J
def kS (ag:ae->D ae) (line w:ae):D ae:=if (w++ [32]).isPrefixOf line=O then ag (line.drop (É w+1)) else J
def kT (n:K):ae:=if n<10 then [UInt8.ofNat (48+n)] else [UInt8.ofNat (48+n / 10),UInt8.ofNat (48+n%10)]
def oG (ag:ae->D ae) (line:ae):K->K->D (K×ae)
 | 0,_=>J
 | k+1,e=>match kS ag line (kT e) with
  | some t=>if t= [] then oG ag line k (e+1) else E (e,t)
  | none=>oG ag line k (e+1)
theorem su {ag:ae->D ae} {line w t:ae} (h:kS ag line w=E t): ∃r,line=w++32::r/\ag r=E t:=by
 unfold kS at h;split at h
 ·rename_i hp;obtain ⟨r,hr⟩:=List.isPrefixOf_iff_prefix.1 hp;refine ⟨r,by rw [<-hr];simp,?_⟩;rw [<-hr] at h
  have:(w++ [32]++r).drop (É w+1)=r:=by rw [show (É w)+1=(w++ [32]).length by simp,ϐ]
  rwa [this] at h
 ·cases h
theorem Bi (ag:ae->D ae) (w r:ae):kS ag (w++32::r) w=ag r:=by
 unfold kS;rw [F (List.isPrefixOf_iff_prefix.2 ⟨r,by simp⟩)]
 have:(w++32::r).drop (É w+1)=r:=by rw [show w++32::r=(w++ [32])++r by simp,show (É w)+1=(w++ [32]).length by simp,ϐ]
 rw [this]
theorem H0:((Υ 65).all fun n=>n==0 || (lj (kT n)==E n&&(!(kT n).contains 32&& !((kT n).getD 0 0==48))))=true:=by decide+kernel
theorem JC {n:K} (h1:1<=n) (h2:n<=64):lj (kT n)=E n/\(32:L)∉kT n/\(kT n).getD 0 0≠48:=by
 have:=List.all_eq_true.1 H0 n (List.mem_range.2 (by omega));have h0:(n==0)=false:=by simp;omega
 simp only [h0,Τ,ι,Ϗ,Bool.not_eq_true',List.contains_eq_mem,decide_eq_false_iff_not] at this;exact ⟨this.1,this.2.1,by simpa using this.2.2⟩
theorem JD: ∀(u:ae) (n m:K),wM n u=E m->n*10^É u<=m
 | [],n,m,h=>by cases h;simp
 | c::r,n,m,h=>by
  unfold wM at h;split at h
  ·split at h
   ·cases h
   ·have:=JD r _ m h;rw [G,ϕ];have h2:n*(10^É r*10)=(n*10)*10^É r:=by rw [Χ (10^É r) 10,ϒ]
    rw [h2];exact Ψ (Z _ (by omega)) this
  ·cases h
theorem JE {s:ae} {n:K} (h:lj s=E n) (h0:s.getD 0 0≠48) (hn:n<=64):s=kT n/\1<=n:=by
 unfold lj at h;split at h
 ·cases h
 ·rename_i hne
  match s,hne,h,h0 with
  | [c],_,h,h0=>
   unfold wM at h;split at h
   ·rename_i hc;split at h
    ·cases h
    ·simp only [wM,M] at h;have ĺ:c.toNat≠48:=fun hh=>h0 (UInt8.toNat_inj.1 (by show c.toNat=48;exact hh));refine ⟨?_,by omega⟩;unfold kT;rw [F (by omega)];congr 1;apply UInt8.toNat_inj.1;rw [UInt8.toNat_ofNat'];omega
   ·cases h
  | [c,d],_,h,h0=>
   unfold wM at h;split at h
   ·rename_i hc;split at h
    ·cases h
    ·unfold wM at h;split at h
     ·rename_i hd;split at h
      ·cases h
      ·simp only [wM,M] at h;have ĺ:c.toNat≠48:=fun hh=>h0 (UInt8.toNat_inj.1 (by show c.toNat=48;exact hh));refine ⟨?_,by omega⟩;unfold kT;rw [C (by omega)]
       have e1:c=UInt8.ofNat (48+n / 10):=by apply UInt8.toNat_inj.1;rw [UInt8.toNat_ofNat'];omega
       have e2:d=UInt8.ofNat (48+n%10):=by apply UInt8.toNat_inj.1;rw [UInt8.toNat_ofNat'];omega
       rw [<-e1,<-e2]
     ·cases h
   ·cases h
  | c::d::e::r,_,h,h0=>
   exfalso;unfold wM at h;split at h
   ·rename_i hc;split at h
    ·cases h
    ·have hg:=JD _ _ _ h;have ĺ:c.toNat≠48:=fun hh=>h0 (UInt8.toNat_inj.1 (by show c.toNat=48;exact hh));have hp:(10:K)^2<=10^(d::e::r).length:=Ρ (by decide) (by simp);have hm:1*10^(d::e::r).length<=(0*10+(c.toNat-48))*10^(d::e::r).length:=Z _ (by omega);omega
   ·cases h
theorem Bj {ag:ae->D ae} {line:ae}: ∀(k e:K),1<=e->e+k=65->
  oG ag line k e=match fS ag line with | some (n,t)=>if e<=n then E (n,t) else J | none=>J
 | 0,e,h1,h2=>by
  unfold oG;split
  ·rename_i n t hf;unfold fS at hf;split at hf
   ·split at hf
    ·split at hf
     ·cases hf
     ·rename_i hh;cases hf;rw [C (by omega)]
    ·cases hf
   ·cases hf
  ·rfl
 | k+1,e,h1,h2=>by
  unfold oG;rw [Bj k (e+1) (by omega) (by omega)];obtain ⟨d1,d2,d3⟩:=JC h1 (by omega:e<=64);cases hw:kS ag line (kT e) with
  | some t=>
   obtain ⟨r,hl,hu⟩:=su hw;have hc:ee line=E (kT e,r):=by rw [hl];exact kR _ _ d2
   have hf:fS ag line=if t= [] then J else E (e,t):=by
    unfold fS;rw [hc];simp only [d1,hu];by_cases ht:t= []
    ·rw [F (.inl ht),F ht]
    ·rw [C (by simp only [U];exact ⟨ht,d3,by omega⟩),C ht]
   rw [hf];by_cases ht:t= []
   ·simp [ht]
   ·simp [ht]
  | none=>
   simp only;split
   ·rename_i n t hf
    have hne:n≠e:=fun he=>by
     subst he;unfold fS at hf;split at hf
     ·rename_i num rest hc;split at hf
      ·rename_i n' t' hn hu;split at hf
       ·cases hf
       ·rename_i hh;simp only [U] at hh;cases hf;obtain ⟨hl,_⟩:=eX hc;have:=(JE hn hh.2.1 (by omega)).1;rw [hl,this,Bi,hu] at hw;cases hw
      ·cases hf
     ·cases hf
    by_cases hle:e<=n
    ·rw [F hle,F (by omega)]
    ·rw [C hle,C (by omega)]
   ·rfl
end Go.Proofs.YtfgbpngakkhdcaaGreatDoor
namespace Go.Proofs.YtfgbpngakkhdcaaGreatDoor
set_option maxRecDepth 10000
set_option maxHeartbeats 4000000
def splitB (c:L):B L->B (B L)
 | []=> [[]]
 | x::s=>if x=c then []::splitB c s else match splitB c s with
  | p::r=>(x::p)::r
  | []=> [[x]]
theorem kc (c:L): ∀s,splitB c s≠ []
 | []=>by simp [splitB]
 | x::s=>by
  simp only [splitB];split
  ·simp
  ·split <;> simp
theorem Bk {c:L}: ∀{s:B L},c∉s->splitB c s= [s]
 | [],_=>rfl
 | x::s,h=>by
  simp only [H,U] at h;simp only [splitB,C (Ne.symm h.1),Bk h.2]
theorem sv {c:L}: ∀{a:B L} (s:B L),c∉a->splitB c (a++c::s)=a::splitB c s
 | [],s,_=>by simp [splitB]
 | x::a,s,h=>by
  simp only [H,U] at h;simp only [N,splitB,C (Ne.symm h.1),sv s h.2]
theorem eY {c:L}: ∀(s p:B L),p∈splitB c s->c∉p/\É p<=É s
 | [],p,h=>by simp [splitB] at h;subst h;simp
 | x::s,p,h=>by
  simp only [splitB] at h;split at h
  ·rcases List.mem_cons.1 h with h | h
   ·subst h;simp
   ·have:=eY s p h;exact ⟨this.1,by simp;omega⟩
  ·rename_i hx;have ih:=eY (c:=c) s;have hne:=kc c s;generalize splitB c s=l at*
   cases l with
   | nil=>exact I rfl hne
   | cons q r=>
    simp only at h;rcases List.mem_cons.1 h with h | h
    ·subst h;have:=ih q Φ;simp only [H,U,G];exact ⟨⟨Ne.symm hx,this.1⟩,by omega⟩
    ·have:=ih p (ο _ h);exact ⟨this.1,by simp;omega⟩
theorem jU (c:L): ∀s:B L,(splitB c s).length=s.count c+1
 | []=>by simp [splitB]
 | x::s=>by
  have:=jU c s;simp only [splitB];split
  ·rename_i h;subst h;simp [this]
  ·rename_i h;rw [List.count_cons_of_ne h];split
   ·rename_i h;rw [h] at this;simp at this⊢;omega
   ·rename_i h;exact I h (kc c s)
theorem ub {c:L}: ∀(l:B (B L)),(∀p∈l,c∉p)->splitB c (l.flatMap fun p=>p++ [c])=l++ [[]]
 | [],_=>rfl
 | p::r,hp=>by
  rw [R,List.append_assoc,List.singleton_append,sv _ (hp p Φ),ub r (fun x hx=>hp x (ο _ hx))];rfl
end Go.Proofs.YtfgbpngakkhdcaaGreatDoor
namespace Go.Proofs.YtfgbpngakkhdcaaGreatDoor
def cw (cur:ae):ae->B ae×ω
 | []=>([],decide (cur= []))
 | x::s=>if x=10 then (cur::(cw [] s).1,(cw [] s).2) else cw (cur++ [x]) s
def oc (cur:ae):B ae->B ae
 | []=> []
 | p::r=>(cur++p)::r
theorem iZ: ∀(s cur:ae),cw cur s=((oc cur (splitB 10 s)).dropLast,decide ((oc cur (splitB 10 s)).getLast?=E []))
 | [],cur=>by simp [cw,splitB,oc]
 | x::s,cur=>by
  unfold cw splitB;by_cases hx:x=10
  ·rw [F hx,F hx,iZ s []];cases hs:splitB 10 s with
   | nil=>exact I hs (kc 10 s)
   | cons p r=>simp only [oc,Κ,ώ,List.dropLast_cons_cons,List.getLast?_cons_cons];congr
  ·rw [C hx,C hx,iZ s (cur++ [x])];cases hs:splitB 10 s with
   | nil=>exact I hs (kc 10 s)
   | cons p r=>simp [oc];congr
theorem sx: ∀(u:ae),splitB 10 (u++ [10])=splitB 10 u++ [[]]
 | []=>by simp [splitB]
 | x::s=>by
  rw [N];unfold splitB;rw [sx s];split
  ·rfl
  ·cases hs:splitB 10 s with
   | nil=>exact I hs (kc 10 s)
   | cons p r=>rfl
theorem pL: ∀(v:ae),v≠ []->(splitB 10 v).getLast?=E []-> ∃u,v=u++ [10]
 | [x],_,h=>by
  unfold splitB at h;split at h
  ·rename_i hx;exact ⟨[],by rw [hx];rfl⟩
  ·simp [splitB] at h
 | x::y::s,_,h=>by
  unfold splitB at h;cases hs:splitB 10 (y::s) with
  | nil=>exact I hs (kc 10 _)
  | cons p r=>
   rw [hs] at h;split at h
   ·have h':(splitB 10 (y::s)).getLast?=E []:=by rw [hs];simpa using h
    obtain ⟨u,hu⟩:=pL (y::s) (by simp) h';exact ⟨x::u,by rw [hu];rfl⟩
   ·cases r with
    | nil=>simp at h
    | cons q r=>
     have h':(splitB 10 (y::s)).getLast?=E []:=by rw [hs];simpa using h
     obtain ⟨u,hu⟩:=pL (y::s) (by simp) h';exact ⟨x::u,by rw [hu];rfl⟩
def pN (v:ae):D (B ae):=if v.getLast?=E 10 then E (splitB 10 v.dropLast) else J
def y4 (v:ae):D (B ae):=if (cw [] v).2=O then E (cw [] v).1 else J
theorem H2 {v:ae} (h:v≠ []):pN v=y4 v:=by
 unfold pN y4
 have hh:oc [] (splitB 10 v)=splitB 10 v:=by
  cases hs:splitB 10 v with
  | nil=>rfl
  | cons p r=>rfl
 rw [iZ,hh];simp only [η];by_cases hl:v.getLast?=E 10
 ·obtain ⟨u,hu⟩: ∃u,v=u++ [10]:=⟨v.dropLast,by
   have hne:v≠ []:=h;have h1:=List.dropLast_concat_getLast hne;rw [List.getLast?_eq_some_getLast hne] at hl;have h2:v.getLast hne=10:=Option.some.inj hl;rw [h2] at h1;exact h1.symm⟩
  rw [F hl];subst hu;rw [sx];simp
 ·rw [C hl,C];intro hc;obtain ⟨u,hu⟩:=pL v h hc;apply hl;rw [hu];simp
def cU (n:K):ae:=if n=1 then [102,111,110,100,115] else if n=2 then [115,101,114,105,101,115] else if n=3 then [102,105,108,101] else [105,116,101,109]
def jJ (w:ae):K:=if w=cU 1 then 1 else if w=cU 2 then 2 else if w=cU 3 then 3 else if w=cU 4 then 4 else 0
def pO (ag:ae->D ae) (l:ae):D (K×ae):=
 match ee l with
 | some (w,r)=>match ag r with
  | some t=>if jJ w=0\/t= [] then J else E (jJ w,t)
  | none=>J
 | none=>J
def sy (ag:ae->D ae) (l:ae) (n:K) (o:D (K×ae)):D (K×ae):=
 match kS ag l (cU n) with
 | some t=>if t= [] then o else E (n,t)
 | none=>o
def y5 (ag:ae->D ae) (l:ae):D (K×ae):=sy ag l 4 (sy ag l 3 (sy ag l 2 (sy ag l 1 J)))
theorem y6:(32:L)∉cU 1/\(32:L)∉cU 2/\(32:L)∉cU 3/\(32:L)∉cU 4:=by decide
theorem na {ag:ae->D ae} {l w a b:ae} (hw:(32:L)∉w) (hc:ee l=E (a,b)):kS ag l w=if a=w then ag b else none:=by
 obtain ⟨h1,h2⟩:=eX hc;by_cases h:a=w
 ·rw [F h,h1,h,Bi]
 ·rw [C h];cases hr:kS ag l w with
  | none=>rfl
  | some t=>obtain ⟨r,hl,_⟩:=su hr;rw [hl,kR w r hw] at hc;cases hc;exact I rfl h
theorem kU {ag:ae->D ae} {l w:ae} (hw:(32:L)∉w) (hc:ee l=J):kS ag l w=none:=by
 cases hr:kS ag l w with
 | none=>rfl
 | some t=>obtain ⟨r,hl,_⟩:=su hr;rw [hl,kR w r hw] at hc;cases hc
theorem Bl (ag:ae->D ae) (l:ae):pO ag l=y5 ag l:=by
 obtain ⟨t1,t2,t3,t4⟩:=y6;unfold pO y5 sy;cases hc:ee l with
 | none=>rw [kU t1 hc,kU t2 hc,kU t3 hc,kU t4 hc]
 | some p=>
  obtain ⟨a,b⟩:=p;rw [na t1 hc,na t2 hc,na t3 hc,na t4 hc];simp only;cases hu:ag b with
  | none=>simp
  | some t=>
   unfold jJ;by_cases h1:a=cU 1
   ·subst h1;by_cases ht:t= [] <;> simp [ht,show¬ cU 1=cU 2 by decide,show¬ cU 1=cU 3 by decide,show¬ cU 1=cU 4 by decide]
   ·by_cases h2:a=cU 2
    ·subst h2;by_cases ht:t= [] <;> simp [ht,show¬ cU 2=cU 1 by decide,show¬ cU 2=cU 3 by decide,show¬ cU 2=cU 4 by decide]
    ·by_cases h3:a=cU 3
     ·subst h3;by_cases ht:t= [] <;> simp [ht,show¬ cU 3=cU 1 by decide,show¬ cU 3=cU 2 by decide,show¬ cU 3=cU 4 by decide]
     ·by_cases h4:a=cU 4
      ·subst h4;by_cases ht:t= [] <;> simp [ht,show¬ cU 4=cU 1 by decide,show¬ cU 4=cU 2 by decide,show¬ cU 4=cU 3 by decide]
      ·simp [h1,h2,h3,h4]
def jt:ae:= [109,97,114,107]
def qX (ag:ae->D ae) (l:ae):D ae:=
 match ee l with
 | some (w,r)=>if w=jt then ag r else J
 | none=>J
theorem Lf (ag:ae->D ae) (l:ae):qX ag l=kS ag l jt:=by
 have h:(32:L)∉jt:=by decide
 unfold qX;cases hc:ee l with
 | none=>rw [kU h hc]
 | some p=>obtain ⟨a,b⟩:=p;rw [na h hc]
def iO (ag:ae->D ae):K->B ae->D (B (K×ae))
 | _, []=>E []
 | last,l::r=>match fS ag l with
  | some (n,t)=>if n<=last then J else (iO ag n r).map ((n,t):: ·)
  | none=>J
def ma (ag:ae->D ae):K->B ae->D (B (K×ae))
 | _, []=>E []
 | last,l::r=>match oG ag l (64-last) (last+1) with
  | some (n,t)=>(ma ag n r).map ((n,t):: ·)
  | none=>J
theorem NV {ag:ae->D ae} {l:ae} {n:K} {t:ae} (h:fS ag l=E (n,t)):n<=64:=by
 unfold fS at h;split at h
 ·split at h
  ·split at h
   ·cases h
   ·rename_i hh;cases h;omega
  ·cases h
 ·cases h
theorem y7 (ag:ae->D ae): ∀(l:B ae) (last:K),last<=64->iO ag last l=ma ag last l
 | [],_,_=>rfl
 | x::r,last,h=>by
  unfold iO ma;rw [Bj (64-last) (last+1) (by omega) (by omega)];cases hf:fS ag x with
  | none=>rfl
  | some p=>
   obtain ⟨n,t⟩:=p;simp only;by_cases hn:n<=last
   ·rw [F hn,C (by omega)]
   ·rw [C hn,F (by omega)];simp only;rw [y7 ag r n (NV hf)]
structure SV where
 level:K
 title:ae
 mark:ae
 facts:B (K×ae)
def ic (hd:ae->D (K×ae)) (mk:ae->D ae) (fs:B ae->D (B (K×ae))):D (B ae)->D SV
 | some (a::b::r)=>match hd a,mk b,fs r with
  | some (n,t),E m,E f=>E ⟨n,t,m,f⟩
  | _,_,_=>J
 | _=>J
def fV (ag:ae->D ae) (v:ae):D SV:=ic (pO ag) (qX ag) (iO ag 0) (pN v)
def pP (ag:ae->D ae) (v:ae):D SV:=ic (y5 ag) (fun l=>kS ag l jt) (ma ag 0) (y4 v)
theorem H3 (ag:ae->D ae) {v:ae} (h:v≠ []):fV ag v=pP ag v:=by unfold fV pP;rw [H2 h,funext (Bl ag),funext (Lf ag),funext fun l=>y7 ag l 0 (by omega)]
end Go.Proofs.YtfgbpngakkhdcaaGreatDoor
namespace Go.Proofs.YtfgbpngakkhdcaaGreatDoor
theorem FM: ∀(l:B ae),l≠ []-> ∃u,(l.flatMap fun p=>p++ [(10:L)])=u++ [10]
 | [p],_=>⟨p,by simp⟩
 | p::q::r,_=>by
  obtain ⟨u,hu⟩:=FM (q::r) (by simp);exact ⟨p++ [10]++u,by rw [R,hu];simp⟩
theorem wk {l:B ae} (hl:l≠ []) (h: ∀p∈l,(10:L)∉p):pN (l.flatMap fun p=>p++ [10])=E l:=by have h1:=ub l h;obtain ⟨u,hu⟩:=FM l hl;unfold pN;rw [hu] at h1⊢;rw [sx] at h1;have h2:=List.append_cancel_right h1;simp [h2]
section
variable (aB:ae->ae) (ag:ae->D ae)
def wq (f:K×ae):ae:=kT f.1++32::aB f.2
def ie (lev:K) (title mark:ae) (facts:B (K×ae)):B ae:=(cU lev++32::aB title)::(jt++32::aB mark)::facts.map (wq aB)
def wu (lev:K) (title mark:ae) (facts:B (K×ae)):ae:=(ie aB lev title mark facts).flatMap fun p=>p++ [10]
def SX:K->B (K×ae)->Prop
 | _, []=>True
 | last,f::r=>last<f.1/\f.1<=64/\f.2≠ []/\SX f.1 r
variable {aB ag} (h1: ∀s,ag (aB s)=E s) (h2: ∀s,(10:L)∉aB s)
include h1
theorem H4 {n:K} {t:ae} (ō:1<=n) (hn2:n<=64) (ht:t≠ []):fS ag (wq aB (n,t))=E (n,t):=by obtain ⟨d1,d2,d3⟩:=JC ō hn2;unfold fS wq;rw [kR _ _ d2];simp only [d1,h1];rw [C (by simp only [U];exact ⟨ht,d3,by omega⟩)]
theorem uc: ∀(l:B (K×ae)) (last:K),SX last l->iO ag last (l.map (wq aB))=E l
 | [],_,_=>rfl
 | (n,t)::r,last,h=>by
  obtain ⟨a1,a2,a3,a4⟩:=h;simp only at a1 a2 a3 a4;rw [Q,iO,H4 h1 (by omega) a2 a3];simp only;rw [C (by omega),uc r n a4];rfl
theorem H5 {lev:K} (Ļ:1<=lev) (ļ:lev<=4) {t:ae} (ht:t≠ []):pO ag (cU lev++32::aB t)=E (lev,t):=by
 obtain ⟨t1,t2,t3,t4⟩:=y6
 have ą:(32:L)∉cU lev/\jJ (cU lev)=lev:=by
  have:lev=1\/lev=2\/lev=3\/lev=4:=by omega
  rcases this with rfl | rfl | rfl | rfl
  ·exact ⟨t1,by decide⟩
  ·exact ⟨t2,by decide⟩
  ·exact ⟨t3,by decide⟩
  ·exact ⟨t4,by decide⟩
 unfold pO;rw [kR _ _ ą.1];simp only [h1,ą.2];rw [C (by simp only [U];exact ⟨by omega,ht⟩)]
theorem H6 (m:ae):qX ag (jt++32::aB m)=E m:=by unfold qX;rw [kR _ _ (by decide)];simp only [ζ,h1]
include h2
theorem FO: ∀(lev:K) (title mark:ae) (facts:B (K×ae)),(∀f∈facts,1<=f.1/\f.1<=64)-> ∀p∈ie aB lev title mark facts,(10:L)∉p:=by
 intro lev title mark facts hf p hp
 have Ĭ: ∀n,(10:L)∉cU n:=fun n=>by
  unfold cU
  repeat' split
  all_goals decide
 have ĝ:(10:L)∉jt:=by decide
 have ĭ:((Υ 65).all fun n=> !(kT n).contains 10)=true:=by decide+kernel
 unfold ie at hp;simp only [H,List.mem_map] at hp;rcases hp with rfl | rfl | ⟨f,Ŏ,rfl⟩
 ·simp only [Ν,H,U];exact ⟨Ĭ lev,by decide,h2 title⟩
 ·simp only [Ν,H,U];exact ⟨ĝ,by decide,h2 mark⟩
 ·have:=List.all_eq_true.1 ĭ f.1 (List.mem_range.2 (by have:=(hf f Ŏ).2;omega));unfold wq;simp only [Ν,H,U];exact ⟨by simpa using this,by decide,h2 f.2⟩
theorem Bm: ∀(l:B (K×ae)) (last:K),SX last l-> ∀f∈l,1<=f.1/\f.1<=64
 | [],_,_,f,hf=>by cases hf
 | g::r,last,h,f,hf=>by
  obtain ⟨a1,a2,a3,a4⟩:=h;rcases List.mem_cons.1 hf with rfl | hf
  ·exact ⟨by omega,a2⟩
  ·exact Bm r _ a4 f hf
theorem pQ {lev:K} (Ļ:1<=lev) (ļ:lev<=4) {title mark:ae} (ht:title≠ []) {facts:B (K×ae)} (hf:SX 0 facts):fV ag (wu aB lev title mark facts)=E ⟨lev,title,mark,facts⟩:=by unfold fV wu;rw [wk (by simp [ie]) (FO h1 h2 lev title mark facts (Bm h1 h2 facts 0 hf))];unfold ie ic;simp only [H5 h1 Ļ ļ ht,H6 h1,uc h1 facts 0 hf]
end
end Go.Proofs.YtfgbpngakkhdcaaGreatDoor
namespace Go.Proofs.YtfgbpngakkhdcaaGreatDoor
def NW:Int->B Fc->Prop
 | _, []=>True
 | last,f::r=>last<f.el/\NW f.el r
theorem u5 (order:B ae): ∀(r:B Fc) (cur:Fc) (last:Int),last<cur.el->Jw (cur::r)->NW last (fo order cur r)
 | [],cur,last,h,_=>⟨h,trivial⟩
 | f::r,cur,last,h,hi=>by
  obtain ⟨h1,h2,h3⟩:=hi;unfold fo;have Ħ:=h1 f (by simp);by_cases Ă:cur.el=f.el
  ·rw [C (fun h:cur.el≠f.el=>h Ă)]
   have ih: ∀c':Fc,c'=f\/c'=cur->NW last (fo order c' r):=fun c' Ě=>by
    refine u5 order r c' last (by rcases Ě with rfl | rfl <;> omega) ⟨fun g hg=> ?_,h3⟩;rcases Ě with rfl | rfl
    ·exact h2 g hg
    ·exact h1 g (by simp [hg])
   split
   ·exact ih f (.inl rfl)
   ·exact ih cur (.inr rfl)
  ·rw [F (show cur.el≠f.el from Ă)];refine ⟨h,u5 order r f cur.el ?_ ⟨h2,h3⟩⟩;rcases Ħ with h | h
   ·exact h
   ·exact I h.1 Ă
theorem qv (order:B ae): ∀(r:B Fc) (cur x:Fc),x∈fo order cur r->x=cur\/x∈r
 | [],cur,x,h=>by simpa [fo] using h
 | f::r,cur,x,h=>by
  unfold fo at h;split at h
  ·rcases List.mem_cons.1 h with h | h
   ·exact .inl h
   ·rcases qv order r f x h with h | h
    ·right;rw [h];simp
    ·right;simp [h]
  ·split at h
   ·rcases qv order r f x h with h | h
    ·right;rw [h];simp
    ·right;simp [h]
   ·rcases qv order r cur x h with h | h
    ·exact .inl h
    ·right;simp [h]
theorem bH {order:B ae} {l:B Fc} {x:Fc} (h:x∈ay order l):x∈l:=by
 cases l with
 | nil=>simp [ay] at h
 | cons f r=>
  rcases qv order r f x h with h | h
  ·rw [h];simp
  ·simp [h]
theorem pR {order:B ae} {l:B Fc} (hl:Jw l) (hp: ∀f∈l,1<=f.el):NW 0 (ay order l):=by
 cases l with
 | nil=>trivial
 | cons f r=>exact u5 order r f 0 (by have:=hp f (by simp);omega) hl
def fO (text:ae):B Cell:=(Υ (É text)).filterMap fun i=>if (ao (text.drop i)).2=0 then J else E (4,(ao (text.drop i)).1)
def cE (f:Fc):B Cell:=(3,f.el)::fO f.text
def cellsOf (u:Int) (facts:B Fc):B Cell:=(facts.flatMap cE).foldl iw [(1,u),(2,u)]
theorem wx (u:Int) (facts:B Fc):ko (cellsOf u facts):=u6 _ _ ⟨by simp [eB],by simp,trivial⟩
theorem eb {u:Int} {facts:B Fc} {z:Cell}:z∈cellsOf u facts↔z∈facts.flatMap cE\/z=(1,u)\/z=(2,u):=by unfold cellsOf;rw [u7];simp
def ax (l:B (Cell×ae)) (c:Cell):D ae:=(l.find? fun x=>decide (x.1=c)).map (·.2)
theorem nc (val:Cell->ae): ∀(S:B Cell) (c:Cell),ax (S.map fun x=>(x,val x)) c=if c∈S then E (val c) else J
 | [],c=>rfl
 | x::S,c=>by
  have ih:=nc val S c;unfold ax at ih⊢;rw [Q,ρ];by_cases h:x=c
  ·subst h;simp
  ·have hd:decide (x=c)=false:=by simpa using h
   simp only [hd];rw [ih];simp only [H];by_cases hm:c∈S
   ·rw [F hm,F (.inr hm)]
   ·rw [C hm,C (by rintro (h' | h');exact h h'.symm;exact hm h')]
def cC (look:Int->D ae) (s:ae):D ae:=
 match s with
 | []=>E []
 | c::r=>if h:(ao (c::r)).2=0 then (cC look r).map (c:: ·) else
  match look (ao (c::r)).1,cC look ((c::r).drop (ao (c::r)).2.toNat) with
  | some a,E b=>E (a++b)
  | _,_=>J
termination_by (É s)
decreasing_by
 ·simp
 ·rcases c7 (c::r) with h' | h'
  ·exact I (by rw [h']) h
  ·simp only [Y,G] at*;omega
theorem sA {look:Int->D ae} {Ā:Int->ae}: ∀(n:K) (s:ae),É s<=n->(∀i,i<É s->(ao (s.drop i)).2≠0->look (ao (s.drop i)).1=E (Ā (ao (s.drop i)).1))->cC look s=E (bI Ā s)
 | _, [],_,_=>by rw [cC,jd]
 | 0,c::r,h,_=>by simp at h
 | n+1,c::r,h,hl=>by
  simp only [G] at h;by_cases hp:(ao (c::r)).2=0
  ·rw [cC,ϗ hp,jO Ā c r hp,sA n r (by omega) (fun i hi=>by
    have:=hl (i+1) (by simp;omega);simpa using this)]
   rfl
  ·have h0:=hl 0 (by simp) (by simpa using hp);simp only [Α] at h0;rw [cC,ϖ hp,iU Ā _ hp,h0]
   have ă:((c::r).drop (ao (c::r)).2.toNat).length<=n:=by
    rcases c7 (c::r) with h' | h'
    ·exact I (by rw [h']) hp
    ·simp only [Y,G];omega
   rw [sA n _ ă (fun i hi Ľ=>by
    rw [List.drop_drop] at Ľ⊢;refine hl _ ?_ Ľ;simp only [Y] at hi;omega)]
def fW (l:B (Cell×ae)) (d:Int):B (K×ae)->D (B Nd)
 | []=>E []
 | f::r=>match ax l (3,(f.1:Int)),cC (fun u=>ax l (4,u)) f.2,fW l d r with
  | some ŏ,E t,E ns=>E (⟨d, [112],ŏ++ [58,32]++t⟩::ns)
  | _,_,_=>J
def y8 (d:Int) (m:ae):B Nd:=if m= [] then [] else [⟨d, [109,97,114,107],m⟩]
def H7 (ag:ae->D ae) (unit:Int) (l:B (Cell×ae)):Int×D mv:=
 if (ax l (1,unit)).getD []= []\/(ax l (2,unit)).getD []= [] then (7,J) else
 match fV ag ((ax l (2,unit)).getD []) with
 | none=>(3,J)
 | some x=>match fW l (aY ((ax l (1,unit)).getD [])+1) x.facts with
  | none=>(7,J)
  | some ns=>(0,E ⟨unit,(ax l (1,unit)).getD [],⟨aY ((ax l (1,unit)).getD []),cU x.level,(ax l (1,unit)).getD []++ [32]++x.title⟩::(y8 (aY ((ax l (1,unit)).getD [])+1) x.mark++ns)⟩)
def ei (f:Fc):K×ae:=(f.el.toNat,f.text)
def iP (aB:ae->ae) (order:B ae) (s:Sh):ae:=wu aB s.level.toNat s.title s.mark ((ay order s.facts).map ei)
def gy (it:Int->ae) (aB:ae->ae) (c:Ct) (order:B ae) (root:Int) (x:Cell):ae:=
 if x.1=1 then de it c root x.2 else if x.1=2 then (match aL c.ai x.2 with
  | some i=>match c.ai[i]? with
   | some s=>iP aB order s
   | none=> []
  | none=> []) else if x.1=3 then fZ order c.av x.2 (cX it x.2) else if x.1=4 then cY c.ai x.2 else []
theorem ud: ∀(l:B Fc) (last:Int),0<=last->NW last l->(∀f∈l,f.el<=64/\f.text≠ [])->SX last.toNat (l.map ei)
 | [],_,_,_,_=>trivial
 | f::r,last,h0,h,hf=>by
  obtain ⟨h1,h2⟩:=h;have:=hf f (by simp);refine ⟨?_,?_,this.2,ud r f.el (by omega) h2 (fun g hg=>hf g (by simp [hg]))⟩
  ·simp only [ei];omega
  ·simp only [ei];omega
theorem y9 {lev:Int} (h1:1<=lev) (h2:lev<=4):cU lev.toNat=ec lev:=by
 have:lev=1\/lev=2\/lev=3\/lev=4:=by omega
 rcases this with rfl | rfl | rfl | rfl <;> decide
theorem qw {it:Int->ae} {l:B Sh} {root:Int}: ∀(r:B Sh) (i:K) (x:Sh×ae),l.drop i=r->x∈fi it l root i r-> ∃k,l[k]?=E x.1/\qt l root k=O/\x.2=jF it l root k
 | [],_,_,_,h=>by cases h
 | s::r,i,x,hd,h=>by
  have hs:l[i]?=E s:=by rw [<-π,hd];rfl
  have Ē:l.drop (i+1)=r:=by rw [<-Β,hd];rfl
  unfold fi at h;split at h
  ·rename_i hb;rcases List.mem_cons.1 h with h | h
   ·rw [h];exact ⟨i,hs,hb,rfl⟩
   ·exact qw r (i+1) x Ē h
  ·exact qw r (i+1) x Ē h
theorem Bn {it:Int->ae} {aB:ae->ae} {c:Ct} {order:B ae} {root:Int} {S:B Cell} (d:Int): ∀(l:B Fc),(∀f∈l,1<=f.el)->(∀f∈l,∀z∈cE f,z∈S)->
  fW (S.map fun x=>(x,gy it aB c order root x)) d (l.map ei)=E (l.map (oQ it order c d))
 | [],_,_=>rfl
 | f::r,hp,hS=>by
  have Ă:((ei f).1:Int)=f.el:=by have:=hp f (by simp);simp only [ei];omega
  have h3:ax (S.map fun x=>(x,gy it aB c order root x)) (3,((ei f).1:Int))=E (fZ order c.av f.el (cX it f.el)):=by rw [Ă,nc,F (hS f (by simp) _ (by simp [cE]))];simp [gy]
  have h4:cC (fun u=>ax (S.map fun x=>(x,gy it aB c order root x)) (4,u)) (ei f).2=E (bI (cY c.ai) f.text):=by
   refine sA f.text.length f.text (Δ _) fun i hi hne=> ?_;rw [nc,F]
   ·simp [gy]
   ·refine hS f (by simp) _ ?_;unfold cE fO;rw [H];right;rw [List.mem_filterMap];exact ⟨i,List.mem_range.2 hi,by rw [C hne]⟩
  rw [Q,fW,h3,h4,Bn d r (fun g hg=>hp g (by simp [hg])) (fun g hg=>hS g (by simp [hg]))];rfl
theorem NX {it:Int->ae} {aB:ae->ae} {ag:ae->D ae} (h1: ∀s,ag (aB s)=E s) (h2: ∀s,(10:L)∉aB s) {c:Ct} (hc:iq c) (order:B ae) (root:Int) {x:Sh×ae} (hx:x∈cK it root ⟨[], []⟩ c.ai):
  H7 ag x.1.unit ((cellsOf x.1.unit (ay order x.1.facts)).map fun z=>(z,gy it aB c order root z))=(0,E (kZ it order c x)):=by
 rw [m7 it hc.valid root] at hx;obtain ⟨k,hk,hin,ā⟩:=qw c.ai 0 x rfl hx;have Ć:aL c.ai x.1.unit=E k:=ka hk (hc.valid.uniq k x.1 hk);have hs:=hc.ai x.1 (T hk)
 have hn:de it c root x.1.unit=x.2:=by rw [gM hc,eL,Ć];simp only;rw [F hin,ā]
 have hne:x.2≠ []:=by rw [ā];exact JB hk
 have l1:ax ((cellsOf x.1.unit (ay order x.1.facts)).map fun z=>(z,gy it aB c order root z)) (1,x.1.unit)=E x.2:=by rw [nc,F (eb.2 (.inr (.inl rfl)))];simp [gy,hn]
 have l2:ax ((cellsOf x.1.unit (ay order x.1.facts)).map fun z=>(z,gy it aB c order root z)) (2,x.1.unit)=E (iP aB order x.1):=by rw [nc,F (eb.2 (.inr (.inr rfl)))];simp [gy,Ć,hk]
 have Ő:SX 0 ((ay order x.1.facts).map ei):=ud _ 0 (ξ _) (pR hs.inc (fun f hf=>(hs.facts f hf).Cm)) (fun f hf=>⟨(hs.facts f (bH hf)).GM,(hs.facts f (bH hf)).text⟩)
 have l3:fV ag (iP aB order x.1)=E ⟨x.1.level.toNat,x.1.title,x.1.mark,(ay order x.1.facts).map ei⟩:=by have:=hs.l1;have:=hs.l2;exact pQ h1 h2 (by omega) (by omega) hs.title Ő
 have l4:iP aB order x.1≠ []:=by unfold iP wu ie;simp
 unfold H7;rw [l1,l2];simp only [ό];rw [C (by simp only [U];exact ⟨hne,l4⟩),l3];simp only;rw [Bn _ _ (fun f hf=>(hs.facts f (bH hf)).Cm) (fun f hf z hz=>eb.2 (.inl (List.mem_flatMap.2 ⟨f,hf,hz⟩)))];simp only;rw [y9 hs.l1 hs.l2];rfl
end Go.Proofs.YtfgbpngakkhdcaaGreatDoor
namespace Go.Proofs.YtfgbpngakkhdcaaGreatDoor
def u9 (p:K×ae):B Cell:=(3,(p.1:Int))::fO p.2
theorem za {f:Fc} (h:1<=f.el):cE f=u9 (ei f):=by unfold cE u9 ei;simp only;rw [Int.toNat_of_nonneg (by omega)]
theorem kV: ∀{l:B Fc},(∀f∈l,1<=f.el)->l.flatMap cE=(l.map ei).flatMap u9
 | [],_=>rfl
 | f::r,h=>by
  rw [R,Q,R,za (h f (by simp)),kV (fun g hg=>h g (by simp [hg]))]
theorem Dk {u:Int} {l m:B Fc} (hl: ∀f∈l,1<=f.el) (hm: ∀f∈m,1<=f.el) (h:l.map ei=m.map ei):cellsOf u l=cellsOf u m:=by unfold cellsOf;rw [kV hl,kV hm,h]
theorem ue {it:Int->ae} {l:B Sh} {root:Int}: ∀(r:B Sh) (i:K),l.drop i=r-> ∀(k:K) (s:Sh),i<=k->l[k]?=E s->qt l root k=true->(s,jF it l root k)∈fi it l root i r
 | [],i,hd,k,s,hk,hs,_=>by
  have:=(List.getElem?_eq_some_iff.1 hs).1;have h0:=List.drop_eq_nil_iff.1 hd;omega
 | x::r,i,hd,k,s,hk,hs,hb=>by
  have hx:l[i]?=E x:=by rw [<-π,hd];rfl
  have Ē:l.drop (i+1)=r:=by rw [<-Β,hd];rfl
  unfold fi;by_cases Ī:k=i
  ·subst Ī;rw [hx] at hs;cases hs;rw [F hb];simp
  ·have ih:=ue (it:=it) r (i+1) Ē k s (by omega) hs hb;split
   ·exact ο _ ih
   ·exact ih
theorem uf {it:Int->ae} {c:Ct} (hc:iq c) {root u:Int} (h:de it c root u≠ []): ∃y∈cK it root ⟨[], []⟩ c.ai,y.1.unit=u/\y.2=de it c root u:=by
 rw [gM hc] at h⊢;rw [m7 it hc.valid root];unfold eL at h⊢;cases hi:aL c.ai u with
 | none=>rw [hi] at h;exact I rfl h
 | some k=>
  rw [hi] at h;simp only at h⊢;by_cases hb:qt c.ai root k=O
  ·obtain ⟨s,hs,hu⟩:=kQ hi;exact ⟨(s,jF it c.ai root k),ue c.ai 0 rfl k s (Ο _) hs hb,hu,by rw [F hb]⟩
  ·rw [C hb] at h;exact I rfl h
theorem gi {it:Int->ae} {c:Ct} (hc:iq c) {root:Int} {x:Sh×ae} (hx:x∈cK it root ⟨[], []⟩ c.ai):de it c root x.1.unit=x.2/\x.2≠ []/\x.1∈c.ai/\ ∃k,c.ai[k]?=E x.1/\aL c.ai x.1.unit=E k:=by rw [m7 it hc.valid root] at hx;obtain ⟨k,hk,hin,ā⟩:=qw c.ai 0 x rfl hx;have Ć:aL c.ai x.1.unit=E k:=ka hk (hc.valid.uniq k x.1 hk);refine ⟨?_,by rw [ā];exact JB hk,T hk,k,hk,Ć⟩;rw [gM hc,eL,Ć];simp only;rw [F hin,ā]
theorem mc {S:B Cell} {f g:Cell->ae} (h: ∀z∈S,f z=g z):(S.map fun z=>(z,f z))=S.map fun z=>(z,g z):=
 υ fun z hz=>by rw [h z hz]
theorem fresh {it:Int->ae} {aB:ae->ae} {ag:ae->D ae} (h1: ∀s,ag (aB s)=E s) (h2: ∀s,(10:L)∉aB s) {a b:Ct} (ha:iq a) (hb:iq b) (oa ob:B ae) (root:Int) {x:Sh×ae} (hx:x∈cK it root ⟨[], []⟩ a.ai)
  (hs: ∀z∈cellsOf x.1.unit (ay oa x.1.facts),gy it aB b ob root z=gy it aB a oa root z):
  ∃y∈cK it root ⟨[], []⟩ b.ai,y.1.unit=x.1.unit/\kZ it ob b y=kZ it oa a x:=by
 obtain ⟨n1,n2,n3,k,n4,n5⟩:=gi ha hx;have v1:=hs (1,x.1.unit) (eb.2 (.inr (.inl rfl)));have v2:=hs (2,x.1.unit) (eb.2 (.inr (.inr rfl)));simp only [gy,ζ,n1] at v1;obtain ⟨y,hy,ĕ,hyn⟩:=uf hb (it:=it) (root:=root) (u:=x.1.unit) (by rw [v1];exact n2);obtain ⟨m1,m2,m3,j,m4,m5⟩:=gi hb hy;have č:=ha.ai x.1 n3;have Ď:=hb.ai y.1 m3;rw [ĕ] at m5;simp only [gy,show¬ (2:Int)=1 by decide,ν,ζ,n5,n4,m5,m4] at v2;have fx:SX 0 ((ay oa x.1.facts).map ei):=ud _ 0 (ξ _) (pR č.inc (fun f hf=>(č.facts f hf).Cm)) (fun f hf=>⟨(č.facts f (bH hf)).GM,(č.facts f (bH hf)).text⟩);have fy:SX 0 ((ay ob y.1.facts).map ei):=ud _ 0 (ξ _) (pR Ď.inc (fun f hf=>(Ď.facts f hf).Cm)) (fun f hf=>⟨(Ď.facts f (bH hf)).GM,(Ď.facts f (bH hf)).text⟩)
 have px:fV ag (iP aB oa x.1)=E ⟨x.1.level.toNat,x.1.title,x.1.mark,(ay oa x.1.facts).map ei⟩:=by have:=č.l1;have:=č.l2;exact pQ h1 h2 (by omega) (by omega) č.title fx
 have py:fV ag (iP aB ob y.1)=E ⟨y.1.level.toNat,y.1.title,y.1.mark,(ay ob y.1.facts).map ei⟩:=by have:=Ď.l1;have:=Ď.l2;exact pQ h1 h2 (by omega) (by omega) Ď.title fy
 rw [v2,px] at py;simp only [M,SV.mk.injEq] at py
 have ē:cellsOf y.1.unit (ay ob y.1.facts)=cellsOf x.1.unit (ay oa x.1.facts):=by rw [ĕ];exact Dk (fun f hf=>(Ď.facts f (bH hf)).Cm) (fun f hf=>(č.facts f (bH hf)).Cm) py.2.2.2.symm
 have e1:=NX (it:=it) h1 h2 ha oa root hx;have e2:=NX (it:=it) h1 h2 hb ob root hy;rw [ē,ĕ,mc hs,e1] at e2;simp only [ϓ,M,true_and] at e2;exact ⟨y,hy,ĕ,e2.symm⟩
end Go.Proofs.YtfgbpngakkhdcaaGreatDoor
namespace Go.Proofs.YtfgbpngakkhdcaaGreatDoor
theorem NY {order:B ae} {av:B Lb} {ad:B ae} (h: ∀x∈av,QX ad x) (el:Int) {d:ae} (hd:d≠ []):fZ order av el d≠ []:=by
 unfold fZ;rcases qu order el av d order.length with ⟨h1,_⟩ | ⟨f,hf,_,h1,_⟩
 ·rw [h1];exact hd
 ·rw [h1];exact (h f hf).text
theorem NZ {c:Ct} (hc:iq c) (u:Int):cY c.ai u≠ []:=by
 unfold cY;cases hi:aL c.ai u with
 | none=>simp
 | some i=>
  obtain ⟨s,hs,_⟩:=kQ hi;simp only [hs];split
  ·exact (hc.ai s (T hs)).title
  ·simp
theorem Lg (aB:ae->ae) (order:B ae) (s:Sh):iP aB order s≠ []:=by unfold iP wu ie;simp
theorem qY {u:Int} {facts:B Fc} {z:Cell} (h:z∈cellsOf u facts):z=(1,u)\/z=(2,u)\/(∃f∈facts,z=(3,f.el))\/ ∃v,z=(4,v):=by
 rcases eb.1 h with h | h | h
 ·obtain ⟨f,hf,hz⟩:=List.mem_flatMap.1 h;unfold cE at hz;rcases List.mem_cons.1 hz with hz | hz
  ·exact .inr (.inr (.inl ⟨f,hf,hz⟩))
  ·unfold fO at hz;obtain ⟨i,_,hi⟩:=List.mem_filterMap.1 hz;split at hi
   ·cases hi
   ·cases hi;exact .inr (.inr (.inr ⟨_,rfl⟩))
 ·exact .inl h
 ·exact .inr (.inl h)
theorem Q1 {it:Int->ae} {aB:ae->ae} {c:Ct} (hc:iq c) (order:B ae) (root:Int) {x:Sh×ae} (hx:x∈cK it root ⟨[], []⟩ c.ai) {z:Cell} (hz:z∈cellsOf x.1.unit (ay order x.1.facts)):gy it aB c order root z≠ []:=by
 obtain ⟨n1,n2,n3,k,n4,n5⟩:=gi hc hx;rcases qY hz with rfl | rfl | ⟨f,_,rfl⟩ | ⟨v,rfl⟩
 ·simp only [gy,ζ,n1];exact n2
 ·simp only [gy,show¬ (2:Int)=1 by decide,ν,ζ,n5,n4];exact Lg aB order x.1
 ·simp only [gy,show¬ (3:Int)=1 by decide,show¬ (3:Int)=2 by decide,ν,ζ];exact NY hc.av _ (by simp [cX])
 ·simp only [gy,show¬ (4:Int)=1 by decide,show¬ (4:Int)=2 by decide,show¬ (4:Int)=3 by decide,ν,ζ];exact NZ hc v
def z6 (it:Int->ae) (aB:ae->ae) (c:Ct) (order:B ae) (root:Int) (x:Cell):ae:=
 if x.1=3/\(x.2<1\/64<x.2) then [] else gy it aB c order root x
theorem H8 {it:Int->ae} {aB:ae->ae} {c:Ct} (hc:iq c) (order:B ae) (root:Int) {s:Sh} (hs:s∈c.ai) {z:Cell} (hz:z∈cellsOf s.unit (ay order s.facts)):z6 it aB c order root z=gy it aB c order root z:=by
 unfold z6;rw [C];rintro ⟨h1,h2⟩;rcases qY hz with rfl | rfl | ⟨f,hf,rfl⟩ | ⟨v,rfl⟩
 ·exact I (show (1:Int)=3 from h1) (by decide)
 ·exact I (show (2:Int)=3 from h1) (by decide)
 ·have:=((hc.ai s hs).facts f (bH hf)).Cm;have:=((hc.ai s hs).facts f (bH hf)).GM;simp only at h2;omega
 ·exact I (show (4:Int)=3 from h1) (by decide)
def gz (val:Cell->ae) (l:B (Cell×ae)):ω:=l.any fun r=>decide (val r.1≠r.2)
end Go.Proofs.YtfgbpngakkhdcaaGreatDoor
namespace Go.Proofs.YtfgbpngakkhdcaaGreatDoor
def aV (look:Int->D ae) (s:ae):ae×ω:=
 match s with
 | []=>([],τ)
 | c::r=>if h:(ao (c::r)).2=0 then (c::(aV look r).1,(aV look r).2) else
  match look (ao (c::r)).1 with
  | some a=>(a++(aV look ((c::r).drop (ao (c::r)).2.toNat)).1,(aV look ((c::r).drop (ao (c::r)).2.toNat)).2)
  | none=>((aV look ((c::r).drop (ao (c::r)).2.toNat)).1,O)
termination_by (É s)
decreasing_by
 all_goals first
  | (simp;done)
  | (rcases c7 (c :: r) with h' | h'
     ·exact I (by rw [h']) h
     ·simp only [Y, G] at *; omega)
theorem lM (look:Int->D ae):aV look []=([],τ):=by rw [aV]
theorem od (look:Int->D ae) (c:L) (r:ae) (h:(ao (c::r)).2=0):aV look (c::r)=(c::(aV look r).1,(aV look r).2):=by rw [aV,ϗ h]
theorem mf (look:Int->D ae) (s:ae) (h:(ao s).2≠0):aV look s=(match look (ao s).1 with
  | some a=>(a++(aV look (s.drop (ao s).2.toNat)).1,(aV look (s.drop (ao s).2.toNat)).2)
  | none=>((aV look (s.drop (ao s).2.toNat)).1,O)):=by
 cases s with
 | nil=>exact I rfl h
 | cons c r=>rw [aV,ϖ h]
theorem wy (look:Int->D ae):cC look []=E []:=by rw [cC]
theorem ug (look:Int->D ae) (c:L) (r:ae) (h:(ao (c::r)).2=0):cC look (c::r)=(cC look r).map (c:: ·):=by rw [cC,ϗ h]
theorem qZ (look:Int->D ae) (s:ae) (h:(ao s).2≠0):cC look s=(match look (ao s).1,cC look (s.drop (ao s).2.toNat) with
  | some a,E b=>E (a++b)
  | _,_=>J):=by
 cases s with
 | nil=>exact I rfl h
 | cons c r=>
  rw [cC,ϖ h]
  first | done | (cases look (ao (c::r)).1 <;> cases cC look ((c::r).drop (ao (c::r)).2.toNat) <;> rfl)
theorem qx (look:Int->D ae): ∀(n:K) (s:ae),É s<=n->cC look s=if (aV look s).2=O then J else E (aV look s).1
 | _, [],_=>by rw [wy,lM];rfl
 | 0,c::r,h=>by simp at h
 | n+1,c::r,h=>by
  simp only [G] at h;by_cases hp:(ao (c::r)).2=0
  ·rw [ug look c r hp,od look c r hp,qx look n r (by omega)];split <;> rfl
  ·have ă:((c::r).drop (ao (c::r)).2.toNat).length<=n:=by
    rcases c7 (c::r) with h' | h'
    ·exact I (by rw [h']) hp
    ·simp only [Y,G];omega
   rw [qZ look _ hp,mf look _ hp,qx look n _ ă];cases look (ao (c::r)).1 with
   | none=>rfl
   | some a=>cases hb:(aV look ((c::r).drop (ao (c::r)).2.toNat)).2 <;> simp
def iQ (l:B (Cell×ae)) (d:Int):B (K×ae)->B Nd×ω
 | []=>([],τ)
 | f::r=>(⟨d, [112],(ax l (3,(f.1:Int))).getD []++ [58,32]++(aV (fun u=>ax l (4,u)) f.2).1⟩::(iQ l d r).1,
   (ax l (3,(f.1:Int))).isNone || ((aV (fun u=>ax l (4,u)) f.2).2 || (iQ l d r).2))
theorem FP (l:B (Cell×ae)) (d:Int): ∀fs:B (K×ae),fW l d fs=if (iQ l d fs).2=O then J else E (iQ l d fs).1
 | []=>rfl
 | f::r=>by
  rw [fW,iQ,FP l d r,qx _ f.2.length f.2 (Δ _)];cases h3:ax l (3,(f.1:Int)) with
  | none=>simp
  | some a=>
   simp only [Option.isNone_some,Τ,ό];cases h4:(aV (fun u=>ax l (4,u)) f.2).2 with
   | true=>simp
   | false=>
    simp only [Τ,ψ,ν];cases h5:(iQ l d r).2 with
    | true=>simp
    | false=>simp
theorem mg {x:Cell×ae} {r:B (Cell×ae)} {c:Cell} (h:x.1≠c):ax (x::r) c=ax r c:=by
 unfold ax;rw [ρ];have:decide (x.1=c)=false:=by simpa using h
 simp only [this]
theorem q8 {x:Cell×ae} {r:B (Cell×ae)} {c:Cell} (h:x.1=c):ax (x::r) c=E x.2:=by
 unfold ax;rw [ρ];have:decide (x.1=c)=true:=by simpa using h
 simp only [this];rfl
theorem zb {c:Cell}: ∀{l:B (Cell×ae)},(∀x∈l,x.1≠c)->ax l c=J
 | [],_=>rfl
 | x::r,h=>by rw [mg (h x (by simp)),zb (fun y hy=>h y (by simp [hy]))]
theorem JF {c:Cell}: ∀(l:B (Cell×ae)) (i:K),ko (l.map ϑ)->(∀j r,j<i->l[j]?=E r->eB r.1 c=O)->(∀j r,i<=j->l[j]?=E r-> ¬ eB r.1 c=O)->
  ax l c=match l[i]? with
   | some r=>if r.1=c then E r.2 else J
   | none=>J
 | [],i,_,_,_=>by simp [ax]
 | x::r,0,hi,_,h2=>by
  simp only [List.getElem?_cons_zero];by_cases h:x.1=c
  ·rw [F h,q8 h]
  ·rw [C h];have hc:=oe (h2 0 x (Δ _) rfl) h;refine zb fun y hy=> ?_;rcases List.mem_cons.1 hy with hy | hy
   ·rw [hy];exact h
   ·intro he;have:=hi.1 y.1 (List.mem_map.2 ⟨y,hy,rfl⟩);rw [he] at this;exact gN _ (gA this hc)
 | x::r,i+1,hi,h1,h2=>by
  have hx:=h1 0 x (by omega) rfl;have hne:x.1≠c:=fun h=>by rw [h] at hx;exact gN _ hx
  rw [mg hne,List.getElem?_cons_succ];exact JF r i hi.2 (fun j y hj hy=>h1 (j+1) y (by omega) (by simpa using hy)) (fun j y hj hy=>h2 (j+1) y (by omega) (by simpa using hy))
end Go.Proofs.YtfgbpngakkhdcaaGreatDoor
namespace Go.Proofs.YtfgbpngakkhdcaaGreatDoor
def aO (c:Ct) (lang:ae):ω:=decide (dU c=0)&&cD c.ad lang
def aW (c:Ct) (root:Int) (lang:ae):Int:=if dU c≠0 then 1 else if cD c.ad lang=τ then 10 else if (aL c.ai root).isSome=τ then 7 else 0
theorem sM {c:Ct} {root:Int} {lang:ae} (h:aW c root lang=0):dU c=0/\cD c.ad lang=O/\ ∃i,aL c.ai root=E i:=by
 unfold aW at h;split at h
 ·cases h
 ·split at h
  ·cases h
  ·split at h
   ·cases h
   ·rename_i h1 h2 h3;refine ⟨by simpa using h1,by simpa using h2,?_⟩;cases hi:aL c.ai root with
    | none=>rw [hi] at h3;simp at h3
    | some i=>exact ⟨i,rfl⟩
theorem c5 {c:Ct} {lang:ae} (h:aO c lang=O):dU c=0/\cD c.ad lang=true:=by simpa [aO] using h
theorem FQ {c:Ct} {lang:ae} (h1:dU c=0) (h2:cD c.ad lang=O):aO c lang=true:=by simp [aO,h1,h2]
def bT (c:Ct) (u:Int):D Sh:=match aL c.ai u with
 | some i=>c.ai[i]?
 | none=>J
theorem fG {c:Ct} {u:Int} {s:Sh} (h:bT c u=E s): ∃i,aL c.ai u=E i/\c.ai[i]?=E s/\s.unit=u/\s∈c.ai:=by
 unfold bT at h;cases hi:aL c.ai u with
 | none=>rw [hi] at h;cases h
 | some i=>rw [hi] at h;obtain ⟨t,h1,h2⟩:=kQ hi;have h:c.ai[i]?=E s:=h;rw [h1] at h;cases h;exact ⟨i,rfl,h1,h2,T h1⟩
def ep (c:Ct) (u:Int):B Fc:=match bT c u with
 | some s=>s.facts
 | none=> []
def bR (c:Ct) (u:Int) (lang:ae):B Fc:=if aO c lang=O then ay (aF c.ad lang) (ep c u) else []
def dP (c:Ct) (u:Int) (lang:ae):B Fc:=if aO c lang=O then cB (aw c.ad lang) (ep c u) else []
theorem Bo {c:Ct} (hc:iq c) {lang:ae} {s:Sh} (hs:s∈c.ai): ∀g∈s.facts,cD (aw c.ad lang) g.lang=true:=fun g hg=>sq ((hc.ai s hs).facts g hg).lang
theorem FT {c:Ct} {u:Int} {lang:ae}:bR c u lang=dP c u lang:=by
 unfold bR dP;cases hr:aO c lang with
 | false=>rfl
 | true=>
  obtain ⟨h1,h2⟩:=c5 hr;have hc:=cj h1;rw [F rfl,F rfl,lL hc.diff h2];unfold ep;cases hs:bT c u with
  | none=>rfl
  | some s=>obtain ⟨_,_,_,_,hm⟩:=fG hs;exact pK (hc.ai s hm).inc (Bo hc hm)
def uh (it:Int->ae) (aB:ae->ae) (tag title mark:ae) (facts:B Fc):ae:=tag++ [32]++aB title++ [10]++(jt++ [32]++aB mark++ [10])++facts.flatMap fun f=>it f.el++ [32]++aB f.text++ [10]
theorem Bp (it:Int->ae) (aB:ae->ae) (hit: ∀n:Int,1<=n->n<=64->it n=kT n.toNat): ∀(l:B Fc),(∀f∈l,1<=f.el/\f.el<=64)->(l.flatMap fun f=>it f.el++ [32]++aB f.text++ [10])=((l.map ei).map (wq aB)).flatMap fun p=>p++ [10]
 | [],_=>rfl
 | f::r,h=>by
  obtain ⟨h1,h2⟩:=h f (by simp);rw [R,Q,Q,R,Bp it aB hit r (fun g hg=>h g (by simp [hg])),hit _ h1 h2];simp [wq,ei]
theorem Q2 {it:Int->ae} {aB:ae->ae} (hit: ∀n:Int,1<=n->n<=64->it n=kT n.toNat) {lev:Int} (h1:1<=lev) (h2:lev<=4) (title mark:ae) {facts:B Fc} (hf: ∀f∈facts,1<=f.el/\f.el<=64):uh it aB (ec lev) title mark facts=wu aB lev.toNat title mark (facts.map ei):=by unfold uh wu ie;rw [Bp it aB hit facts hf,R,R,y9 h1 h2];simp
def eV (it:Int->ae) (aB:ae->ae) (c:Ct) (lang:ae) (root:Int) (x:Cell):ae:=if aO c lang=O then z6 it aB c (aF c.ad lang) root x else []
def zc (it:Int->ae) (aB:ae->ae) (c:Ct) (lang:ae) (root:Int) (x:Cell):ae:=
 if x.1=1 then de it c root x.2 else if x.1=2 then (match bT c x.2 with
  | some s=>uh it aB (ec s.level) s.title s.mark (ay (aF c.ad lang) s.facts)
  | none=> []) else if x.1=3 then (if x.2<1\/64<x.2 then [] else fZ (aF c.ad lang) c.av x.2 (cX it x.2)) else if x.1=4 then cY c.ai x.2 else []
def FU (it:Int->ae) (aB:ae->ae) (c:Ct) (lang:ae) (root:Int) (x:Cell):ae:=
 if x.1=1 then eL it c root x.2 else if x.1=2 then (match bT c x.2 with
  | some s=>uh it aB (ec s.level) s.title s.mark (cB (aw c.ad lang) s.facts)
  | none=> []) else if x.1=3 then (if x.2<1\/64<x.2 then [] else jI (aw c.ad lang) c.av x.2 (cX it x.2)) else if x.1=4 then cY c.ai x.2 else []
theorem JG {it:Int->ae} {aB:ae->ae} (hit: ∀n:Int,1<=n->n<=64->it n=kT n.toNat) {c:Ct} (hc:iq c) (lang:ae) (root:Int) (x:Cell):zc it aB c lang root x=z6 it aB c (aF c.ad lang) root x:=by
 unfold zc z6 gy;by_cases h1:x.1=1
 ·simp [h1]
 by_cases h2:x.1=2
 ·simp only [h2,show¬ (2:Int)=1 by decide,show¬ (2:Int)=3 by decide,ν,ζ,false_and];unfold bT;cases hi:aL c.ai x.2 with
  | none=>rfl
  | some i=>
   simp only;cases hs:c.ai[i]? with
   | none=>rfl
   | some s=>have hm:=T hs;have ho:=hc.ai s hm;exact Q2 hit ho.l1 ho.l2 _ _ (fun f hf=>⟨(ho.facts f (bH hf)).Cm,(ho.facts f (bH hf)).GM⟩)
 by_cases h3:x.1=3
 ·simp only [h3,show¬ (3:Int)=1 by decide,show¬ (3:Int)=2 by decide,ν,ζ,true_and]
 ·simp [h1,h2,h3]
theorem JH {it:Int->ae} {aB:ae->ae} {c:Ct} (hc:iq c) {lang:ae} (hl:cD c.ad lang=O) (root:Int) (x:Cell):FU it aB c lang root x=zc it aB c lang root x:=by
 unfold zc FU;rw [lL hc.diff hl,gM hc];have hn:=Bc (order:=aw c.ad lang) hc.Z3 (fun g hg=>sq (hc.av g hg).lang) x.2 (cX it x.2);rw [hn];cases hs:bT c x.2 with
 | none=>rfl
 | some s=>obtain ⟨_,_,_,_,hm⟩:=fG hs;have:=pK (order:=aw c.ad lang) (hc.ai s hm).inc (Bo hc hm);simp only [this]
def bX (it:Int->ae) (aB:ae->ae) (c:Ct) (root:Int) (lang:ae) (u:Int):B (Cell×ae)×Int:=
 if aW c root lang≠0 then ([],aW c root lang) else if de it c root u= [] then ([],7) else ((cellsOf u (bR c u lang)).map fun z=>(z,eV it aB c lang root z),0)
end Go.Proofs.YtfgbpngakkhdcaaGreatDoor
namespace Go.Proofs.YtfgbpngakkhdcaaGreatDoor
variable {it:Int->ae} {aB:ae->ae} {ag:ae->D ae}
def vb:B (Cell×ae)->ω
 | []=>O
 | [_]=>O
 | a::b::r=>eB a.1 b.1&&vb (b::r)
theorem JI: ∀{l:B (Cell×ae)},vb l=true->ko (l.map ϑ)
 | [],_=>trivial
 | [a],_=>⟨by simp,trivial⟩
 | a::b::r,h=>by
  simp only [vb,ι] at h;have ih:=JI h.2;refine ⟨fun y hy=> ?_,ih⟩;rcases List.mem_cons.1 hy with hy | hy
  ·rw [hy];exact h.1
  ·exact gA h.1 (ih.1 y hy)
def cu (ag:ae->D ae) (unit:Int) (l:B (Cell×ae)):Int×D mv:=if vb l=O then H7 ag unit l else (5,J)
theorem sB {c:Ct} {lang:ae} (h:aO c lang=O) (root:Int) {s:Sh} (hs:s∈c.ai) {z:Cell} (hz:z∈cellsOf s.unit (ay (aF c.ad lang) s.facts)):eV it aB c lang root z=gy it aB c (aF c.ad lang) root z:=by unfold eV;rw [F h];exact H8 (cj (c5 h).1) _ root hs hz
theorem eh {c:Ct} {root:Int} {lang:ae} (h:aW c root lang=0):aO c lang=true:=by obtain ⟨h1,h2,_⟩:=sM h;exact FQ h1 h2
theorem Lh {c:Ct} {lang:ae} (h:aO c lang=O) {s:Sh} {k:K} (hk:c.ai[k]?=E s) (hi:aL c.ai s.unit=E k):bR c s.unit lang=ay (aF c.ad lang) s.facts:=by unfold bR ep bT;rw [F h,hi];simp only [hk]
theorem Bq {c:Ct} {root:Int} {lang:ae} (h:aW c root lang=0) {x:Sh×ae} (hx:x∈cK it root ⟨[], []⟩ c.ai):
  bX it aB c root lang x.1.unit=((cellsOf x.1.unit (ay (aF c.ad lang) x.1.facts)).map fun z=>(z,gy it aB c (aF c.ad lang) root z),0):=by
 have hr:=eh h;have hc:=cj (c5 hr).1;obtain ⟨n1,n2,n3,k,n4,n5⟩:=gi hc hx;unfold bX;rw [C (by simp [h]),C (by rw [n1];exact n2),Lh hr n4 n5];congr 1;exact mc fun z hz=>sB hr root n3 hz
theorem Br {c:Ct} {root u:Int} {lang:ae} (h:(bX it aB c root lang u).2=0):aW c root lang=0/\ ∃x∈cK it root ⟨[], []⟩ c.ai,x.1.unit=u:=by
 unfold bX at h;split at h
 ·rename_i h0;exact I h h0
 ·rename_i h0;have h0:aW c root lang=0:=by simpa using h0
  split at h
  ·cases h
  ·rename_i h1;obtain ⟨y,hy,ĕ,_⟩:=uf (cj (c5 (eh h0)).1) h1;exact ⟨h0,y,hy,ĕ⟩
def H9 (it:Int->ae) (aB:ae->ae) (c:Ct) (root:Int) (lang:ae) (l:B (Cell×ae)):ω:=gz (eV it aB c lang root) l
theorem FV {c:Ct} {root u:Int} {lang:ae} (h:(bX it aB c root lang u).2=0): ∃S:B Cell,ko S/\(1,u)∈S/\(2,u)∈S/\(bX it aB c root lang u).1=S.map (fun z=>(z,eV it aB c lang root z))/\ ∀z∈S,eV it aB c lang root z≠ []:=by
 obtain ⟨h0,x,hx,rfl⟩:=Br h;have hr:=eh h0;have hc:=cj (c5 hr).1;obtain ⟨n1,n2,n3,k,n4,n5⟩:=gi hc hx;refine ⟨cellsOf x.1.unit (ay (aF c.ad lang) x.1.facts),wx _ _,eb.2 (.inr (.inl rfl)),eb.2 (.inr (.inr rfl)),?_,fun z hz=> ?_⟩
 ·rw [Bq h0 hx];exact mc fun z hz=>(sB hr root n3 hz).symm
 ·rw [sB hr root n3 hz];exact Q1 hc _ root hx hz
end Go.Proofs.YtfgbpngakkhdcaaGreatDoor
namespace Go.Proofs.YtfgbpngakkhdcaaGreatDoor
def Sh.jK (s:Sh):Sh:=⟨s.unit,s.par,s.level,s.mark,s.title,s.facts,J,0⟩
def Ct.jK (c:Ct):Ct:=⟨c.ad,c.av,c.ai.map Sh.jK,J,0,J,0,J,0⟩
def Ct.PO (a b:Ct):Prop:=a.jK=b.jK
theorem nf: ∀(l:B Sh) (u:Int),aL (l.map Sh.jK) u=aL l u
 | [],_=>rfl
 | s::r,u=>by simp only [Q,aL,nf r u];rfl
theorem N1 (pre:B Sh) (s:Sh):kY (pre.map Sh.jK) s.jK=kY pre s:=by unfold kY;rw [nf];rfl
theorem Bs (ad:B ae): ∀(l pre:B Sh) (path:B Int),oK ad (pre.map Sh.jK) path (l.map Sh.jK)=oK ad pre path l
 | [],_,_=>rfl
 | s::r,pre,path=>by
  have h1:(pre.map Sh.jK)++ [s.jK]=(pre++ [s]).map Sh.jK:=by simp
  have h2:gU path s.jK=gU path s:=rfl;simp only [Q,oK,N1,h2,h1,Bs ad r];rfl
theorem JJ (c:Ct):dU c.jK=dU c:=by
 have h:xw c.ad (c.ai.map Sh.jK)=xw c.ad c.ai:=by unfold xw;have:=Bs c.ad c.ai [] [];rw [List.length_map];rw [show ([]:B Sh).map Sh.jK= [] from rfl] at this;rw [this]
 unfold dU;show (if lQ c.ad=0 then (if qN c.ad c.av=0 then xw c.ad (c.ai.map Sh.jK) else _) else _)=_;rw [h];rfl
theorem qy (c:Ct) (lang:ae):aO c.jK lang=aO c lang:=by unfold aO;rw [JJ];rfl
theorem zd (c:Ct) (root:Int) (lang:ae):aW c.jK root lang=aW c root lang:=by unfold aW;rw [JJ,show c.jK.ai=c.ai.map Sh.jK from rfl,nf];rfl
theorem og (it:Int->ae) (root:Int): ∀(l:B Sh) (st:NS),cK it root st (l.map Sh.jK)=(cK it root st l).map fun x=>(x.1.jK,x.2)
 | [],_=>rfl
 | s::r,st=>by
  have h:eF it root st s.jK=eF it root st s:=rfl;simp only [Q,cK,h];rw [show s.jK.unit=s.unit from rfl];cases cL (eF it root st s).HY s.unit with
  | none=>exact og it root r _
  | some n=>simp only [Q];rw [og it root r]
theorem Bt (u:Int): ∀(l:B (Sh×ae)) (f:ae),fT u f (l.map fun x=>(x.1.jK,x.2))=fT u f l
 | [],_=>rfl
 | x::r,f=>by
  simp only [Q,fT,Bt u r];rfl
theorem zf (it:Int->ae) (c:Ct) (root u:Int):de it c.jK root u=de it c root u:=by unfold de;rw [show c.jK.ai=c.ai.map Sh.jK from rfl,og,Bt]
theorem Ia (c:Ct) (u:Int):bT c.jK u=(bT c u).map Sh.jK:=by
 unfold bT;rw [show c.jK.ai=c.ai.map Sh.jK from rfl,nf];cases aL c.ai u with
 | none=>rfl
 | some i=>simp
theorem Li (c:Ct) (u:Int):ep c.jK u=ep c u:=by unfold ep;rw [Ia];cases bT c u <;> rfl
theorem Ib (c:Ct) (u:Int) (lang:ae):bR c.jK u lang=bR c u lang:=by unfold bR;rw [qy,Li];rfl
theorem FX (c:Ct):cY c.jK.ai=cY c.ai:=by
 funext u;unfold cY;rw [show c.jK.ai=c.ai.map Sh.jK from rfl,nf];cases aL c.ai u with
 | none=>rfl
 | some i=>simp only [Ω];cases c.ai[i]? <;> rfl
theorem N2 (it:Int->ae) (aB:ae->ae) (c:Ct) (order:B ae) (root:Int) (x:Cell):gy it aB c.jK order root x=gy it aB c order root x:=by
 unfold gy;rw [zf,FX,show c.jK.ai=c.ai.map Sh.jK from rfl,nf];cases aL c.ai x.2 with
 | none=>rfl
 | some i=>simp only [Ω];cases c.ai[i]? <;> rfl
theorem zg (it:Int->ae) (aB:ae->ae) (c:Ct) (lang:ae) (root:Int):eV it aB c.jK lang root=eV it aB c lang root:=by funext x;unfold eV z6;rw [qy,N2];rfl
theorem Bu (it:Int->ae) (aB:ae->ae) (c:Ct) (root:Int) (lang:ae) (u:Int):bX it aB c.jK root lang u=bX it aB c root lang u:=by unfold bX;rw [zd,zf,Ib,zg]
theorem Q3 (it:Int->ae) (order:B ae) (c:Ct) (d:Int):oQ it order c.jK d=oQ it order c d:=by funext f;unfold oQ;rw [FX];rfl
theorem Q4 (it:Int->ae) (order:B ae) (c:Ct) (x:Sh×ae):kZ it order c.jK (x.1.jK,x.2)=kZ it order c x:=by unfold kZ;rw [Q3];rfl
theorem JK (it:Int->ae) (c:Ct) (root:Int) (lang:ae):fp it c.jK root lang=fp it c root lang:=by unfold fp;rw [show c.jK.ai=c.ai.map Sh.jK from rfl,og,List.map_map];refine υ fun x _=> ?_;exact Q4 it _ c x
section
variable {a b:Ct} (h:a.PO b)
include h
theorem Ct.PO.right (lang:ae):aO a lang=aO b lang:=by rw [<-qy a,<-qy b,h]
theorem Ct.PO.comp (root:Int) (lang:ae):aW a root lang=aW b root lang:=by rw [<-zd a,<-zd b,h]
theorem Ct.PO.eV (it:Int->ae) (aB:ae->ae) (lang:ae) (root:Int):eV it aB a lang root=eV it aB b lang root:=by rw [<-zg it aB a,<-zg it aB b,h]
theorem Ct.PO.reads (it:Int->ae) (aB:ae->ae) (root:Int) (lang:ae) (u:Int):bX it aB a root lang u=bX it aB b root lang u:=by rw [<-Bu it aB a,<-Bu it aB b,h]
theorem Ct.PO.aid (it:Int->ae) (root:Int) (lang:ae):fp it a root lang=fp it b root lang:=by rw [<-JK it a,<-JK it b,h]
end
end Go.Proofs.YtfgbpngakkhdcaaGreatDoor
namespace Go.Proofs.YtfgbpngakkhdcaaGreatDoor
theorem qz {α β:Type} (f:α->β): ∀(l:B α) (i:K),(l.map f).eraseIdx i=(l.eraseIdx i).map f
 | [],_=>rfl
 | _::_,0=>rfl
 | x::r,i+1=>by simp [qz f r i]
end Go.Proofs.YtfgbpngakkhdcaaGreatDoor
namespace Go.Proofs.YtfgbpngakkhdcaaGreatDoor
abbrev Mm:=B (Cell×ae)×mv
def oH (l:B Mm) (u:Int):D Mm:=l.find? fun m=>decide (m.2.unit=u)
def pT (ag:ae->D ae) (m:Mm):ω:=(Υ m.1.length).all fun i=>decide ((cu ag m.2.unit (m.1.eraseIdx i)).1≠0)
def ig (ag:ae->D ae) (m:Mm):ω:=decide (cu ag m.2.unit m.1=(0,E m.2))&&pT ag m
def mh (l:B Mm):B Int:=l.map fun m=>m.2.unit
def db (ag:ae->D ae) (l:B Mm):Int:=if (mh l).Nodup then (if l.all (ig ag)=O then 0 else 14) else 6
def Bv (Ğ:B (Cell×ae)->ω) (rd:Int->B (Cell×ae)) (old:B Mm) (s:mv):Mm×ω:=
 match oH old s.unit with
 | some m=>if Ğ m.1=O then ((rd s.unit,s),O) else (m,τ)
 | none=>((rd s.unit,s),O)
variable {it:Int->ae} {aB:ae->ae} {ag:ae->D ae}
def q9 (it:Int->ae) (aB:ae->ae) (c:Ct) (root:Int) (lang:ae) (old:B Mm) (s:mv):Mm×ω:=Bv (H9 it aB c root lang) (fun u=>(bX it aB c root lang u).1) old s
def bY (it:Int->ae) (aB:ae->ae) (c:Ct) (root:Int) (lang:ae) (old:B Mm):B Mm:=(fp it c root lang).map fun s=>(q9 it aB c root lang old s).1
def ju (it:Int->ae) (aB:ae->ae) (c:Ct) (root:Int) (lang:ae) (old:B Mm):B Int:=((fp it c root lang).filter fun s=>(q9 it aB c root lang old s).2).map mv.unit
theorem zh {l:B Mm} {u:Int} {m:Mm} (h:oH l u=E m):m∈l/\m.2.unit=u:=⟨γ h,by have:=Μ h;simpa using this⟩
theorem Ic {l:B Mm} {u:Int} (h:oH l u=J): ∀m∈l,m.2.unit≠u:=fun m hm=>by
 have:=List.find?_eq_none.1 h m hm;simpa using this
structure Good (it:Int->ae) (aB:ae->ae) (root:Int) (lang:ae) (m:Mm):Prop where
 made: ∃a:Ct,aW a root lang=0/\bX it aB a root lang m.2.unit=(m.1,0)/\m.2∈fp it a root lang
theorem N3 {c:Ct} {root:Int} {lang:ae} {s:mv} (h:s∈fp it c root lang): ∃x∈cK it root ⟨[], []⟩ c.ai,s=kZ it (aF c.ad lang) c x/\s.unit=x.1.unit:=by obtain ⟨x,hx,rfl⟩:=List.mem_map.1 h;exact ⟨x,hx,rfl,rfl⟩
theorem Q5 {c:Ct} {root:Int} {lang:ae} (h:aW c root lang=0):iq c:=cj (sM h).1
theorem vc {c:Ct} {root:Int} {lang:ae} (h:aW c root lang=0) {s:mv} (hs:s∈fp it c root lang):(bX it aB c root lang s.unit).2=0:=by obtain ⟨x,hx,_,hu⟩:=N3 hs;rw [hu,Bq h hx]
def iR (l:B Mm):B Cell:=(l.flatMap fun m=>m.1.map ϑ).foldl iw []
theorem Ie {l:B Mm} {z:Cell}:z∈iR l↔ ∃m∈l,z∈m.1.map ϑ:=by unfold iR;rw [u7];simp only [List.not_mem_nil,or_false,List.mem_flatMap]
theorem Ig (l:B Mm):ko (iR l):=u6 _ _ trivial
def JL (l:B Mm) (cs:B Cell):B Int:=(l.filter fun m=>m.1.any fun r=>decide (r.1∈cs)).map fun m=>m.2.unit
end Go.Proofs.YtfgbpngakkhdcaaGreatDoor
namespace Go.Proofs.YtfgbpngakkhdcaaGreatDoor
variable {it:Int->ae} {aB:ae->ae} {ag:ae->D ae}
def jv (u:Int):B Mm->K->Int
 | [],_=> -1
 | m::r,i=>if m.2.unit=u then (i:Int) else jv u r (i+1)
theorem sC (u:Int): ∀(l:B Mm) (i:K),(∃k m,oH l u=E m/\jv u l i=((i+k:K):Int)/\l[k]?=E m)\/(oH l u=J/\jv u l i= -1)
 | [],i=> .inr ⟨rfl,rfl⟩
 | x::r,i=>by
  unfold jv oH;rw [ρ];by_cases h:x.2.unit=u
  ·rw [F h,show decide (x.2.unit=u)=O by simpa using h];exact .inl ⟨0,x,rfl,by simp,rfl⟩
  ·rw [C h,show decide (x.2.unit=u)=τ by simpa using h];rcases sC u r (i+1) with ⟨k,m,h1,h2,h3⟩ | ⟨h1,h2⟩
   ·exact .inl ⟨k+1,m,h1,by rw [h2];congr 1;omega,by simpa using h3⟩
   ·exact .inr ⟨h1,h2⟩
theorem Lj (u:Int) (l:B Mm):0<=jv u l 0↔u∈mh l:=by
 rcases sC u l 0 with ⟨k,m,h1,h2,h3⟩ | ⟨h1,h2⟩
 ·rw [h2];obtain ⟨h4,h5⟩:=zh h1;exact ⟨fun _=>List.mem_map.2 ⟨m,h4,h5⟩,fun _=>by omega⟩
 ·rw [h2];refine ⟨fun h=>I h (by decide),fun h=> ?_⟩;obtain ⟨m,hm,hu⟩:=List.mem_map.1 h;exact I hu (Ic h1 m hm)
