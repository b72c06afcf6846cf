/- Regions that draw their order: -/
import Derived.Test.YtfgbpngakkhdcaaGreatDoorAmMono
open Array renaming all_eq_true_iff_forall_mem->abe,getD_eq_getD_getElem?->abf,getElem?_eq_none->abg,getElem?_eq_some_iff->abA,getElem?_setIfInBounds_ne->abi
open Bool renaming and_eq_true->abj,and_self->abB,eq_iff_iff->abC,false_and->abD,false_eq_true->aav,false_or->abE,not_eq_true'->aax,not_true->abF,or_eq_true->abq,or_self->abG
open List renaming all_eq_true->abH,cons_append->abI,filter_eq_nil_iff->abJ,getD_eq_getElem?_getD->aaE,getElem?_append_left->abt,getElem?_cons_zero->abu,getElem?_eq_none->abv,getElem?_set->abK,getElem?_set_ne->aaG,length_append->aba,length_cons->aaH,length_nil->abL,length_set->abM,mem_append->abN,mem_cons->aaQ,mem_cons_of_mem->abO,mem_cons_self->aaR,mem_filter->abP,mem_filterMap->abQ,mem_range->abl,pairwise_append->abR,rel_of_pairwise_cons->abS,set_append_left->aaW,set_comm->aaX
open Nat renaming add_zero->abT,le_refl->aa0,lt_or_ge->abm,zero_add->abz
open Option renaming getD_some->abn,isSome_iff_exists->abU,map_eq_some_iff->abV,map_some->aa1
set_option linter.all false
namespace Go.Am
theorem E0 {m:List Nat} {o:Oper} {a:Nat} (h:(Aw m o).testBit a=true): ∃e∈o.after,Region.binds .any e=true∧(a=e.on∨(m.getD e.on 0).testBit a=true):=by
 have key: ∀(l:List Edge) (s:Nat),(l.foldl (fun s e=>match Region.binds .any e with | true=>s ||| (2^e.on ||| m.getD e.on 0) | false=>s) s).testBit a=true->
   s.testBit a=true∨ ∃e∈l,Region.binds .any e=true∧(a=e.on∨(m.getD e.on 0).testBit a=true):=by
  intro l
  induction l with
  | nil=>intro s h;exact .inl h
  | cons e l ih=>
   intro s h;rw [List.foldl_cons] at h;rcases ih _ h with h1 | ⟨e',he',h2⟩
   ·split at h1
    ·rename_i hb;simp only [Nat.testBit_or,abq] at h1;rcases h1 with h1 | h1 | h1
     ·exact .inl h1
     ·refine .inr ⟨e,aaR,hb,.inl ?_⟩;rw [Nat.testBit_two_pow] at h1;exact (by simpa using h1:e.on=a).symm
     ·exact .inr ⟨e,aaR,hb,.inr h1⟩
    ·exact .inl h1
   ·exact .inr ⟨e',abO _ he',h2⟩
 rcases key o.after.toList 0 h with h1 | ⟨e,he,h2⟩
 ·simp at h1
 ·exact ⟨e,by simpa using he,h2⟩
theorem wH: ∀(l:List Oper) (m:List Nat) (j:Nat),j<m.length->(Cf l m).getD j 0=m.getD j 0
 | [],m,j,_=>rfl
 | o::r,m,j,h=>by
  simp only [Cf];rw [wH r _ j (by simp;omega)];simp only [aaE,abt h]
theorem GP: ∀(l:List Oper) (m:List Nat) (k:Nat) (o:Oper),l[k]?=some o-> ∃m',(Cf l m).getD (m.length+k) 0=Aw m' o∧ ∀j,j<m.length+k->(Cf l m).getD j 0=m'.getD j 0
 | [],m,k,o,h=>by simp at h
 | p::r,m,0,o,h=>by
  simp at h;subst h;refine ⟨m,?_,fun j hj=>wH (p::r) m j hj⟩;simp only [Cf,abT];rw [wH r _ m.length (by simp)];simp [aaE]
 | p::r,m,k+1,o,h=>by
  simp at h;obtain ⟨m',h1,h2⟩:=GP r (m++ [Aw m p]) k o h;simp only [Cf];simp only [aba,aaH,abL] at h1 h2;exact ⟨m',by rw [<-h1];congr 1;omega,fun j hj=>h2 j (by omega)⟩
theorem ia: ∀(l:List Oper) (k i:Nat) (o:Oper),cZ l k=true->l[i]?=some o-> ∀e∈o.after,Region.binds .any e=true->e.on<k+i
 | [],k,i,o,_,h=>by simp at h
 | p::r,k,0,o,hb,h=>by
  simp at h;subst h;simp only [cZ,abj,abH] at hb;intro e he hbe;have:=hb.1 e (by simpa using he);simpa [hbe] using this
 | p::r,k,i+1,o,hb,h=>by
  simp at h;simp only [cZ,abj] at hb;intro e he hbe;have:=ia r (k+1) i o hb.2 h e he hbe;omega
theorem mC {ops:Array Oper} (hb:cZ ops.toList 0=true) {a i:Nat} {o:Oper} (ho:ops[i]?=some o) (h:ordered (fo ops) a i=true): ∃e∈o.after,Region.binds .any e=true∧(a=e.on∨ordered (fo ops) a e.on=true):=by
 have ho':ops.toList[i]?=some o:=by simpa using ho
 obtain ⟨m',h1,h2⟩:=GP ops.toList [] i o ho';simp only [abL,abz] at h1 h2;unfold ordered fo at h;rw [h1] at h;obtain ⟨e,he,hbe,h3⟩:=E0 h;refine ⟨e,he,hbe,h3.imp id (fun h3=> ?_)⟩;have hlt:=ia ops.toList 0 i o hb ho' e he hbe;unfold ordered fo;rw [h2 e.on (by omega)];exact h3
theorem E1 {ops:Array Oper} (hb:cZ ops.toList 0=true): ∀(i a:Nat),i<ops.size->ordered (fo ops) a i=true->a<i:=by
 intro i
 induction i using Nat.strongRecOn with
 | _ i ih=>
  intro a hi h;have ho:ops[i]?=some ops[i]:=by simp [hi]
  obtain ⟨e,he,hbe,h3⟩:=mC hb ho h;have hlt:=ia ops.toList 0 i ops[i] hb (by simp) e he hbe;rcases h3 with h3 | h3
  ·omega
  ·have:=ih e.on (by omega) a (by omega) h3;omega
theorem wI {ops:Array Oper} {b:List Nat} {o:Oper} {i:Nat}: ∀(l:List Oper) (j k:Nat) (p:Oper),ri ops b o i l j=true->l[k]?=some p->ordered b i (j+k)=true∨o.apart ops p=true
 | [],j,k,p,_,h=>by simp at h
 | q::r,j,0,p,hb,h=>by
  simp at h;subst h;simp only [ri,abj,abq] at hb;exact hb.1
 | q::r,j,k+1,p,hb,h=>by
  simp at h;simp only [ri,abj] at hb;have:=wI r (j+1) k p hb.2 h
  rwa [show j+1+k=j+(k+1) by omega] at this
theorem Cp {ops:Array Oper} {b:List Nat}: ∀(l:List Oper) (i k m:Nat) (o p:Oper),nO ops b l i=true->l[k]?=some o->k<m->l[m]?=some p->ordered b (i+k) (i+m)=true∨o.apart ops p=true
 | [],i,k,m,o,p,_,h,_,_=>by simp at h
 | q::r,i,0,m,o,p,hb,h,hlt,hp=>by
  simp at h;subst h;simp only [nO,abj] at hb;cases m with
  | zero=>omega
  | succ m=>
   simp at hp;have:=wI r (i+1) m p hb.1.2 hp
   rwa [show i+1+m=i+(m+1) by omega] at this
 | q::r,i,k+1,m,o,p,hb,h,hlt,hp=>by
  simp at h;simp only [nO,abj] at hb;cases m with
  | zero=>omega
  | succ m=>
   simp at hp;have:=Cp r (i+1) k m o p hb.2 h (by omega) hp
   rwa [show i+1+k=i+(k+1) by omega,show i+1+m=i+(m+1) by omega] at this
theorem wJ {ops:Array Oper} {i j:Nat} (hj:j<ops.size) (hne:j≠i) (h1:ordered (fo ops) i j=false) (h2:ordered (fo ops) j i=false) (ha:alone ops i=true):oU ops j=true:=by
 have key: ∀n,j<n->Ax ops (fo ops) i n=true->oU ops j=true:=by
  intro n
  induction n with
  | zero=>intro h;omega
  | succ n ih=>
   intro h hh;simp only [Ax,abj] at hh;by_cases e:j=n
   ·subst e;have:(j==i)=false:=by simpa using hne
    simpa [this,h1,h2] using hh.1
   ·exact ih (by omega) hh.2
 exact key _ hj ha
theorem Ni (id:Nat) (op:Op):id<=next id op:=by unfold next;split <;> omega
theorem HZ {id:Nat} {op:Op} (h:asks op=true):next id op=id+1:=by unfold next;rw [h]
theorem GQ: ∀(l:List Oper) (i base:Nat),base<=bB l i base
 | _,0,base=>by cases ‹List Oper› <;> exact aa0 _
 | [],i+1,base=>aa0 _
 | o::r,i+1,base=>Nat.le_trans (Ni base o.op) (GQ r i _)
theorem GR: ∀(l:List Oper) (a i base:Nat) (o:Oper),l[a]?=some o->asks o.op=true->a<i->bB l a base<bB l i base
 | [],a,i,base,o,h,_,_=>by simp at h
 | p::r,0,i,base,o,h,ha,hlt=>by
  simp at h;subst h;cases i with
  | zero=>omega
  | succ i=>simp only [bB];have:=GQ r i (next base p.op);rw [HZ ha] at this⊢;omega
 | p::r,a+1,i,base,o,h,ha,hlt=>by
  simp at h;cases i with
  | zero=>omega
  | succ i=>exact GR r a i _ o h ha (by omega)
theorem rF {b:List Nat} {i:Nat}: ∀(l:List Oper) (j id a:Nat) (o:Oper),l[a]?=some o->asks o.op=true->ordered b (j+a) i=false->bB l a id∈dc b i l j id
 | [],j,id,a,o,h,_,_=>by simp at h
 | p::r,j,id,0,o,h,ha,ho=>by
  simp at h;subst h;simp only [abT] at ho;simp [dc,ha,ho,bB]
 | p::r,j,id,a+1,o,h,ha,ho=>by
  simp at h;have ih:=rF r (j+1) (next id p.op) a o h ha (by rwa [show j+1+a=j+(a+1) by omega]);simp only [dc,bB];split
  ·exact abO _ ih
  ·exact ih
theorem nW: ∀(l:List Nat) (bs:List ad),(bc l bs).length=bs.length
 | [],bs=>rfl
 | k::r,bs=>by simp only [bc];rw [nW r];simp
theorem b9: ∀(l:List Nat) (bs:List ad) (j:Nat),(bc l bs)[j]?=if j∈l∧j<bs.length then some .dead else bs[j]?
 | [],bs,j=>by simp [bc]
 | k::r,bs,j=>by
  simp only [bc];rw [b9 r];simp only [abM,aaQ,abK];by_cases h1:j∈r
  ·simp [h1];split <;> simp_all
  ·by_cases h2:k=j
   ·subst h2;by_cases h3:k<bs.length <;> simp [h1,h3]
   ·have: ¬ j=k:=fun e=>h2 e.symm;simp [h1,h2,this]
theorem uz {l:List Nat} {k:Nat} (h:k∈l) (bs:List ad) (x:ad):bc l (bs.set k x)=bc l bs:=by
 apply List.ext_getElem?;intro j;rw [b9,b9,abM,abK];by_cases e:k=j
 ·subst e;by_cases h3:k<bs.length <;> simp [h,h3]
 ·simp [e]
theorem dQ (l:List Nat) (bs:List ad):Sub (bc l bs) bs:=fun k hk=>by
 simp only [ad.at,aaE] at hk⊢;rw [b9] at hk⊢;by_cases h:k∈l∧k<bs.length
 ·rw [if_pos h] at hk;simp at hk
 ·rw [if_neg h]
theorem Ke [Kn] {P:Program} {cf:aF} (h:qo P cf):qo P (rq cf) where
 fn:=fun f xs bs r bs' hr=>by
  unfold rq at hr;split at hr
  ·rename_i f' heq;cases heq;split at hr
   ·rename_i v hf;cases hr;exact h.fn _ _ _ _ _ hf
   ·rename_i v x l hf;obtain ⟨h1,h2⟩:=h.fn _ _ _ _ _ hf;refine ⟨h1,fun g w vs hm hx=>(h2 g w vs hm hx).mono fun e w' ⟨u,g',he,hm',hl,hfr,hr'⟩=> ?_⟩
    have hho:handOver ([]:List ad).length ⟨start 0 [],x::l⟩ v=some (r,bs'):=by unfold handOver;exact hr
    obtain ⟨g'',k1,k2,k3,k4⟩:=rE hm (s:=⟨start 0 [],x::l⟩) hm' hl hfr hr' hho;exact ⟨u,g'',he,k1,k2,k3,k4⟩
   ·cases hr
  ·exact h.fn _ _ _ _ _ hr
 gm:=fun k s env xs bs r bs' hr=>by
  unfold rq at hr;exact h.gm _ _ _ _ _ _ _ hr
theorem nX [Kn] {P:Program} {cf:aF} (h:qo P cf): ∀b,qo P (cx cf b)
 | true=>h
 | false=>Ke h
theorem Nj {c:av} {cf:aF} {op:Op} {t:Env} {bs bs':List ad} (hs:Sub bs bs') (hl:bs.length=bs'.length) (hv:cB op=true) {id:Nat} {v:AV} {x:ad} (h:bj c cf op t bs id=some (v,.app x)):bj c cf op t bs' id=some (v,.app x):=by
 unfold bj at h⊢;split at h
 ·split at h
  ·split at h
   ·split at h
    ·split at h <;> cases h
    ·unfold nj at h⊢;split at h
     ·split at h <;> cases h
     ·unfold ni at h⊢;split at h
      ·split at h
       ·split at h <;> cases h
       ·split at h <;> cases h
      unfold uv at h⊢;split at h
      ·rename_i l hl2;rw [kC hs hl2];simp only;split at h
       ·split at h
        ·split at h
         ·split at h
          ·unfold cn at h;split at h <;> cases h
          ·cases h
         ·cases h
        ·split at h
         ·split at h
          ·unfold cn at h;split at h <;> cases h
          ·cases h
         ·rename_i hcf;split at h
          ·rename_i hfr;split at h
           ·cases h
           ·rename_i hno;rw [<-hl];exact h
          ·split at h <;> cases h
         ·cases h
       ·split at h <;> cases h
      ·cases h
   ·split at h <;> cases h
   ·cases h
  ·rename_i k hk;exfalso;unfold cB at hv;simp only at hv
   first
   | (cases hv;done)
   | (split at hv
      ·rename_i f hf;exact hk f hf
      ·cases hv)
 ·rename_i hk;exfalso;unfold cB at hv;split at hv
  ·rename_i k;exact hk k rfl
  ·cases hv
section
variable {c:av} {cf:aF} {ops:Array Oper} {base:Nat}
theorem qt {i:Nat} {o:Oper} {s s':St} (hal:alone ops i=false) (h:az c cf ops base i o s=some s'):
  (aW ops s.t o.guard=some false∧s'={t:=aB s.t o.dst (.aL []),b:=s.b})∨
  (aW ops s.t o.guard=some true∧ ∃v,(bj c (cx cf (aV c ops i o.op)) o.op s.t (bo ops base i s.b) (bB ops.toList i base)=some (v,.none)∧cg c ops i o.op s.t=true∧s'={t:=aB s.t o.dst v,b:=s.b})∨
   ∃x,asks o.op=true∧s.b[bB ops.toList i base]?=some .dead∧bj c (cx cf (aV c ops i o.op)) o.op s.t (bo ops base i s.b) (bB ops.toList i base)=some (v,.new x)∧s'={t:=aB s.t o.dst v,b:=s.b.set (bB ops.toList i base) x})∨
  (aW ops s.t o.guard=some true∧ ∃v k x,bj c (cx cf (aV c ops i o.op)) o.op s.t (bo ops base i s.b) (bB ops.toList i base)=some (v,.gQ k x)∧((bg ops i o.op=true∧rj o.op x=true)∧cg c ops i o.op s.t=true)∧((gS ops i).all fun p=>fA k (s.t.get .any p))=true∧s'={t:=aB s.t o.dst v,b:=s.b.set k x})∨
  (aW ops s.t o.guard=some true∧ ∃v x,bj c (cx cf (aV c ops i o.op)) o.op s.t (bo ops base i s.b) (bB ops.toList i base)=some (v,.app x)∧aV c ops i o.op=true∧((eI ops i).all fun p=>nT s.b.length (s.t.get .any p))=true∧s'={t:=aB s.t o.dst v,b:=s.b++ [x]})∨
  (aW ops s.t o.guard=some true∧ ∃v k,bj c (cx cf (aV c ops i o.op)) o.op s.t (bo ops base i s.b) (bB ops.toList i base)=some (v,.qg k)∧fB c ops i o.op=true∧((eI ops i).all fun p=>rB k (s.t.get .any p))=true∧s'={t:=aB s.t o.dst v,b:=s.b.set k .gone}):=by
 unfold az at h;split at h
 ·rename_i hw;rw [hal] at h;simp only at h;split at h
  ·rename_i v hd;split at h
   ·rename_i hro;cases h;exact .inr (.inl ⟨hw,v,.inl ⟨hd,hro,rfl⟩⟩)
   ·cases h
  ·rename_i v x hd;split at h
   ·rename_i ha hdead;cases h;exact .inr (.inl ⟨hw,v,.inr ⟨x,ha,hdead,hd,rfl⟩⟩)
   ·cases h
  ·rename_i v k x hd;split at h
   ·rename_i hcalm;cases h;rw [abj,abj,abj] at hcalm;exact .inr (.inr (.inl ⟨hw,v,k,x,hd,hcalm.1,hcalm.2,rfl⟩))
   ·cases h
  ·rename_i v x hd;split at h
   ·rename_i hcalm;cases h;rw [abj] at hcalm;exact .inr (.inr (.inr (.inl ⟨hw,v,x,hd,hcalm.1,hcalm.2,rfl⟩)))
   ·cases h
  ·rename_i v k hd;split at h
   ·rename_i hcalm;cases h;rw [abj] at hcalm;exact .inr (.inr (.inr (.inr ⟨hw,v,k,hd,hcalm.1,hcalm.2,rfl⟩)))
   ·cases h
  ·cases h
 ·rename_i hw;cases h;exact .inl ⟨hw,rfl⟩
 ·cases h
theorem uA {i:Nat} {o:Oper} {s s':St} (hal:alone ops i=false) (h:az c cf ops base i o s=some s') (hn: ¬ (aW ops s.t o.guard=some true∧ ∃v k,bj c (cx cf (aV c ops i o.op)) o.op s.t (bo ops base i s.b) (bB ops.toList i base)=some (v,.qg k)∧fB c ops i o.op=true∧((eI ops i).all fun p=>rB k (s.t.get .any p))=true∧s'={t:=aB s.t o.dst v,b:=s.b.set k .gone})):
  (aW ops s.t o.guard=some false∧s'={t:=aB s.t o.dst (.aL []),b:=s.b})∨
  (aW ops s.t o.guard=some true∧ ∃v,(bj c (cx cf (aV c ops i o.op)) o.op s.t (bo ops base i s.b) (bB ops.toList i base)=some (v,.none)∧cg c ops i o.op s.t=true∧s'={t:=aB s.t o.dst v,b:=s.b})∨
   ∃x,asks o.op=true∧s.b[bB ops.toList i base]?=some .dead∧bj c (cx cf (aV c ops i o.op)) o.op s.t (bo ops base i s.b) (bB ops.toList i base)=some (v,.new x)∧s'={t:=aB s.t o.dst v,b:=s.b.set (bB ops.toList i base) x})∨
  (aW ops s.t o.guard=some true∧ ∃v k x,bj c (cx cf (aV c ops i o.op)) o.op s.t (bo ops base i s.b) (bB ops.toList i base)=some (v,.gQ k x)∧((bg ops i o.op=true∧rj o.op x=true)∧cg c ops i o.op s.t=true)∧((gS ops i).all fun p=>fA k (s.t.get .any p))=true∧s'={t:=aB s.t o.dst v,b:=s.b.set k x})∨
  (aW ops s.t o.guard=some true∧ ∃v x,bj c (cx cf (aV c ops i o.op)) o.op s.t (bo ops base i s.b) (bB ops.toList i base)=some (v,.app x)∧aV c ops i o.op=true∧((eI ops i).all fun p=>nT s.b.length (s.t.get .any p))=true∧s'={t:=aB s.t o.dst v,b:=s.b++ [x]}):=by
 rcases qt hal h with h | h | h | h | h
 ·exact .inl h
 ·exact .inr (.inl h)
 ·exact .inr (.inr (.inl h))
 ·exact .inr (.inr (.inr h))
 ·exact absurd h hn
theorem wK {b:List Nat} {i p:Nat}: ∀(l:List Oper) (j:Nat),p∈nP ops b i l j-> ∃k o,l[k]?=some o∧fK ops (j+k) o.op=some p∧(j+k==i || ordered b i (j+k) || ordered b (j+k) i)=false
 | [],_,h=>by cases h
 | o::r,j,h=>by
  simp only [nP] at h;split at h
  ·rename_i q h1 h2;rcases aaQ.1 h with rfl | h
   ·exact ⟨0,o,rfl,h2,h1⟩
   ·obtain ⟨k,o',k1,k2,k3⟩:=wK r (j+1) h;exact ⟨k+1,o',k1,by rw [show j+(k+1)=j+1+k by omega];exact k2,by rw [show j+(k+1)=j+1+k by omega];exact k3⟩
  ·obtain ⟨k,o',k1,k2,k3⟩:=wK r (j+1) h;exact ⟨k+1,o',k1,by rw [show j+(k+1)=j+1+k by omega];exact k2,by rw [show j+(k+1)=j+1+k by omega];exact k3⟩
theorem Cq {b:List Nat} {i p:Nat}: ∀(l:List Oper) (j k:Nat) (o:Oper),l[k]?=some o->fK ops (j+k) o.op=some p->(j+k==i || ordered b i (j+k) || ordered b (j+k) i)=false->p∈nP ops b i l j
 | [],_,k,_,h,_,_=>by simp at h
 | x::r,j,0,o,h,h2,h3=>by
  simp only [abu,Option.some.injEq] at h;subst h;simp only [abT] at h2 h3;simp only [nP,h3,h2];exact aaR
 | x::r,j,k+1,o,h,h2,h3=>by
  have:=Cq r (j+1) k o (by simpa using h) (by rw [show j+1+k=j+(k+1) by omega];exact h2) (by rw [show j+1+k=j+(k+1) by omega];exact h3);simp only [nP];split
  ·exact abO _ this
  ·exact this
theorem qu {b:List Nat} {i:Nat} {op:Op}: ∀(l:List Oper) (j k:Nat) (o:Oper),rm ops b i op l j=true->l[k]?=some o->(j+k==i || ordered b i (j+k) || ordered b (j+k) i || jb ops (j+k) op o.op)=true
 | [],_,k,_,_,h=>by simp at h
 | x::r,j,0,o,h,h2=>by
  simp only [abu,Option.some.injEq] at h2;subst h2;simp only [rm,abj] at h;exact h.1
 | x::r,j,k+1,o,h,h2=>by
  simp only [rm,abj] at h;have:=qu r (j+1) k o h.2 (by simpa using h2);rw [show j+(k+1)=j+1+k by omega];exact this
theorem lJ {op:Op} {j q:Nat} (h:fK ops j op=some q): ∃p,de op=some p∧iq ops j p=some q:=by
 unfold fK at h;split at h
 ·rename_i p hp;exact ⟨p,hp,h⟩
 ·cases h
theorem wL {op:Op} {p:Nat} (k2:de op=some p):blind op=false∧isLen op=false:=by
 unfold de at k2;split at k2
 ·exact ⟨rfl,rfl⟩
 ·exact ⟨rfl,rfl⟩
 ·cases k2
theorem yW {i:Nat} {op:Op} (h:bg ops i op=true) {p:Nat} (hp:p∈gS ops i):(mA op).contains p=false:=by simp only [bg,abj] at h;obtain ⟨k,o,k1,k2,k3⟩:=wK ops.toList 0 hp;have h1:=qu ops.toList 0 k o h.1.2 k1;rw [k3,abE] at h1;obtain ⟨p0,hp0,_⟩:=lJ k2;obtain ⟨hb,hl⟩:=wL hp0;unfold jb at h1;rw [hb,hl,k2] at h1;simpa using h1
theorem wM {j q:Nat}: ∀(l:List Oper) (n k:Nat) (o:Oper),mB ops j q l n=true->l[k]?=some o->(o.dst !=some q || n+k==j || ordered (fo ops) j (n+k) || ordered (fo ops) (n+k) j)=true
 | [],_,k,_,_,h=>by simp at h
 | x::r,n,0,o,h,h2=>by
  simp only [abu,Option.some.injEq] at h2;subst h2;simp only [mB,abj] at h;exact h.1
 | x::r,n,k+1,o,h,h2=>by
  simp only [mB,abj] at h;have:=wM r (n+1) k o h.2 (by simpa using h2);rw [show n+(k+1)=n+1+k by omega];exact this
theorem yX {j q:Nat} (h:mB ops j q ops.toList 0=true) {a:Nat} {oa:Oper} (hoa:ops[a]?=some oa) (hne:a≠j) (h1:ordered (fo ops) j a=false) (h2:ordered (fo ops) a j=false):oa.dst≠some q:=by
 intro hd;have:=wM ops.toList 0 a oa h (by simpa using hoa);rw [abz,h1,h2,hd] at this;have hb:(a==j)=false:=by simpa using hne
 rw [hb] at this;simp at this
theorem jv {i a:Nat} {op:Op} {oa:Oper} (h:bg ops i op=true) (ha:ops[a]?=some oa) (hne:a≠i) (ho1:ordered (fo ops) i a=false) (ho2:ordered (fo ops) a i=false) (t:Env) (v:AV) (k:Nat):((gS ops i).all fun p=>fA k ((aB t oa.dst v).get .any p))=(gS ops i).all fun p=>fA k (t.get .any p):=by
 simp only [bg,abj] at h;have h2:=h.2;rw [abH] at h2;rw [abC,abH,abH]
 have key: ∀p∈gS ops i,(aB t oa.dst v).get .any p=t.get .any p:=fun p hp=>by
  have h3:=h2 p hp;have h4:=yX h3 ha hne ho1 ho2;cases hd:oa.dst with
  | none=>rfl
  | some d=>have hne:d≠p:=fun e=>h4 (by rw [hd,e]);simp only [aB];exact Tr.bu _ _ _ hne
 exact ⟨fun hh p hp=>by rw [<-key p hp];exact hh p hp,fun hh p hp=>by rw [key p hp];exact hh p hp⟩
theorem iK {ms:List Nat} {bs:List ad} {k j:Nat} (x:ad) (h:j≠k):ad.at (bc ms (bs.set k x)) j=ad.at (bc ms bs) j:=by simp only [ad.at,aaE];rw [b9,b9,abM,aaG (Ne.symm h)]
theorem uB {ms:List Nat} {bs:List ad} {k:Nat} {ty:TypeId} {cs:List AV} (h: ∀sh sz es,ad.at bs k≠ .sl sh sz es) (sh:Hd) (sz:Nat) (es:List AV):ad.at (bc ms (bs.set k (.var ty cs))) k≠ .sl sh sz es∧ad.at (bc ms bs) k≠ .sl sh sz es:=by
 have h':=h sh sz es;simp only [ad.at,aaE] at h'⊢;rw [b9,b9,abM];constructor
 ·split
  ·simp
  ·by_cases hk:k<bs.length
   ·simp [hk]
   ·simp [hk]
 ·split
  ·simp
  ·exact h'
theorem H0 {op:Op} (h:cA op=true) {t:Env} {bs:List ad} {id:Nat} {v:AV} {e:c9} (hd:bj c cf op t bs id=some (v,e)): ∀k ty cs,e= .gQ k (.var ty cs)-> ∃ty' cs',ad.at bs k= .var ty' cs':=by
 cases op <;> simp only [cA,aav] at h;intro k ty cs he;subst he;simp only [bj,fR] at hd;unfold nM at hd;split at hd
 ·split at hd
  ·split at hd
   ·split at hd
    ·rename_i ty' cs' hb;split at hd
     ·cases hd;exact ⟨_,_,hb⟩
     ·cases hd
    ·cases hd
   ·split at hd
    ·split at hd
     ·split at hd
      ·split at hd
       ·obtain ⟨_,hd⟩:=k9 hd;cases hd
       rw [abV] at hd;obtain ⟨_,_,hd⟩:=hd;cases hd
      ·cases hd
     ·cases hd
    ·cases hd
   ·cases hd
  ·cases hd
 ·cases hd
theorem H2 {op:Op} (h:cA op=true) {t:Env} {bs bs':List ad} (hs:Sub bs bs') {id:Nat} {v:AV} {k:Nat} {ty:TypeId} {cs:List AV} (hd:bj c cf op t bs id=some (v,.gQ k (.var ty cs))):bj c cf op t bs' id=some (v,.gQ k (.var ty cs)):=by
 cases op <;> simp only [cA,aav] at h;simp only [bj,fR] at hd⊢;unfold nM at hd⊢;split at hd
 ·split at hd
  ·rename_i hcond;rw [if_pos hcond];split at hd
   ·rename_i k' off;split at hd
    ·rename_i ty' cs' hb;rw [hs.var hb];exact hd
    ·cases hd
   ·split at hd
    ·split at hd
     ·split at hd
      ·split at hd
       ·obtain ⟨_,hd⟩:=k9 hd;cases hd
       rw [abV] at hd;obtain ⟨_,_,hd⟩:=hd;cases hd
      ·cases hd
     ·cases hd
    ·cases hd
   ·cases hd
  ·cases hd
 ·cases hd
theorem Kf {op:Op} (h:eN op=true) {t:Env} {bs bs':List ad} (hs:Sub bs bs') {id:Nat} {r:AV×c9} (hd:bj c cf op t bs id=some r):bj c cf op t bs' id=some r:=by
 obtain ⟨v,e⟩:=r;unfold eN at h;split at h
 ·simp only [bj,fR,eH] at hd⊢;split at hd
  ·exact E2 hs hd
  ·cases hd
 ·simp only [bj,fR] at hd⊢;split at hd
  ·exact wN hs hd
  ·cases hd
 ·cases h
theorem H3 {d:TypeDesc} {x:AV} {ms:List Nat} {bs:List ad} {k:Nat} {ty:TypeId} {cs:List AV} (h: ∀sh sz es,ad.at bs k≠ .sl sh sz es):qh d x (bc ms (bs.set k (.var ty cs)))=qh d x (bc ms bs):=by
 have he:elems (bc ms (bs.set k (.var ty cs))) x=elems (bc ms bs) x:=by
  unfold elems;cases x with
  | ax k' n=>
   simp only;by_cases hk:k'=k
   ·subst hk;have h2:=uB (ms:=ms) (ty:=ty) (cs:=cs) h;split
    ·rename_i sh sz es hb;exact absurd hb (h2 sh sz es).1
    ·split
     ·rename_i sh sz es hb;exact absurd hb (h2 sh sz es).2
     ·rfl
   ·rw [iK _ hk]
  | gn k' n lo hi=>
   simp only;by_cases hk:k'=k
   ·subst hk;have h2:=uB (ms:=ms) (ty:=ty) (cs:=cs) h;split
    ·rename_i sh sz es hb;exact absurd hb (h2 sh sz es).1
    ·split
     ·rename_i sh sz es hb;exact absurd hb (h2 sh sz es).2
     ·rfl
   ·rw [iK _ hk]
  | _=>rfl
 unfold qh;rw [he]
theorem E3 {d:TypeDesc} {x:AV} {lo hi:Option AV} {bs bs':List ad} (h1: ∀k n,x≠ .ax k n) (h2: ∀k n lo hi,x≠ .gn k n lo hi):dP c d x lo hi bs'=dP c d x lo hi bs:=by
 unfold dP;split
 ·rfl
 ·rfl
 ·exact absurd rfl (h1 _ _)
 ·exact absurd rfl (h2 _ _ _ _)
 ·rfl
theorem Cr {d:TypeDesc} {x:AV} {lo hi:Option AV} {bs:List ad} (h1: ∀k n,x≠ .ax k n) (h2: ∀k n lo hi,x≠ .gn k n lo hi) {v:AV} {k:Nat} {y:ad} (h:dP c d x lo hi bs=some (v,.gQ k y)):False:=by
 unfold dP at h;split at h
 ·split at h
  ·rw [abV] at h;obtain ⟨l,_,h⟩:=h;cases h
  ·cases h
 ·split at h
  ·split at h
   ·rw [abV] at h;obtain ⟨l,_,h⟩:=h;cases h
   ·cases h
  ·cases h
 ·exact absurd rfl (h1 _ _)
 ·exact absurd rfl (h2 _ _ _ _)
 ·cases h
theorem yY {op o:Op} {mj:Nat} (hm:jb ops mj op o=true) (hb:blind o=false) {t:Env} {ms:List Nat} {bs:List ad} {k:Nat} {x:ad} (hx:rj op x=true) (hv:cA op=true-> ∃ty' cs',ad.at bs k= .var ty' cs') (hc: ∀p,de o=some p->fA k (t.get .any p)=true) (id:Nat):
  bj c cf o t (bc ms (bs.set k x)) id=bj c cf o t (bc ms bs) id:=by
 unfold jb at hm;rw [hb,abE,abq] at hm;rcases hm with hm | hm
 ·rw [abj] at hm;obtain ⟨hm,hst⟩:=hm
  have hns: ∀sh sz es,ad.at bs k≠ .sl sh sz es:=by obtain ⟨ty',cs',hv⟩:=hv hst;intro sh sz es e;rw [hv] at e;cases e
  obtain ⟨ty,cs,rfl⟩: ∃ty cs,x= .var ty cs:=by
   cases x with
   | var ty cs=>exact ⟨ty,cs,rfl⟩
   | sl sh sz es=>cases op <;> simp only [cA,aav] at hst;cases hx
   | dead=>cases hx
   | loop st=>cases hx
   | mp es clock=>cases hx
   | gone=>cases hx
   | iter o=>cases hx
  unfold isLen at hm;split at hm
  ·simp only [bj,fR,eH];split
   ·split
    ·exact H3 hns
    ·rfl
   ·rfl
  ·cases hm
 ·cases hl0:fK ops mj o with
  | none=>rw [hl0] at hm;cases hm
  | some q0=>
   obtain ⟨p,hl,_⟩:=lJ hl0;have hcp:=hc p hl;unfold de at hl;split at hl
   ·cases hl;simp only [bj,fR,ev];unfold nK;split
    ·split
     ·rename_i k' off hp;rw [hp] at hcp;have:k'≠k:=by simpa [fA,nk] using hcp
      rw [iK _ this]
     ·rename_i k' n j off hp;rw [hp] at hcp;have:k'≠k:=by simpa [fA,nk] using hcp
      rw [iK _ this]
     ·rfl
     ·rfl
    ·rfl
   ·cases hl;rename_i ty lo hi;simp only [bj,fR]
    have hq:(∀k n,ev t (.tmp p)≠ .ax k n)∧ ∀k n lo hi,ev t (.tmp p)≠ .gn k n lo hi:=by
     simp only [ev];constructor
     ·intro k n h;rw [h] at hcp;cases hcp
     ·intro k n lo hi h;rw [h] at hcp;cases hcp
    generalize ev t (.tmp p)=y at hq;split
    ·exact E3 hq.1 hq.2
    ·rfl
   ·cases hl
theorem E4 {op o:Op} {mj:Nat} (hm:jb ops mj op o=true) (hb:blind o=false) {t:Env} {bs:List ad} {k:Nat} (hc: ∀p,de o=some p->fA k (t.get .any p)=true) {cf:aF} {id:Nat} {v:AV} {k':Nat} {y:ad} (h:bj c cf o t bs id=some (v,.gQ k' y)):(cA o || eN o)=false:=by
 unfold jb at hm;rw [hb,abE,abq] at hm;rcases hm with hm | hm
 ·rw [abj] at hm;have hm:=hm.1;unfold isLen at hm;split at hm
  ·rfl
  ·cases hm
 ·cases hl0:fK ops mj o with
  | none=>rw [hl0] at hm;cases hm
  | some q0=>
   obtain ⟨p,hl,_⟩:=lJ hl0;have hcp:=hc p hl;unfold de at hl;split at hl
   ·rfl
   ·cases hl;rename_i ty lo hi;exfalso;simp only [bj,fR] at h
    have hq:(∀k n,ev t (.tmp p)≠ .ax k n)∧ ∀k n lo hi,ev t (.tmp p)≠ .gn k n lo hi:=by
     simp only [ev];constructor
     ·intro k n h;rw [h] at hcp;cases hcp
     ·intro k n lo hi h;rw [h] at hcp;cases hcp
    generalize ev t (.tmp p)=y at hq h;split at h
    ·exact Cr hq.1 hq.2 h
    ·cases h
   ·cases hl
theorem yZ {op o:Op} {mj:Nat} (hm:jb ops mj op o=true) (hb:blind o=false):asks o=false∧cB o=false:=by
 unfold jb at hm;rw [hb,abE,abq] at hm;rcases hm with hm | hm
 ·rw [abj] at hm;have hm:=hm.1;unfold isLen at hm;split at hm
  ·exact ⟨rfl,rfl⟩
  ·cases hm
 ·cases hl0:fK ops mj o with
  | none=>rw [hl0] at hm;cases hm
  | some q0=>
   obtain ⟨p,hl,_⟩:=lJ hl0;unfold de at hl;split at hl
   ·exact ⟨rfl,rfl⟩
   ·exact ⟨rfl,rfl⟩
   ·cases hl
theorem iu {c:av} {o:Op} (h:cB o=false):Ay c o=false:=by
 cases o with
 | call k=>
  obtain ⟨ce,as,ts⟩:=k;cases ce with
  | value f=>simp [cB] at h
  | _=>rfl
 | _=>rfl
theorem wO {c:av} {o:Op} (h:Ay c o=true):cB o=true:=by
 cases hc:cB o with
 | true=>rfl
 | false=>rw [iu hc] at h;cases h
theorem Cs {c:av} {ops:Array Oper}: ∀(l:List Oper) (j k:Nat) (o:Oper),l[k]?=some o->alone ops (j+k)=false->gD c ops (j+k) o.op=true->rA c ops l j=true
 | [],_,k,_,h,_,_=>by simp at h
 | x::r,j,0,o,h,h2,h3=>by
  simp only [abu,Option.some.injEq] at h;subst h;simp only [abT] at h2 h3;simp [rA,h2,h3]
 | x::r,j,k+1,o,h,h2,h3=>by
  have:=Cs r (j+1) k o (by simpa using h) (by rw [show j+1+k=j+(k+1) by omega];exact h2) (by rw [show j+1+k=j+(k+1) by omega];exact h3);simp [rA,this]
theorem vz {c:av} {ops:Array Oper} {a:Nat} {oa:Oper} (hoa:ops[a]?=some oa) (h2:alone ops a=false) (h3:gD c ops a oa.op=true):wz c ops=true:=
 Cs ops.toList 0 a oa (by simpa using hoa) (by simpa using h2) (by simpa using h3)
theorem y4 {ops:Array Oper}: ∀(l:List Oper) (j k:Nat) (o:Oper),l[k]?=some o->alone ops (j+k)=false->bg ops (j+k) o.op=true->nQ ops l j=true
 | [],_,k,_,h,_,_=>by simp at h
 | x::r,j,0,o,h,h2,h3=>by
  simp only [abu,Option.some.injEq] at h;subst h;simp only [abT] at h2 h3;simp [nQ,h2,h3]
 | x::r,j,k+1,o,h,h2,h3=>by
  have:=y4 r (j+1) k o (by simpa using h) (by rw [show j+1+k=j+(k+1) by omega];exact h2) (by rw [show j+1+k=j+(k+1) by omega];exact h3);simp [nQ,this]
theorem Cu {ops:Array Oper} {a:Nat} {oa:Oper} (hoa:ops[a]?=some oa) (h2:alone ops a=false) (h3:bg ops a oa.op=true):oV ops=true:=
 y4 ops.toList 0 a oa (by simpa using hoa) (by simpa using h2) (by simpa using h3)
theorem Kg {c:av} {ops:Array Oper} {op:Op} {j:Nat} {t:Env} (h:wz c ops=false) (h2:oV ops=false):cg c ops j op t=true:=by
 unfold cg;split
 ·rfl
 ·split
  ·rfl
  ·rw [h,h2];rfl
theorem rG {op:Op} {p:Nat} (h:et op=some p):hZ op=some p:=by unfold hZ;rw [h]
theorem Kh {op:Op} {p:Nat} (h:de op=some p):hZ op=some p:=by
 have h0:=h;unfold de at h;split at h
 ·cases h;rfl
 ·cases h;rfl
 ·cases h
theorem y5 {c:av} {ops:Array Oper} {op:Op} {t:Env} {j p q k:Nat} (hg:oV ops=true) (h:cg c ops j op t=true) (hp:de op=some p) (hq:iq ops j p=some q) (hc:fA k (t.get .any q)=true):fA k (t.get .any p)=true:=by unfold cg at h;rw [Kh hp] at h;simp only [hq,hg,abF,abE,abj,beq_iff_eq] at h;unfold fA at hc⊢;rw [h.2];exact hc
theorem Cv {b:List Nat} {i p:Nat}: ∀(l:List Oper) (j k:Nat) (o:Oper),l[k]?=some o->nR ops (j+k) o.op=some p->(j+k==i || ordered b i (j+k) || ordered b (j+k) i)=false->p∈sZ ops b i l j
 | [],_,k,_,h,_,_=>by simp at h
 | x::r,j,0,o,h,h2,h3=>by
  simp only [abu,Option.some.injEq] at h;subst h;simp only [abT] at h2 h3;simp only [sZ,h3,h2];exact aaR
 | x::r,j,k+1,o,h,h2,h3=>by
  have:=Cv r (j+1) k o (by simpa using h) (by rw [show j+1+k=j+(k+1) by omega];exact h2) (by rw [show j+1+k=j+(k+1) by omega];exact h3);simp only [sZ];split
  ·exact abO _ this
  ·exact this
theorem uC {b:List Nat} {i:Nat}: ∀(l:List Oper) (j k:Nat) (o:Oper),jL ops b i l j=true->l[k]?=some o->(j+k==i || ordered b i (j+k) || ordered b (j+k) i || blind o.op || jk o.op || (nR ops (j+k) o.op).isSome)=true
 | [],_,k,_,_,h=>by simp at h
 | x::r,j,0,o,h,h2=>by
  simp only [abu,Option.some.injEq] at h2;subst h2;simp only [jL,abj] at h;exact h.1
 | x::r,j,k+1,o,h,h2=>by
  simp only [jL,abj] at h;have:=uC r (j+1) k o h.2 (by simpa using h2);rw [show j+(k+1)=j+1+k by omega];exact this
theorem fL {i:Nat} {op:Op} (h:aV c ops i op=true):gD c ops i op=true:=by unfold gD;rw [h];rfl
theorem eK {i:Nat} {op:Op} (h:fB c ops i op=true):gD c ops i op=true:=by unfold gD;rw [h];exact Bool.or_true _
theorem y6 {i:Nat} {op:Op} (h:gD c ops i op=true):jL ops (fo ops) i ops.toList 0=true∧((eI ops i).all fun p=>ops.toList.all fun o=>o.dst !=some p)=true:=by
 unfold gD at h;rw [abq] at h;rcases h with h | h
 ·simp only [aV,abj] at h;exact ⟨h.1.2,h.2⟩
 ·simp only [fB,abj] at h;refine ⟨h.1.2,?_⟩;have h2:=h.2;rw [abH] at h2⊢;intro p hp;have h3:=h2 p hp;rw [abj] at h3;exact h3.1
theorem fp {i a:Nat} {op:Op} {oa:Oper} (h:gD c ops i op=true) (ha:ops[a]?=some oa) (t:Env) (v:AV) (f:AV->Bool):((eI ops i).all fun p=>f ((aB t oa.dst v).get .any p))=(eI ops i).all fun p=>f (t.get .any p):=by
 have h2:=(y6 h).2;rw [abH] at h2
 have hmem:oa∈ops.toList:=by obtain ⟨hlt,e⟩:=abA.1 ha;rw [<-e];simp
 rw [abC,abH,abH]
 have key: ∀p∈eI ops i,(aB t oa.dst v).get .any p=t.get .any p:=fun p hp=>by
  have h3:=h2 p hp;rw [abH] at h3;have h4:=h3 oa hmem;cases hd:oa.dst with
  | none=>rfl
  | some d=>rw [hd] at h4;simp only [aB];refine Tr.bu _ _ _ ?_;intro e;subst e;simp at h4
 constructor
 ·intro hh p hp;rw [<-key p hp];exact hh p hp
 ·intro hh p hp;rw [key p hp];exact hh p hp
theorem uD {j q:Nat} {a:Nat} {oa:Oper} (hoa:ops[a]?=some oa) (hne:a≠j) (h1:ordered (fo ops) j a=false) (h2:ordered (fo ops) a j=false): ∀(n p:Nat),GM ops j n p=some q->oa.dst≠some q
 | 0,_,h=>by cases h
 | n+1,p,h=>by
  have hmem:oa∈ops.toList:=by obtain ⟨hlt,e⟩:=abA.1 hoa;rw [<-e];simp
  unfold GM at h;split at h
  ·rename_i hf;cases h;intro hd;have:=abJ.1 hf oa hmem;rw [hd] at this;simp at this
  ·split at h
   ·split at h
    ·rename_i ha;cases h;exact yX ha hoa hne h1 h2
    ·cases h
   ·exact uD hoa hne h1 h2 n _ h
   ·cases h
  ·cases h
theorem E5 {j p q:Nat} (h:iq ops j p=some q) {a:Nat} {oa:Oper} (hoa:ops[a]?=some oa) (hne:a≠j) (h1:ordered (fo ops) j a=false) (h2:ordered (fo ops) a j=false):oa.dst≠some q:=
 uD hoa hne h1 h2 4 p h
theorem Cw {a b:AV} (h:(iJ a==iJ b)=true) (k:Nat):rB k a=rB k b:=by rw [beq_iff_eq] at h;unfold rB;rw [h]
theorem Cx {a b:AV} (h:(iJ a==iJ b)=true) (n:Nat):nT n a=nT n b:=by
 rw [beq_iff_eq] at h;have key: ∀x:AV,nT n x=match iJ x with | some k=>decide (k<n) | none=>true:=fun x=>by cases x <;> rfl
 rw [key,key,h]
theorem E6 {o:Oper} {p:Nat} (h:et o.op=some p):p∈o.looksAt ops:=by
 simp only [Oper.looksAt,abN,abQ];refine .inl ⟨.tmp p,?_,rfl⟩;unfold et at h;split at h
 ·rename_i ho;cases h;rw [ho];simp [Op.operands]
 ·rename_i ho;cases h;rw [ho];simp [Op.operands]
 ·rename_i args ts ho;split at h
  ·rename_i q hq;cases h;rw [ho];simp only [Op.operands,Call.operands];simp [hq]
  ·cases h
 ·cases h
theorem H4 {o:Oper} {p:Nat} (h:hZ o.op=some p):p∈o.looksAt ops:=by
 unfold hZ at h;split at h
 ·rename_i q hq;cases h;exact E6 hq
 ·simp only [Oper.looksAt,abN,abQ];refine .inl ⟨.tmp p,?_,rfl⟩;unfold de at h;split at h
  ·rename_i ho;cases h;rw [ho];simp [Op.operands]
  ·rename_i ho;cases h;rw [ho];simp [Op.operands]
  ·cases h
theorem da {a j:Nat} {oa o:Oper} (hoa:ops[a]?=some oa) (hne:a≠j) (ho1:ordered (fo ops) j a=false) (ho2:ordered (fo ops) a j=false) (h: ∀d,oa.dst=some d->d∉o.looksAt ops) (t:Env) (v:AV):cg c ops j o.op (aB t oa.dst v)=cg c ops j o.op t:=by
 unfold cg;split
 ·rfl
 ·rename_i p hp;split
  ·rfl
  ·rename_i q hq;cases hd:oa.dst with
   | none=>rfl
   | some d=>have h1:d≠p:=fun e=>h d hd (e▸H4 hp);have h2:d≠q:=fun e=>E5 hq hoa hne ho1 ho2 (by rw [hd,e]);simp only [aB];rw [Tr.bu _ _ _ h1,Tr.bu _ _ _ h2]
theorem E7 {op:Op} {j:Nat} (h:blind op=true) (t:Env):cg c ops j op t=true:=by
 have:hZ op=none:=by cases op <;> simp only [blind,aav] at h <;> rfl
 unfold cg;rw [this]
theorem Cy {ms:List Nat} {bs:List ad} {j:Nat} (x:ad) (h:j<bs.length):ad.at (bc ms (bs++ [x])) j=ad.at (bc ms bs) j:=by
 simp only [ad.at,aaE];rw [b9,b9,abt h];simp only [aba,List.length_singleton];by_cases hj:j∈ms
 ·rw [if_pos ⟨hj,by omega⟩,if_pos ⟨hj,h⟩]
 ·rw [if_neg (fun e=>hj e.1),if_neg (fun e=>hj e.1)]
theorem E8 {d:TypeDesc} {x:AV} {b b':List ad} (h:elems b x=elems b' x):qh d x b=qh d x b':=by unfold qh;rw [h]
theorem y7 {o:Op} {p:Nat} (hm:et o=some p) {t:Env} {b b':List ad} (hc: ∀k,iJ (t.get .any p)=some k->ad.at b' k=ad.at b k) (id:Nat):
  bj c cf o t b' id=bj c cf o t b id:=by
 unfold et at hm;split at hm
 ·cases hm;simp only [bj,fR,ev];unfold nK;split
  ·split
   ·rename_i k' off hp;rw [hc k' (by rw [hp];rfl)]
   ·rename_i k' n j off hp;rw [hc k' (by rw [hp];rfl)]
   ·rfl
   ·rfl
  ·rfl
 ·cases hm;simp only [bj,fR,ev]
  have he: ∀o,nh (t.get .any p) o b'=nh (t.get .any p) o b:=fun o=>by
   unfold nh;split
   ·rfl
   ·rename_i k' n j off hp;rw [hc k' (by rw [hp];rfl)]
   ·rfl
   ·rfl
  unfold cN;simp only [he]
 ·rename_i args ts;split at hm
  ·rename_i q hargs;cases hm
   have he:elems b' (t.get .any p)=elems b (t.get .any p):=by
    unfold elems;cases hv:t.get .any p with
    | ax k' n=>simp only;rw [hc k' (by rw [hv];rfl)]
    | gn k' n lo hi=>simp only;rw [hc k' (by rw [hv];rfl)]
    | _=>rfl
   simp only [bj,fR,eH];rw [show ng t args.toList= [t.get .any p] by rw [hargs];rfl];rcases hts:ts.toList with _ | ⟨t',_ | ⟨t2,r⟩⟩
   ·rfl
   ·simp only;split
    ·exact E8 he
    ·rfl
   ·rfl
  ·cases hm
 ·cases hm
theorem y8 {o:Op} {p:Nat} (hm:et o=some p) {t:Env} {ms:List Nat} {bs:List ad} {x:ad} (hc:nT bs.length (t.get .any p)=true) (id:Nat):
  bj c cf o t (bc ms (bs++ [x])) id=bj c cf o t (bc ms bs) id:=
 y7 hm (fun k hk=>Cy x (by
  cases hv:t.get .any p <;> rw [hv] at hk hc <;> simp only [iJ,reduceCtorEq,Option.some.injEq] at hk
  all_goals (subst hk;simpa [nT] using hc))) id
theorem Cz {o:Op} {p:Nat} (hm:et o=some p) {t:Env} {ms:List Nat} {bs:List ad} {k:Nat} {x:ad} (hc:rB k (t.get .any p)=true) (id:Nat):
  bj c cf o t (bc ms (bs.set k x)) id=bj c cf o t (bc ms bs) id:=
 y7 hm (fun j hj=>iK x (by
  unfold rB at hc;rw [hj] at hc;simpa using hc)) id
theorem jw {o:Op} {p:Nat} (hm:et o=some p):asks o=false∧(cA o || eN o)=false∧cB o=false:=by
 unfold et at hm;split at hm
 ·exact ⟨rfl,rfl,rfl⟩
 ·exact ⟨rfl,rfl,rfl⟩
 ·exact ⟨rfl,rfl,rfl⟩
 ·cases hm
theorem qv {o:Op} (h:jk o=true):(cA o || eN o)=false∧cB o=false:=by cases o <;> simp only [jk,aav] at h;exact ⟨rfl,rfl⟩
theorem alloc_eq {op:Op} (h:jk op=true) (cf cf':aF) (t t':Env) (bs bs':List ad) (id:Nat):bj c cf op t bs id=bj c cf' op t' bs' id:=by cases op <;> simp only [jk,aav] at h <;> rfl
theorem AG {o:Op} (h:cB o=false):wy c o=false:=by
 cases o with
 | call k=>
  obtain ⟨ce,as,ts⟩:=k;cases ce with
  | value f=>simp [cB] at h
  | _=>rfl
 | _=>rfl
theorem AH {o:Op} (h:wy c o=true) {t:Env} {bs:List ad} {id:Nat} {v:AV} {k:Nat} (hd:bj c cf o t bs id=some (v,.qg k)): ∃sh sz es,ad.at bs k= .sl sh sz es∧ ∀(cf':aF) bs' id',ad.at bs' k= .sl sh sz es->bj c cf' o t bs' id'=some (v,.qg k):=by
 unfold wy at h;split at h
 ·rename_i kk;split at h
  ·rename_i f hf;obtain ⟨G,hG⟩:=abU.1 h;unfold bj at hd⊢;simp only [hf,ev] at hd⊢;split at hd
   ·split at hd <;> cases hd
   ·unfold nj at hd⊢;split at hd
    ·split at hd <;> cases hd
    rename_i hov;unfold ni at hd;split at hd
    ·rename_i hmu;rw [hG] at hd;simp only at hd;split at hd
     ·rename_i v' k' he;cases hd;unfold HT at he;split at he
      ·rename_i kx n r hargs;split at he
       ·rename_i sh sz es hb;split at he
        ·rename_i u hu;cases he;refine ⟨sh,sz,es,hb,fun cf' bs' id' hb'=> ?_⟩;unfold ni HT;simp only [hov,hmu,hG,hargs,hb',hu]
        ·cases he
       ·cases he
      ·cases he
     ·cases hd
    ·exfalso;unfold uv at hd;split at hd
     ·split at hd
      ·split at hd
       ·split at hd
        ·split at hd
         ·unfold cn at hd;split at hd <;> cases hd
         ·cases hd
        ·cases hd
       ·split at hd
        ·split at hd
         ·unfold cn at hd;split at hd <;> cases hd
         ·cases hd
        ·split at hd
         ·split at hd <;> cases hd
         ·split at hd <;> cases hd
        ·cases hd
      ·split at hd <;> cases hd
     ·cases hd
  ·cases h
 ·cases h
theorem Nk {c:av} {cf:aF} {op:Op} {t:Env} {bs:List ad} (hv:cB op=true) {id:Nat} {v:AV} {x:ad} (h:bj c cf op t bs id=some (v,.app x)):x≠ .dead:=by
 unfold bj at h;split at h
 ·split at h
  ·split at h
   ·split at h
    ·split at h <;> cases h
    ·unfold nj at h;split at h
     ·split at h <;> cases h
     ·unfold ni at h;split at h
      ·split at h
       ·split at h <;> cases h
       ·split at h <;> cases h
      unfold uv at h;split at h
      ·split at h
       ·split at h
        ·split at h
         ·split at h
          ·unfold cn at h;split at h <;> cases h
          ·cases h
         ·cases h
        ·split at h
         ·split at h
          ·unfold cn at h;split at h <;> cases h
          ·cases h
         ·split at h
          ·split at h
           ·cases h
           ·cases h;exact fun e=>by cases e
          ·split at h <;> cases h
         ·cases h
       ·split at h <;> cases h
      ·cases h
   ·split at h <;> cases h
   ·cases h
  ·rename_i k hk;exfalso;unfold cB at hv;simp only at hv
   first
   | (cases hv;done)
   | (split at hv
      ·rename_i f hf;exact hk f hf
      ·cases hv)
 ·rename_i hk;exfalso;unfold cB at hv;split at hv
  ·rename_i k;exact hk k rfl
  ·cases hv
theorem Ki {op:Op} (h:blind op=true) (t:Env) (bs:List ad) (id:Nat):bj c cf op t bs id=bj c cf op t [] 0:=by cases op <;> simp only [blind,aav] at h <;> rfl
theorem H5 {op:Op} (h:blind op=true) {t:Env} {bs:List ad} {id:Nat} {v:AV} {e:c9} (hd:bj c cf op t bs id=some (v,e)):e= .none:=by
 cases op <;> simp only [blind,aav] at h <;> simp only [bj,fR] at hd
 ·cases hd;rfl
 ·cases hd;rfl
 ·unfold wm at hd;split at hd <;> cases hd <;> rfl
 ·unfold sW at hd;split at hd
  ·split at hd
   ·split at hd
    ·rw [abV] at hd;obtain ⟨_,_,hd⟩:=hd;cases hd;rfl
    ·split at hd
     ·rw [abV] at hd;obtain ⟨_,_,hd⟩:=hd;cases hd;rfl
     ·cases hd
    ·cases hd
   ·cases hd
  ·cases hd
 ·unfold g9 at hd;split at hd <;> cases hd <;> rfl
 ·rw [abV] at hd;obtain ⟨_,_,hd⟩:=hd;cases hd;rfl
 ·rw [abV] at hd;obtain ⟨_,_,hd⟩:=hd;cases hd;rfl
 ·unfold qi at hd;split at hd
  ·split at hd
   ·split at hd
    ·rw [abV] at hd;obtain ⟨_,_,hd⟩:=hd;cases hd;rfl
    ·cases hd
   ·cases hd
  ·cases hd
 ·unfold qj at hd;split at hd
  ·split at hd
   ·split at hd
    ·split at hd
     ·cases hd;rfl
     ·cases hd
    ·cases hd
   ·split at hd
    ·split at hd
     ·rw [abV] at hd;obtain ⟨_,_,hd⟩:=hd;cases hd;rfl
     ·cases hd
    ·cases hd
   ·cases hd
  ·cases hd
 ·unfold jK at hd;split at hd
  ·rw [abV] at hd;obtain ⟨_,_,hd⟩:=hd;cases hd;rfl
  ·cases hd
theorem E9 {op:Op} (h:blind op=true) (t:Env) (bs:List ad) (id:Nat):bj c (rq cf) op t bs id=bj c cf op t bs id:=by cases op <;> simp only [blind,aav] at h <;> rfl
theorem CB {op:Op} (h:blind op=true) (b:Bool) (t:Env) (bs:List ad) (id:Nat):bj c (cx cf b) op t bs id=bj c cf op t bs id:=by
 cases b with
 | true=>rfl
 | false=>exact E9 h t bs id
theorem iL {i:Nat} {o:Oper} {s:St} (hb:blind o.op=true):az c cf ops base i o s=match aW ops s.t o.guard with
  | some true=>(match bj c cf o.op s.t [] 0 with
   | some (v,_)=>some {t:=aB s.t o.dst v,b:=s.b}
   | none=>none)
  | some false=>some {t:=aB s.t o.dst (.aL []),b:=s.b}
  | none=>none:=by
 unfold az;cases hw:aW ops s.t o.guard with
 | none=>rfl
 | some x=>
  cases x with
  | false=>rfl
  | true=>
   simp only [Ki hb,CB hb];cases hd:bj c cf o.op s.t [] 0 with
   | none=>cases alone ops i <;> rfl
   | some p=>
    obtain ⟨v,e⟩:=p;obtain rfl:=H5 hb hd;cases alone ops i
    ·simp only [E7 hb]
    ·rfl
theorem uE {a:Nat} {oa:Oper} {s s1:St} (h:az c cf ops base a oa s=some s1): ∃va bs1,s1={t:=aB s.t oa.dst va,b:=bs1}∧
  ∀t':Env,aW ops t' oa.guard=aW ops s.t oa.guard->(∀(cf:aF) bs id,bj c cf oa.op t' bs id=bj c cf oa.op s.t bs id)->(∀k,bg ops a oa.op=true->((gS ops a).all fun p=>fA k (t'.get .any p))=((gS ops a).all fun p=>fA k (s.t.get .any p)))->(∀f:AV->Bool,gD c ops a oa.op=true->((eI ops a).all fun p=>f (t'.get .any p))=((eI ops a).all fun p=>f (s.t.get .any p)))->(cg c ops a oa.op t'=cg c ops a oa.op s.t)->az c cf ops base a oa {t:=t',b:=s.b}=some {t:=aB t' oa.dst va,b:=bs1}:=by
 unfold az at h;split at h
 ·rename_i hw;cases hal:alone ops a with
  | true=>
   rw [hal] at h;simp only at h;split at h
   ·rename_i v e hd;split at h
    ·rename_i bs' he;cases h;refine ⟨v,bs',rfl,fun t' k1 k2 k3 k4 k5=> ?_⟩;unfold az;simp only [k1,hw,hal,k2,hd,he]
    ·cases h
   ·cases h
  | false=>
   rw [hal] at h;simp only at h;split at h
   ·rename_i v hd;split at h
    ·rename_i hro;cases h;refine ⟨v,_,rfl,fun t' k1 k2 k3 k4 k5=> ?_⟩;unfold az;simp only [k1,hw,hal,k2,hd,k5,hro]
    ·cases h
   ·rename_i v x hd;split at h
    ·rename_i ha hdead;cases h;refine ⟨v,_,rfl,fun t' k1 k2 k3 k4 k5=> ?_⟩;unfold az;simp only [k1,hw,hal,k2,hd,ha,hdead]
    ·cases h
   ·rename_i v k x hd;split at h
    ·rename_i hcalm;cases h;refine ⟨v,_,rfl,fun t' k1 k2 k3 k4 k5=> ?_⟩
     have hs:bg ops a oa.op=true:=by rw [abj,abj,abj] at hcalm;exact hcalm.1.1.1
     unfold az;simp only [k1,hw,hal,k2,hd,k3 k hs,k5,hcalm]
    ·cases h
   ·rename_i v x hd;split at h
    ·rename_i hcalm;cases h;refine ⟨v,_,rfl,fun t' k1 k2 k3 k4 k5=> ?_⟩;have hs:aV c ops a oa.op=true:=(abj _ _▸hcalm:_∧_).1;unfold az;simp only [k1,hw,hal,k2,hd,k4 _ (fL hs),hcalm]
    ·cases h
   ·rename_i v k hd;split at h
    ·rename_i hcalm;cases h;refine ⟨v,_,rfl,fun t' k1 k2 k3 k4 k5=> ?_⟩;have hs:fB c ops a oa.op=true:=(abj _ _▸hcalm:_∧_).1;unfold az;simp only [k1,hw,hal,k2,hd,k4 _ (eK hs),hcalm]
    ·cases h
   ·cases h
 ·rename_i hw;cases h;refine ⟨.aL [],_,rfl,fun t' k1 k2 k3 k4 k5=> ?_⟩;unfold az;simp only [k1,hw]
 ·cases h
theorem comm {a i:Nat} {oa oi:Oper} (hoa:ops[a]?=some oa) (hoi:ops[i]?=some oi) (hlt:a<i) (hap:oa.apart ops oi=true) (hai:ordered (fo ops) a i=false) (hia:ordered (fo ops) i a=false) {s s1 s2:St}
  (h1:az c cf ops base a oa s=some s1) (h2:az c cf ops base i oi s1=some s2): ∃s1',az c cf ops base i oi s=some s1'∧az c cf ops base a oa s1'=some s2:=by
 have hasz:a<ops.size:=by
  rcases abm a ops.size with h | h
  ·exact h
  ·rw [abg h] at hoa;cases hoa
 have hisz:i<ops.size:=by
  rcases abm i ops.size with h | h
  ·exact h
  ·rw [abg h] at hoi;cases hoi
 have hne:a≠i:=by omega
 have hne':i≠a:=by omega
 obtain ⟨q1,q2,q3⟩:=Oper.apart_spec hap;have hput:=fun (v v':AV)=>H6 s.t v v' q2;have hi0:=fun v bs id=>rH (c:=c) (cf:=cx cf (aV c ops i oi.op)) (ops:=ops) (x:=oa) (y:=oi) q1 s.t v bs id;have ha0:=fun v bs id=>rH (c:=c) (cf:=cx cf (aV c ops a oa.op)) (ops:=ops) (x:=oi) (y:=oa) q3 s.t v bs id;have hi1:=fun (cf:aF) v bs id=>rH (c:=c) (cf:=cf) (ops:=ops) (x:=oa) (y:=oi) q1 s.t v bs id;have ha1:=fun (cf:aF) v bs id=>rH (c:=c) (cf:=cf) (ops:=ops) (x:=oi) (y:=oa) q3 s.t v bs id
 /- one of them looks at no box -/
 by_cases hbi:blind oi.op=true
 ·obtain ⟨va,bs1,rfl,sh⟩:=uE h1;rw [iL hbi] at h2;simp only [(hi0 va [] 0).2,(hi1 cf va [] 0).1] at h2;rw [iL hbi];split at h2
  ·rename_i hw;split at h2
   ·rename_i vi e hd;cases h2;refine ⟨{t:=aB s.t oi.dst vi,b:=s.b},rfl,?_⟩;rw [sh _ (ha0 vi [] 0).2 (fun cf bs id=>(ha1 cf vi bs id).1) (fun k hs=>jv hs hoi hne' hai hia _ _ k) (fun n hs=>fp hs hoi _ _ n) (da hoi hne' hai hia q3 _ _),hput va vi]
   ·cases h2
  ·rename_i hw;cases h2;refine ⟨{t:=aB s.t oi.dst (.aL []),b:=s.b},rfl,?_⟩;rw [sh _ (ha0 (.aL []) [] 0).2 (fun cf bs id=>(ha1 cf (.aL []) bs id).1) (fun k hs=>jv hs hoi hne' hai hia _ _ k) (fun n hs=>fp hs hoi _ _ n) (da hoi hne' hai hia q3 _ _),hput va (.aL [])]
  ·cases h2
 by_cases hba:blind oa.op=true
 ·rw [iL hba] at h1
  have fin: ∀va,s1={t:=aB s.t oa.dst va,b:=s.b}->(∀vi bs2,az c cf ops base a oa {t:=aB s.t oi.dst vi,b:=bs2}=some {t:=aB (aB s.t oi.dst vi) oa.dst va,b:=bs2})-> ∃s1',az c cf ops base i oi s=some s1'∧az c cf ops base a oa s1'=some s2:=by intro va hs1 hgo;subst hs1;obtain ⟨vi,bs2,rfl,sh⟩:=uE h2;refine ⟨_,sh s.t (hi0 va [] 0).2.symm (fun cf bs id=>(hi1 cf va bs id).1.symm) (fun k hs=>(jv hs hoa hne hia hai _ _ k).symm) (fun n hs=>(fp hs hoa _ _ n).symm) (da hoa hne hia hai q1 _ _).symm,?_⟩;rw [hgo,hput va vi]
  split at h1
  ·rename_i hw;split at h1
   ·rename_i va e hd;cases h1;refine fin va rfl fun vi bs2=> ?_;rw [iL hba];simp only [(ha0 vi [] 0).2,(ha1 cf vi [] 0).1,hw,hd]
   ·cases h1
  ·rename_i hw;cases h1;refine fin (.aL []) rfl fun vi bs2=> ?_;rw [iL hba];simp only [(ha0 vi [] 0).2,hw]
  ·cases h1
 have ala:alone ops a=false:=by
  cases hh:alone ops a with
  | false=>rfl
  | true=>have:=wJ (i:=a) (j:=i) hisz (by omega) hai hia hh;simp only [oU,hoi] at this;exact absurd this hbi
 have ali:alone ops i=false:=by
  cases hh:alone ops i with
  | false=>rfl
  | true=>have:=wJ (i:=i) (j:=a) hasz (by omega) hia hai hh;simp only [oU,hoa] at this;exact absurd this hba
 have hidn:asks oa.op=true->bB ops.toList a base≠bB ops.toList i base:=fun h=>Nat.ne_of_lt (GR ops.toList a i base oa (by simpa using hoa) h hlt);have hma:asks oa.op=true-> ∀bs x,bo ops base i (bs.set (bB ops.toList a base) x)=bo ops base i bs:=fun h bs x=>uz (rF ops.toList 0 base a oa (by simpa using hoa) h (by simpa using hai)) bs x;have hmi:asks oi.op=true-> ∀bs x,bo ops base a (bs.set (bB ops.toList i base) x)=bo ops base a bs:=fun h bs x=>uz (rF ops.toList 0 base i oi (by simpa using hoi) h (by simpa using hia)) bs x;have hbi':blind oi.op=false:=by simpa using hbi
 have hba':blind oa.op=false:=by simpa using hba
 /- a call that has a new box or uses one up, beside what looks on or lays a variable -/
 have peekAt: ∀{x y:Nat} {ox oy:Oper},ops[x]?=some ox->ops[y]?=some oy->y≠x->ordered (fo ops) x y=false->ordered (fo ops) y x=false->gD c ops x ox.op=true->blind oy.op=false->
   jk oy.op=true∨ ∃p q,et oy.op=some p∧iq ops y p=some q∧q∈eI ops x:=by
  intro x y ox oy _ hy hne h1 h2 hs hb;have hm:=uC ops.toList 0 y oy (y6 hs).1 (by simpa using hy);have hneb:(0+y==x)=false:=by simpa using hne
  rw [hneb,abz,h1,h2,hb] at hm;simp only [abG,abE,abq] at hm;rcases hm with hm | hm
  ·exact .inl hm
  obtain ⟨q,hq⟩:=abU.1 hm;have hq':=hq;unfold nR at hq';split at hq'
  case h_2=>cases hq'
  rename_i p hp;refine .inr ⟨p,q,hp,hq',Cv ops.toList 0 y oy (by simpa using hy) (by rw [abz];exact hq) ?_⟩;rw [hneb,abz,h1,h2];rfl
 /- what is beside such a call: it has no other effects -/
 have softAt: ∀{x y:Nat} {ox oy:Oper},ops[x]?=some ox->ops[y]?=some oy->y≠x->ordered (fo ops) x y=false->ordered (fo ops) y x=false->gD c ops x ox.op=true->blind oy.op=false->
   (cA oy.op || eN oy.op)=false∧cB oy.op=false:=by
  intro x y ox oy h1 h2 h3 h4 h5 h6 h7;rcases peekAt h1 h2 h3 h4 h5 h6 h7 with h | ⟨p,q,hp,_⟩
  ·exact qv h
  ·exact ⟨(jw hp).2.1,(jw hp).2.2⟩
 /- the box that is used up is no variable's that is laid aside -/
 have notId: ∀{x y:Nat} {ox oy:Oper},ops[y]?=some oy->asks oy.op=true->ordered (fo ops) y x=false-> ∀{bs:List ad} {k:Nat} {sh:Hd} {sz:Nat} {es:List AV},ad.at (bo ops base x bs) k= .sl sh sz es->k≠bB ops.toList y base:=by
  intro x y ox oy hy hask h1 bs k sh sz es hb e;subst e;have hmem:=rF (b:=fo ops) (i:=x) ops.toList 0 base y oy (by simpa using hy) hask (by simpa using h1);unfold bo at hb;simp only [ad.at,aaE] at hb;rw [b9] at hb;by_cases hl:bB ops.toList y base<bs.length
  ·rw [if_pos ⟨hmem,hl⟩] at hb;cases hb
  ·rw [if_neg (fun e=>hl e.2),abv (by omega)] at hb;cases hb
 by_cases hEa:aW ops s.t oa.guard=some true∧ ∃v k,bj c (cx cf (aV c ops a oa.op)) oa.op s.t (bo ops base a s.b) (bB ops.toList a base)=some (v,.qg k)∧fB c ops a oa.op=true∧((eI ops a).all fun p=>rB k (s.t.get .any p))=true∧s1={t:=aB s.t oa.dst v,b:=s.b.set k .gone}
 ·obtain ⟨hwa,va,k,hda,hsa,hca,rfl⟩:=hEa;obtain ⟨hnst,hncl⟩:=softAt hoa hoi (by omega) hai hia (eK hsa) hbi';have hst:bg ops i oi.op=false:=by unfold bg;rw [hnst];rfl
  have hap:aV c ops i oi.op=false:=by unfold aV;rw [iu hncl];rfl
  have hea:fB c ops i oi.op=false:=by unfold fB;rw [AG hncl];rfl
  have hiE:wy c oa.op=true:=by have h:=hsa;simp only [fB,abj] at h;exact h.1.1
  obtain ⟨sh,sz,es,hbk,_⟩:=AH hiE hda
  have goA: ∀v bs2,bo ops base a bs2=bo ops base a s.b->az c cf ops base a oa {t:=aB s.t oi.dst v,b:=bs2}=some {t:=aB (aB s.t oi.dst v) oa.dst va,b:=bs2.set k .gone}:=fun v bs2 hb2=>by
   unfold az;simp only [(ha0 v [] 0).2,hwa,ala,hb2,(ha0 v _ _).1,hda,hsa,fp (eK hsa) hoi,hca,abB]
  rcases qt ali h2 with ⟨hw,rfl⟩ | ⟨hw,v,⟨hd,hro,rfl⟩ | ⟨y,hk,hde,hd,rfl⟩⟩ | ⟨_,_,_,_,_,⟨⟨h',_⟩,_⟩,_⟩ | ⟨_,_,_,_,h',_⟩ | ⟨_,_,_,_,h',_⟩
  ·simp only [(hi0 va [] 0).2] at hw;refine ⟨{t:=aB s.t oi.dst (.aL []),b:=s.b},by unfold az;rw [hw],?_⟩;rw [goA _ _ rfl,hput]
  ·simp only [(hi0 va [] 0).2] at hw;simp only [(hi0 va _ _).1] at hd;rw [da hoa hne hia hai q1] at hro
   have hd':bj c (cx cf (aV c ops i oi.op)) oi.op s.t (bo ops base i s.b) (bB ops.toList i base)=some (v,.none):=by
    rcases peekAt hoa hoi (by omega) hai hia (eK hsa) hbi' with h | ⟨p,q,hp,hq,hpm⟩
    ·rw [<-hd];exact alloc_eq h _ _ _ _ _ _ _
    ·rw [<-hd];unfold bo;refine (Cz hp ?_ _).symm;have h:=hro;unfold cg at h;rw [rG hp] at h;simp only [hq,vz hoa ala (eK hsa),abF,abE,abj] at h;rw [Cw h.1];rw [abH] at hca;exact hca q hpm
   refine ⟨{t:=aB s.t oi.dst v,b:=s.b},by unfold az;simp only [hw,ali,hd',hro],?_⟩;rw [goA _ _ rfl,hput]
  ·simp only [(hi0 va [] 0).2] at hw;simp only [(hi0 va _ _).1] at hd
   have hal:jk oi.op=true:=by
    rcases peekAt hoa hoi (by omega) hai hia (eK hsa) hbi' with h | ⟨p,q,hp,hq,hpm⟩
    ·exact h
    ·have:=(jw hp).1;rw [hk] at this;cases this
   have hne2:k≠bB ops.toList i base:=notId (ox:=oa) hoi hk hia hbk;rw [alloc_eq hal _ (cx cf (aV c ops i oi.op)) _ s.t _ (bo ops base i s.b)] at hd;rw [aaG hne2] at hde;refine ⟨{t:=aB s.t oi.dst v,b:=s.b.set (bB ops.toList i base) y},by unfold az;simp only [hw,ali,hd,hk,hde],?_⟩;rw [goA _ _ (hmi hk _ _),hput,aaX _ _ hne2]
  ·rw [hst] at h';cases h'
  ·rw [hap] at h';cases h'
  ·rw [hea] at h';cases h'
 by_cases hEi:aW ops s1.t oi.guard=some true∧ ∃v k,bj c (cx cf (aV c ops i oi.op)) oi.op s1.t (bo ops base i s1.b) (bB ops.toList i base)=some (v,.qg k)∧fB c ops i oi.op=true∧((eI ops i).all fun p=>rB k (s1.t.get .any p))=true∧s2={t:=aB s1.t oi.dst v,b:=s1.b.set k .gone}
 ·obtain ⟨hwi,vi,k,hdi,hsi,hci,rfl⟩:=hEi;obtain ⟨hnst,hncl⟩:=softAt hoi hoa (by omega) hia hai (eK hsi) hba';have hst:bg ops a oa.op=false:=by unfold bg;rw [hnst];rfl
  have hap:aV c ops a oa.op=false:=by unfold aV;rw [iu hncl];rfl
  have hea:fB c ops a oa.op=false:=by unfold fB;rw [AG hncl];rfl
  have hiE:wy c oi.op=true:=by have h:=hsi;simp only [fB,abj] at h;exact h.1.1
  obtain ⟨sh,sz,es,hbk,_⟩:=AH hiE hdi
  have main: ∀va bs1,s1={t:=aB s.t oa.dst va,b:=bs1}->bo ops base i bs1=bo ops base i s.b->az c cf ops base i oi s=some {t:=aB s.t oi.dst vi,b:=s.b.set k .gone}∧ ∀p∈eI ops i,rB k (s.t.get .any p)=true:=by intro va bs1 e hb;subst e;simp only [(hi0 va [] 0).2] at hwi;simp only [(hi0 va _ _).1,hb] at hdi;rw [fp (eK hsi) hoa] at hci;refine ⟨?_,by rw [abH] at hci;exact hci⟩;unfold az;simp only [hwi,ali,hsi,hdi,hci,abB]
  rcases qt ala h1 with ⟨hw,rfl⟩ | ⟨hw,v,⟨hd,hro,rfl⟩ | ⟨y,hk,hde,hd,rfl⟩⟩ | ⟨_,_,_,_,_,⟨⟨h',_⟩,_⟩,_⟩ | ⟨_,_,_,_,h',_⟩ | ⟨_,_,_,_,h',_⟩
  ·refine ⟨_,(main _ _ rfl rfl).1,?_⟩;unfold az;simp only [(ha0 vi [] 0).2,hw];rw [hput]
  ·obtain ⟨m1,m2⟩:=main _ _ rfl rfl;refine ⟨_,m1,?_⟩
   have hd':bj c (cx cf (aV c ops a oa.op)) oa.op s.t (bo ops base a (s.b.set k .gone)) (bB ops.toList a base)=some (v,.none):=by
    rcases peekAt hoi hoa (by omega) hia hai (eK hsi) hba' with h | ⟨p,q,hp,hq,hpm⟩
    ·rw [<-hd];exact alloc_eq h _ _ _ _ _ _ _
    ·rw [<-hd];unfold bo;refine Cz hp ?_ _;have h:=hro;unfold cg at h;rw [rG hp] at h;simp only [hq,vz hoi ali (eK hsi),abF,abE,abj] at h;rw [Cw h.1];exact m2 q hpm
   unfold az;simp only [(ha0 vi [] 0).2,hw,ala,(ha0 vi _ _).1,hd',da hoi hne' hai hia q3,hro];rw [hput]
  ·obtain ⟨m1,m2⟩:=main _ _ rfl (hma hk _ _);refine ⟨_,m1,?_⟩
   have hal:jk oa.op=true:=by
    rcases peekAt hoi hoa (by omega) hia hai (eK hsi) hba' with h | ⟨p,q,hp,hq,hpm⟩
    ·exact h
    ·have:=(jw hp).1;rw [hk] at this;cases this
   have hne2:k≠bB ops.toList a base:=notId (ox:=oi) hoa hk hai hbk;rw [alloc_eq hal _ (cx cf (aV c ops a oa.op)) _ (aB s.t oi.dst vi) _ (bo ops base a (s.b.set k .gone))] at hd;have hde':(s.b.set k .gone)[bB ops.toList a base]?=some .dead:=by rw [aaG hne2];exact hde
   unfold az;simp only [(ha0 vi [] 0).2,hw,ala,hd,hk,hde'];rw [hput,aaX _ _ hne2]
  ·rw [hst] at h';cases h'
  ·rw [hap] at h';cases h'
  ·rw [hea] at h';cases h'
 have softI4:=uA ali h2 hEi;have softA4:=uA ala h1 hEa
 /- a store beside what looks on: the one's step turns box k; the other one's is the same ahead of it and behind it -/
 have mateAt: ∀{x y:Nat} {ox oy:Oper},ops[x]?=some ox->ops[y]?=some oy->y≠x->ordered (fo ops) x y=false->ordered (fo ops) y x=false->bg ops x ox.op=true->blind oy.op=false->
   jb ops y ox.op oy.op=true∧ ∀p,de oy.op=some p-> ∃q,iq ops y p=some q∧q∈gS ops x:=by
  intro x y ox oy _ hy hne h1 h2 hs hb;have hs':=hs;simp only [bg,abj] at hs';have hm:=qu ops.toList 0 y oy hs'.1.2 (by simpa using hy);have hneb:(0+y==x)=false:=by simpa using hne
  rw [hneb,abz,h1,h2] at hm;have hm':jb ops y ox.op oy.op=true:=by simpa using hm
  refine ⟨hm',fun p hp=> ?_⟩;obtain ⟨hb1,hl1⟩:=wL hp;have hm2:=hm';unfold jb at hm2;rw [hb1,hl1] at hm2;simp only [abD,abG,abE] at hm2;cases hr:fK ops y oy.op with
  | none=>rw [hr] at hm2;cases hm2
  | some q=>obtain ⟨p',hp',hq⟩:=lJ hr;rw [hp] at hp';cases hp';refine ⟨q,hq,Cq ops.toList 0 y oy (by simpa using hy) (by rw [abz];exact hr) ?_⟩;rw [hneb,abz,h1,h2];rfl
 have storeAt: ∀{x:Nat} {ox:Oper} {t:Env} {bs:List ad} {v:AV} {k:Nat} {y:ad},rj ox.op y=true->bj c (cx cf (aV c ops x ox.op)) ox.op t (bo ops base x bs) (bB ops.toList x base)=some (v,.gQ k y)->cA ox.op=true-> ∃ty' cs',ad.at bs k= .var ty' cs':=by
  intro x ox t bs v k y hy hd hst
  obtain ⟨ty,cs,rfl⟩: ∃ty cs,y= .var ty cs:=by
   cases y with
   | var ty cs=>exact ⟨ty,cs,rfl⟩
   | sl sh sz es=>exfalso;cases ho:ox.op <;> rw [ho] at hst hy <;> simp only [cA,aav] at hst;cases hy
   | dead=>cases hy
   | loop st=>cases hy
   | mp es clock=>cases hy
   | gone=>cases hy
   | iter o=>cases hy
  obtain ⟨ty',cs',hv⟩:=H0 hst hd k ty cs rfl;exact ⟨ty',cs',(dQ _ bs).var hv⟩
 by_cases hSa:aW ops s.t oa.guard=some true∧ ∃v k y,bj c (cx cf (aV c ops a oa.op)) oa.op s.t (bo ops base a s.b) (bB ops.toList a base)=some (v,.gQ k y)∧((bg ops a oa.op=true∧rj oa.op y=true)∧cg c ops a oa.op s.t=true)∧((gS ops a).all fun p=>fA k (s.t.get .any p))=true∧s1={t:=aB s.t oa.dst v,b:=s.b.set k y}
 ·obtain ⟨hwa,va,k,y,hda,⟨⟨hsa,hya⟩,hra⟩,hca,rfl⟩:=hSa;have hga:=Cu hoa ala hsa;obtain ⟨hmate,hnear⟩:=mateAt hoa hoi (by omega) hai hia hsa hbi';obtain ⟨hask,hncl⟩:=yZ hmate hbi';have hvar:=storeAt hya hda
  have hcp:cg c ops i oi.op s.t=true-> ∀p,de oi.op=some p->fA k (s.t.get .any p)=true:=fun hr p hp=>by
   obtain ⟨q,hq,hqn⟩:=hnear p hp;rw [abH] at hca;exact y5 hga hr hp hq (hca q hqn)
  have goA: ∀v,az c cf ops base a oa {t:=aB s.t oi.dst v,b:=s.b}=some {t:=aB (aB s.t oi.dst v) oa.dst va,b:=s.b.set k y}:=fun v=>by
   unfold az;simp only [(ha0 v [] 0).2,hwa,ala,(ha0 v _ _).1,hda,hsa,hya,da hoi hne' hai hia q3,hra,jv hsa hoi hne' hai hia,hca,abB]
  rcases softI4 with ⟨hw,rfl⟩ | ⟨hw,v,⟨hd,hro,rfl⟩ | ⟨x,hk,_⟩⟩ | ⟨hw,v,k',y',hd,⟨⟨hs',_⟩,hrr⟩,_⟩ | ⟨_,_,_,_,hap',_⟩
  ·simp only [(hi0 va [] 0).2] at hw;refine ⟨{t:=aB s.t oi.dst (.aL []),b:=s.b},by unfold az;rw [hw],?_⟩;rw [goA,hput]
  ·simp only [(hi0 va [] 0).2] at hw;simp only [(hi0 va _ _).1] at hd;unfold bo at hd;rw [da hoa hne hia hai q1] at hro;rw [yY hmate hbi' hya hvar (hcp hro)] at hd;refine ⟨{t:=aB s.t oi.dst v,b:=s.b},by unfold az bo;simp only [hw,ali,hd,hro],?_⟩;rw [goA,hput]
  ·rw [hask] at hk;cases hk
  ·simp only [bg,abj] at hs';simp only [(hi0 va [] 0).2] at hw;simp only [(hi0 va _ _).1] at hd;rw [da hoa hne hia hai q1] at hrr;rw [E4 hmate hbi' (hcp hrr) hd] at hs';exact absurd hs'.1.1 (by simp)
  ·simp only [aV,iu hncl,abD,aav] at hap'
 by_cases hSi:aW ops s1.t oi.guard=some true∧ ∃v k y,bj c (cx cf (aV c ops i oi.op)) oi.op s1.t (bo ops base i s1.b) (bB ops.toList i base)=some (v,.gQ k y)∧((bg ops i oi.op=true∧rj oi.op y=true)∧cg c ops i oi.op s1.t=true)∧((gS ops i).all fun p=>fA k (s1.t.get .any p))=true∧s2={t:=aB s1.t oi.dst v,b:=s1.b.set k y}
 ·obtain ⟨hwi,vi,k,y,hdi,⟨⟨hsi,hyi⟩,hri⟩,hci,rfl⟩:=hSi;have hgi:=Cu hoi ali hsi;obtain ⟨hmate,hnear⟩:=mateAt hoi hoa (by omega) hia hai hsi hba';obtain ⟨hask,hncl⟩:=yZ hmate hba';have hvar:=storeAt hyi hdi
  have main: ∀va,s1={t:=aB s.t oa.dst va,b:=s.b}->az c cf ops base i oi s=some {t:=aB s.t oi.dst vi,b:=s.b.set k y}:=by intro va e;subst e;simp only [(hi0 va [] 0).2] at hwi;simp only [(hi0 va _ _).1] at hdi;rw [jv hsi hoa hne hia hai] at hci;rw [da hoa hne hia hai q1] at hri;unfold az;simp only [hwi,ali,hdi,hsi,hyi,hri,hci,abB]
  rcases softA4 with ⟨hw,rfl⟩ | ⟨hw,v,⟨hd,hro,rfl⟩ | ⟨x,hk,_⟩⟩ | hh | ⟨_,_,_,_,hap',_⟩
  rotate_right
  ·simp only [aV,iu hncl,abD,aav] at hap'
  ·refine ⟨_,main _ rfl,?_⟩;unfold az;simp only [(ha0 vi [] 0).2,hw];rw [hput]
  ·refine ⟨_,main _ rfl,?_⟩
   have hcp': ∀p,de oa.op=some p->fA k (s.t.get .any p)=true:=fun p hp=>by
    obtain ⟨q,hq,hqn⟩:=hnear p hp;rw [jv hsi hoa hne hia hai,abH] at hci;exact y5 hgi hro hp hq (hci q hqn)
   have hd':=yY (c:=c) (cf:=cx cf (aV c ops a oa.op)) (x:=y) (ms:=dc (fo ops) a ops.toList 0 base) hmate hba' hyi hvar hcp' (bB ops.toList a base);unfold bo at hd;rw [hd] at hd';unfold az bo;simp only [(ha0 vi [] 0).2,hw,ala,(ha0 vi _ _).1,hd',da hoi hne' hai hia q3,hro];rw [hput]
  ·rw [hask] at hk;cases hk
  ·exact absurd hh hSa
 by_cases hPa:aW ops s.t oa.guard=some true∧ ∃v x,bj c (cx cf (aV c ops a oa.op)) oa.op s.t (bo ops base a s.b) (bB ops.toList a base)=some (v,.app x)∧aV c ops a oa.op=true∧((eI ops a).all fun p=>nT s.b.length (s.t.get .any p))=true∧s1={t:=aB s.t oa.dst v,b:=s.b++ [x]}
 ·obtain ⟨hwa,va,x,hda,hsa,hca,rfl⟩:=hPa;rcases peekAt hoa hoi (by omega) hai hia (fL hsa) hbi' with hal | ⟨p,q,hp,hq,hpm⟩
  ·obtain ⟨hnst,hncl⟩:=qv hal
   have hxd:x≠ .dead:=Nk (wO (by
    have h:=hsa;simp only [aV,abj] at h;exact h.1.1)) hda
   have goA: ∀v bs2,bo ops base a bs2=bo ops base a s.b->bs2.length=s.b.length->az c cf ops base a oa {t:=aB s.t oi.dst v,b:=bs2}=some {t:=aB (aB s.t oi.dst v) oa.dst va,b:=bs2++ [x]}:=fun v bs2 hb2 hb3=>by
    unfold az;rw [hsa] at hda;simp only [(ha0 v [] 0).2,hwa,ala,hsa,hb2,hb3,(ha1 (cx cf true) v _ _).1,hda,fp (fL hsa) hoi,hca,abB]
   rcases softI4 with ⟨hw,rfl⟩ | ⟨hw,v,⟨hd,hro,rfl⟩ | ⟨y,hk,hde,hd,rfl⟩⟩ | ⟨_,_,_,_,_,⟨⟨h',_⟩,_⟩,_⟩ | ⟨_,_,_,_,h',_⟩
   ·simp only [(hi0 va [] 0).2] at hw;refine ⟨{t:=aB s.t oi.dst (.aL []),b:=s.b},by unfold az;rw [hw],?_⟩;rw [goA _ _ rfl rfl,hput]
   ·simp only [(hi0 va [] 0).2] at hw;rw [da hoa hne hia hai q1] at hro;rw [alloc_eq hal _ (cx cf (aV c ops i oi.op)) _ s.t _ (bo ops base i s.b)] at hd;refine ⟨{t:=aB s.t oi.dst v,b:=s.b},by unfold az;simp only [hw,ali,hd,hro],?_⟩;rw [goA _ _ rfl rfl,hput]
   ·simp only [(hi0 va [] 0).2] at hw;rw [alloc_eq hal _ (cx cf (aV c ops i oi.op)) _ s.t _ (bo ops base i s.b)] at hd
    have hlt:bB ops.toList i base<s.b.length:=by
     rcases abm (bB ops.toList i base) s.b.length with h | h
     ·exact h
     ·simp only at hde;rw [List.getElem?_append_right h] at hde;rcases hz:bB ops.toList i base-s.b.length with _ | n
      ·rw [hz] at hde;simp only [abu,Option.some.injEq] at hde;exact absurd hde hxd
      ·rw [hz] at hde;simp at hde
    simp only at hde;rw [abt hlt] at hde;refine ⟨{t:=aB s.t oi.dst v,b:=s.b.set (bB ops.toList i base) y},by unfold az;simp only [hw,ali,hd,hk,hde],?_⟩;rw [goA _ _ (hmi hk _ _) (abM ..),hput];simp only;rw [aaW _ _ hlt]
   ·simp only [bg,hnst,abD,aav] at h'
   ·simp only [aV,iu hncl,abD,aav] at h'
  obtain ⟨hask,hnst,hncl⟩:=jw hp
  have hcq:nT s.b.length (s.t.get .any q)=true:=by rw [abH] at hca;exact hca q hpm
  have hany:=vz hoa ala (fL hsa)
  have hcp:cg c ops i oi.op s.t=true->nT s.b.length (s.t.get .any p)=true:=fun h=>by
   unfold cg at h;rw [rG hp] at h;simp only [hq,hany,abF,abE,abj] at h;have h:=h.1;rw [Cx h];exact hcq
  have goA: ∀v,az c cf ops base a oa {t:=aB s.t oi.dst v,b:=s.b}=some {t:=aB (aB s.t oi.dst v) oa.dst va,b:=s.b++ [x]}:=fun v=>by
   unfold az;rw [hsa] at hda;simp only [(ha0 v [] 0).2,hwa,ala,hsa,(ha1 (cx cf true) v _ _).1,hda,fp (fL hsa) hoi,hca,abB]
  rcases softI4 with ⟨hw,rfl⟩ | ⟨hw,v,⟨hd,hro,rfl⟩ | ⟨y,hk,_⟩⟩ | ⟨hw,v,k',y',hd,⟨⟨hs',_⟩,hrr⟩,_⟩ | ⟨_,_,_,_,hap',_⟩
  ·simp only [(hi0 va [] 0).2] at hw;refine ⟨{t:=aB s.t oi.dst (.aL []),b:=s.b},by unfold az;rw [hw],?_⟩;rw [goA,hput]
  ·simp only [(hi0 va [] 0).2] at hw;simp only [(hi0 va _ _).1] at hd;unfold bo at hd;rw [da hoa hne hia hai q1] at hro;rw [y8 hp (hcp hro)] at hd;refine ⟨{t:=aB s.t oi.dst v,b:=s.b},by unfold az bo;simp only [hw,ali,hd,hro],?_⟩;rw [goA,hput]
  ·rw [hask] at hk;cases hk
  ·simp only [bg,abj] at hs';rw [hnst] at hs';exact absurd hs'.1.1 (by simp)
  ·simp only [aV,iu hncl,abD,aav] at hap'
 by_cases hPi:aW ops s1.t oi.guard=some true∧ ∃v x,bj c (cx cf (aV c ops i oi.op)) oi.op s1.t (bo ops base i s1.b) (bB ops.toList i base)=some (v,.app x)∧aV c ops i oi.op=true∧((eI ops i).all fun p=>nT s1.b.length (s1.t.get .any p))=true∧s2={t:=aB s1.t oi.dst v,b:=s1.b++ [x]}
 ·obtain ⟨hwi,vi,x,hdi,hsi,hci,rfl⟩:=hPi;rcases peekAt hoi hoa (by omega) hia hai (fL hsi) hba' with hal | ⟨p,q,hp,hq,hpm⟩
  ·obtain ⟨hnst,hncl⟩:=qv hal
   have main: ∀va bs1,s1={t:=aB s.t oa.dst va,b:=bs1}->bo ops base i bs1=bo ops base i s.b->bs1.length=s.b.length->az c cf ops base i oi s=some {t:=aB s.t oi.dst vi,b:=s.b++ [x]}:=by intro va bs1 e hb hb2;subst e;simp only [(hi0 va [] 0).2] at hwi;simp only [(hi0 va _ _).1,hb] at hdi;rw [fp (fL hsi) hoa] at hci;simp only [hb2] at hci;unfold az;rw [hsi] at hdi;simp only [hwi,ali,hsi,hdi,hci,abB]
   rcases softA4 with ⟨hw,rfl⟩ | ⟨hw,v,⟨hd,hro,rfl⟩ | ⟨y,hk,hde,hd,rfl⟩⟩ | ⟨_,_,_,_,_,⟨⟨h',_⟩,_⟩,_⟩ | ⟨_,_,_,_,h',_⟩
   ·refine ⟨_,main _ _ rfl rfl rfl,?_⟩;unfold az;simp only [(ha0 vi [] 0).2,hw];rw [hput]
   ·refine ⟨_,main _ _ rfl rfl rfl,?_⟩;rw [alloc_eq hal _ (cx cf (aV c ops a oa.op)) _ (aB s.t oi.dst vi) _ (bo ops base a (s.b++ [x]))] at hd;unfold az;simp only [(ha0 vi [] 0).2,hw,ala,hd,da hoi hne' hai hia q3,hro];rw [hput]
   ·refine ⟨_,main _ _ rfl (hma hk _ _) (abM ..),?_⟩;rw [alloc_eq hal _ (cx cf (aV c ops a oa.op)) _ (aB s.t oi.dst vi) _ (bo ops base a (s.b++ [x]))] at hd
    have hlt:bB ops.toList a base<s.b.length:=by
     rcases abm (bB ops.toList a base) s.b.length with h | h
     ·exact h
     ·rw [abv h] at hde;cases hde
    have hde':(s.b++ [x])[bB ops.toList a base]?=some .dead:=by rw [abt hlt];exact hde
    unfold az;simp only [(ha0 vi [] 0).2,hw,ala,hd,hk,hde'];rw [hput,aaW _ _ hlt]
   ·simp only [bg,hnst,abD,aav] at h'
   ·simp only [aV,iu hncl,abD,aav] at h'
  obtain ⟨hask,hnst,hncl⟩:=jw hp
  have main: ∀va,s1={t:=aB s.t oa.dst va,b:=s.b}->az c cf ops base i oi s=some {t:=aB s.t oi.dst vi,b:=s.b++ [x]}∧nT s.b.length (s.t.get .any q)=true:=by
   intro va e;subst e;simp only [(hi0 va [] 0).2] at hwi;simp only [(hi0 va _ _).1] at hdi;rw [fp (fL hsi) hoa] at hci;refine ⟨?_,?_⟩
   ·unfold az;rw [hsi] at hdi;simp only [hwi,ali,hsi,hdi,hci,abB]
   ·rw [abH] at hci;exact hci q hpm
  rcases softA4 with ⟨hw,rfl⟩ | ⟨hw,v,⟨hd,hro,rfl⟩ | ⟨y,hk,_⟩⟩ | hh | ⟨_,_,_,_,hap',_⟩
  ·refine ⟨_,(main _ rfl).1,?_⟩;unfold az;simp only [(ha0 vi [] 0).2,hw];rw [hput]
  ·obtain ⟨m1,m2⟩:=main _ rfl;refine ⟨_,m1,?_⟩
   have m2:nT s.b.length (s.t.get .any p)=true:=by have h:=hro;unfold cg at h;rw [rG hp] at h;simp only [hq,vz hoi ali (fL hsi),abF,abE,abj] at h;have h:=h.1;rw [Cx h];exact m2
   have hd':=y8 (c:=c) (cf:=cx cf (aV c ops a oa.op)) (x:=x) (ms:=dc (fo ops) a ops.toList 0 base) hp m2 (bB ops.toList a base);unfold bo at hd;rw [hd] at hd';unfold az bo;simp only [(ha0 vi [] 0).2,hw,ala,(ha0 vi _ _).1,hd',da hoi hne' hai hia q3,hro];rw [hput]
  ·rw [hask] at hk;cases hk
  ·exact absurd hh hSa
  ·simp only [aV,iu hncl,abD,aav] at hap'
 /- the second operation, taken first -/
 have goI: ∀(va:AV) (bs1:List ad),s1={t:=aB s.t oa.dst va,b:=bs1}->bo ops base i bs1=bo ops base i s.b->(asks oi.op=true->bs1[bB ops.toList i base]?=s.b[bB ops.toList i base]?)->
   ∃(vi:AV) (f:List ad->List ad),az c cf ops base i oi s=some {t:=aB s.t oi.dst vi,b:=f s.b}∧s2={t:=aB (aB s.t oa.dst va) oi.dst vi,b:=f bs1}∧
    (f=id∨(asks oi.op=true∧ ∃y,f=fun bs=>bs.set (bB ops.toList i base) y)):=by
  intro va bs1 hs1 hmask hdead;subst hs1;rcases softI4 with ⟨hw,rfl⟩ | ⟨hw,v,⟨hd,hro,rfl⟩ | ⟨x,hask,hde,hd,rfl⟩⟩ | hh | hh
  case' inr.inr.inl=>exact absurd hh hSi
  case' inr.inr.inr=>exact absurd hh hPi
  ·simp only at hw;rw [(hi0 va [] 0).2] at hw;exact ⟨.aL [],id,by unfold az;rw [hw];rfl,rfl,.inl rfl⟩
  ·simp only at hw hd;rw [(hi0 va [] 0).2] at hw;rw [(hi0 va _ _).1,hmask] at hd;have hro':cg c ops i oi.op s.t=true:=by rw [<-da hoa hne hia hai q1];exact hro
   exact ⟨v,id,by unfold az;rw [hw,ali];simp only [hd,hro'];rfl,rfl,.inl rfl⟩
  ·simp only at hw hd hde;rw [(hi0 va [] 0).2] at hw;rw [(hi0 va _ _).1,hmask] at hd;rw [hdead hask] at hde;exact ⟨v,fun bs=>bs.set (bB ops.toList i base) x,by unfold az;rw [hw,ali];simp only [hd,hask,hde],rfl,.inr ⟨hask,x,rfl⟩⟩
 /- the first operation, taken second -/
 have fin: ∀(vi:AV) (f:List ad->List ad),(f=id∨(asks oi.op=true∧ ∃y,f=fun bs=>bs.set (bB ops.toList i base) y))-> ∀(va:AV) (h:List ad->List ad),(h=id∨(asks oa.op=true∧ ∃x,h=fun bs=>bs.set (bB ops.toList a base) x))->
   ({t:=aB (aB s.t oa.dst va) oi.dst vi,b:=f (h s.b)}:St)={t:=aB (aB s.t oi.dst vi) oa.dst va,b:=h (f s.b)}:=by
  intro vi f hf va h hh;rw [hput va vi];congr 1;rcases hf with rfl | ⟨hai',y,rfl⟩ <;> rcases hh with rfl | ⟨haa,x,rfl⟩ <;> try rfl
  simp only;exact aaX _ _ (hidn haa)
 have maskF: ∀(f:List ad->List ad),(f=id∨(asks oi.op=true∧ ∃y,f=fun bs=>bs.set (bB ops.toList i base) y))->bo ops base a (f s.b)=bo ops base a s.b:=fun f hf=>by
  rcases hf with rfl | ⟨h,y,rfl⟩
  ·rfl
  ·exact hmi h s.b y
 rcases softA4 with ⟨hw,hs1⟩ | ⟨hw,va,⟨hd,hro,hs1⟩ | ⟨x,hask,hde,hd,hs1⟩⟩ | hh | hh
 case' inr.inr.inl=>exact absurd hh hSa
 case' inr.inr.inr=>exact absurd hh hPa
 ·obtain ⟨vi,f,k1,k2,k3⟩:=goI _ _ hs1 rfl (fun _=>rfl);refine ⟨_,k1,?_⟩;unfold az;simp only;rw [(ha0 vi [] 0).2,hw];simp only;rw [k2];exact congrArg some (fin vi f k3 (.aL []) id (.inl rfl)).symm
 ·obtain ⟨vi,f,k1,k2,k3⟩:=goI _ _ hs1 rfl (fun _=>rfl);refine ⟨_,k1,?_⟩;unfold az;simp only;rw [(ha0 vi [] 0).2,hw,ala];simp only;rw [(ha0 vi _ _).1,maskF f k3,hd];simp only [da hoi hne' hai hia q3,hro];rw [k2];exact congrArg some (fin vi f k3 va id (.inl rfl)).symm
 ·obtain ⟨vi,f,k1,k2,k3⟩:=goI _ _ hs1 (hma hask s.b x) (fun _=>by rw [abK,if_neg (hidn hask)]);refine ⟨_,k1,?_⟩;unfold az;simp only;rw [(ha0 vi [] 0).2,hw,ala];simp only;rw [(ha0 vi _ _).1,maskF f k3,hd]
  have hde':(f s.b)[bB ops.toList a base]?=some .dead:=by
   rcases k3 with rfl | ⟨hai',y,rfl⟩
   ·exact hde
   ·simp only;rw [abK,if_neg (fun e=>hidn hask e.symm)];exact hde
  simp only [hask,hde'];rw [k2];exact congrArg some (fin vi f k3 va (fun bs=>bs.set (bB ops.toList a base) x) (.inr ⟨hask,x,rfl⟩)).symm
def steps (c:av) (cf:aF) (ops:Array Oper) (base:Nat):List Nat->St->Option St
 | [],s=>some s
 | i::r,s=>match ops[i]? with
  | some o=>match az c cf ops base i o s with
   | some s'=>steps c cf ops base r s'
   | none=>none
  | none=>none
theorem mE: ∀(l:List Oper) (k:Nat) (s:St),(∀j,l[j]?=ops[k+j]?)->HU c cf ops base l k s=steps c cf ops base (List.range' k l.length) s
 | [],k,s,_=>rfl
 | o::r,k,s,h=>by
  have h0:ops[k]?=some o:=by simpa using (h 0).symm
  simp only [HU,aaH,List.range'_succ,steps,h0];cases hs:az c cf ops base k o s with
  | none=>rfl
  | some s'=>simp only;exact mE r (k+1) s' (fun j=>by have:=h (j+1);simpa [Nat.add_assoc,Nat.add_comm 1 j] using this)
theorem wP {i:Nat} {oi:Oper} (hoi:ops[i]?=some oi): ∀(A B:List Nat) (s s':St),(∀a∈A,a<i∧ordered (fo ops) a i=false∧ordered (fo ops) i a=false∧ ∀oa,ops[a]?=some oa->oa.apart ops oi=true)->
  steps c cf ops base (A++i::B) s=some s'-> ∃s1,az c cf ops base i oi s=some s1∧steps c cf ops base (A++B) s1=some s'
 | [],B,s,s',_,h=>by
  simp only [List.nil_append,steps,hoi] at h;split at h
  ·rename_i s1 hs1;exact ⟨s1,hs1,h⟩
  ·cases h
 | a::A,B,s,s',hA,h=>by
  simp only [abI,steps] at h;split at h
  ·rename_i oa hoa;split at h
   ·rename_i s1 hs1;obtain ⟨s2,h2,h3⟩:=wP hoi A B s1 s' (fun x hx=>hA x (abO _ hx)) h;obtain ⟨q1,q2,q3,q4⟩:=hA a aaR;obtain ⟨s1',k1,k2⟩:=comm hoa hoi q1 (q4 oa hoa) q2 q3 hs1 h2;exact ⟨s1',k1,by simp only [abI,steps,hoa,k2];exact h3⟩
   ·cases h
  ·cases h
variable {P:Program} [Kn]
theorem CD (hc:bP c P) (hcf:qo P cf) (hov:Cn P c) (hdr:sY ops=true) {Q:Exit->Act->World->Prop} {s':St} {g0:Gh} {w0:World} {ds:List Deferred} {ro:Option Nat}
  (hQ: ∀a' w',GS ds g0 w0 s' a' w'->Q .normal a' w'):
  ∀(fuel:Nat) (L:List Nat) (listed:Array Bool) (s:St) (g:Gh) (w:World) (a:Act),L.length=fuel->L.Pairwise (· < ·)->listed.size=ops.size->(∀j,j∈L↔j<ops.size∧listed.getD j true=false)->
   (∀j x,j<ops.size->listed.getD j true=true->ordered (fo ops) x j=true->listed.getD x true=true)->
   steps c cf ops base L s=some s'->Mem g s.b w->fW g w s.t a->a.defers=ds->Le g0 w0 g w->Fr g0 w0 g w->wpAnyIn (FW ro) 0 P .any ops Q fuel listed a w:=by
 simp only [sY,abj] at hdr;obtain ⟨hback,hpairs⟩:=hdr;intro fuel
 induction fuel with
 | zero=>intro L listed s g w a hlen hsort hsize hmem hcl h hm ht hd hl hf;have hL:L= []:=List.eq_nil_of_length_eq_zero hlen;subst hL;cases h;refine ⟨?_,hQ a w ⟨hd,g,hm,ht,hl,hf⟩⟩;unfold Region.ready;rw [abJ];intro j hj hr;rw [abl] at hj;simp only [abj,aax] at hr;exact absurd ((hmem j).2 ⟨hj,hr.1⟩) (by simp)
 | succ fuel ih=>
  intro L listed s g w a hlen hsort hsize hmem hcl h hm ht hd hl hf;refine ⟨fun hr=> ?_,fun i hi=> ?_⟩
  ·exfalso;cases L with
   | nil=>simp at hlen
   | cons i0 L=>
    obtain ⟨h1,h2⟩:=(hmem i0).1 aaR
    have:i0∈Region.ready .any ops listed:=by
     unfold Region.ready;rw [abP,abl];refine ⟨h1,?_⟩;have ho:ops[i0]?=some ops[i0]:=by simp [h1]
     simp only [h2,ho,aa1,abn,Bool.not_false,Bool.true_and,abe];intro e he;cases hb:Region.binds .any e with
     | false=>rfl
     | true=>
      have hlt:=ia ops.toList 0 i0 ops[i0] hback (by simp [h1]) e he hb;simp only [abz] at hlt
      have hlis:listed.getD e.on true=true:=by
       cases hx:listed.getD e.on true with
       | true=>rfl
       | false=>
        have hin:=(hmem e.on).2 ⟨by omega,hx⟩;rcases aaQ.1 hin with rfl | hin
        ·omega
        ·have:=abS hsort hin;omega
      have hsz:e.on<listed.size:=by omega
      simp [hsz] at hlis⊢;exact hlis
    rw [hr] at this;cases this
  ·unfold Region.ready at hi;rw [abP,abl] at hi;obtain ⟨hisz,hi⟩:=hi;simp only [abj,aax] at hi;obtain ⟨hun,hrd⟩:=hi;have hoi:ops[i]?=some ops[i]:=by simp [hisz]
   rw [hoi] at hrd;simp only [aa1,abn,abe] at hrd
   have hall: ∀x,ordered (fo ops) x i=true->listed.getD x true=true:=fun x hx=>by
    obtain ⟨e,he,hb,h3⟩:=mC hback hoi hx;have h4:=hrd e he;rw [hb] at h4;have hlt:=ia ops.toList 0 i ops[i] hback (by simp [hisz]) e he hb;simp only [abz] at hlt;have hsz:e.on<listed.size:=by omega
    have h5:listed.getD e.on true=true:=by simp [hsz] at h4⊢;exact h4
    rcases h3 with rfl | h3
    ·exact h5
    ·exact hcl e.on x (by omega) h5 h3
   obtain ⟨A,B,rfl⟩:=List.append_of_mem ((hmem i).2 ⟨hisz,hun⟩)
   have hA: ∀x∈A,x<i∧ordered (fo ops) x i=false∧ordered (fo ops) i x=false∧ ∀ox,ops[x]?=some ox->ox.apart ops ops[i]=true:=fun x hx=>by
    have hlt:x<i:=(abR.1 hsort).2.2 x hx i aaR;obtain ⟨hxs,hxu⟩:=(hmem x).1 (List.mem_append_left _ hx)
    have h1:ordered (fo ops) x i=false:=by
     cases hh:ordered (fo ops) x i with
     | false=>rfl
     | true=>rw [hall x hh] at hxu;cases hxu
    have h2:ordered (fo ops) i x=false:=by
     cases hh:ordered (fo ops) i x with
     | false=>rfl
     | true=>have:=E1 hback x i hxs hh;omega
    refine ⟨hlt,h1,h2,fun ox hox=> ?_⟩;have:=Cp ops.toList 0 x i ox ops[i] hpairs (by simpa using hox) hlt (by simp [hisz]);simp only [abz,h1,aav,false_or] at this;exact this
   obtain ⟨s1,h1,h2⟩:=wP hoi A B s s' hA h
   have next: ∀(g':Gh) (w':World) (a':Act),Mem g' s1.b w'->fW g' w' s1.t a'->a'.defers=ds->Le g0 w0 g' w'->Fr g0 w0 g' w'->wpAnyIn (FW ro) 0 P .any ops Q fuel (listed.setIfInBounds i true) a' w':=fun g' w' a' hm' ht' hd' hl' hf'=>by
    refine ih (A++B) (listed.setIfInBounds i true) s1 g' w' a' (by simp at hlen⊢;omega) ?_ (by simp [hsize]) (fun j=> ?_) (fun j x hj hlj hx=> ?_) h2 hm' ht' hd' hl' hf'
    ·exact hsort.sublist (List.Sublist.append_left (List.sublist_cons_self i B) A)
    ·have hj:=hmem j
     have hnd:i∉A∧i∉B:=by
      obtain ⟨p1,p2,p3⟩:=abR.1 hsort;refine ⟨fun hx=> ?_,fun hx=> ?_⟩
      ·have:=p3 i hx i aaR;omega
      ·have:=abS p2 hx;omega
     by_cases e:j=i
     ·subst e;have hjs:j<listed.size:=by omega
      simp [hnd.1,hnd.2,hjs]
     ·rw [abN,aaQ] at hj
      have hg:(listed.setIfInBounds i true).getD j true=listed.getD j true:=by simp [abf,abi (Ne.symm e)]
      rw [hg,abN,<-hj];constructor
      ·rintro (hx | hx)
       ·exact .inl hx
       ·exact .inr (.inr hx)
      ·rintro (hx | rfl | hx)
       ·exact .inl hx
       ·exact absurd rfl e
       ·exact .inr hx
    ·have hset: ∀y,listed.getD y true=true->(listed.setIfInBounds i true).getD y true=true:=fun y hy=>by
      by_cases e:y=i
      ·subst e;have hys:y<listed.size:=by omega
       simp [hys]
      ·simp only [abf] at hy⊢;rw [abi (Ne.symm e)];exact hy
     by_cases e:j=i
     ·subst e;exact hset x (hall x hx)
     ·have hg:listed.getD j true=true:=by
       simp only [abf] at hlj⊢
       rwa [abi (Ne.symm e)] at hlj
      exact hset x (hcl j x hj hg hx)
   unfold wpOpIn;rw [hoi];simp only;unfold az at h1;split at h1
   ·rename_i hw;rw [jO ht hw,if_pos rfl];split at h1
    ·split at h1
     ·rename_i v e hop;split at h1
      ·rename_i bs' he;cases h1;exact mF hc hcf hov hm ht hop he (fun v' w' g' k1 k2 k3 k4=>next g' w' _ k1 ((ht.mono k2).put _ k4) (by rw [put_defers];exact hd) (hl.trans k2) (hf.trans k3)) ro
      ·cases h1
     ·cases h1
    ·split at h1
     ·rename_i v hop;split at h1
      case h_2=>cases h1
      cases h1;have hop':=wQ (dQ _ s.b) (e:= .none) trivial hop;exact mF hc (nX hcf _) hov hm ht hop' rfl (fun v' w' g' k1 k2 k3 k4=>next g' w' _ k1 ((ht.mono k2).put _ k4) (by rw [put_defers];exact hd) (hl.trans k2) (hf.trans k3)) ro
     ·rename_i v x hop;split at h1
      ·rename_i hask hdead;cases h1;have hop':=wQ (dQ _ s.b) (e:= .new x) trivial hop;exact mF hc (nX hcf _) hov hm ht hop' (bs':=s.b.set (bB ops.toList i base) x) (by simp only [c9.on,hdead]) (fun v' w' g' k1 k2 k3 k4=>next g' w' _ k1 ((ht.mono k2).put _ k4) (by rw [put_defers];exact hd) (hl.trans k2) (hf.trans k3)) ro
      ·cases h1
     ·rename_i v k x hop;split at h1
      ·rename_i hcalm;cases h1;rw [abj,abj,abj] at hcalm
       have hop':bj c (cx cf (aV c ops i ops[i].op)) ops[i].op s.t s.b (bB ops.toList i base)=some (v,.gQ k x):=by
        have hx:=hcalm.1.1.2;cases x with
        | var ty cs=>exact H2 hx (dQ _ s.b) hop
        | sl sh sz es=>exact Kf hx (dQ _ s.b) hop
        | dead=>cases hx
        | loop st=>cases hx
        | mp es clock=>cases hx
        | gone=>cases hx
        | iter o=>cases hx
       exact mF hc (nX hcf _) hov hm ht hop' (bs':=s.b.set k x) rfl (fun v' w' g' k1 k2 k3 k4=>next g' w' _ k1 ((ht.mono k2).put _ k4) (by rw [put_defers];exact hd) (hl.trans k2) (hf.trans k3)) ro
      ·cases h1
     ·rename_i v x hop;split at h1
      ·rename_i hcalm;cases h1;rw [abj] at hcalm
       have hcv:cB ops[i].op=true:=by have:=hcalm.1;simp only [aV,abj] at this;exact wO this.1.1
       have hop':=Nj (dQ _ s.b) (nW _ s.b) hcv hop;exact mF hc (nX hcf _) hov hm ht hop' (bs':=s.b++ [x]) rfl (fun v' w' g' k1 k2 k3 k4=>next g' w' _ k1 ((ht.mono k2).put _ k4) (by rw [put_defers];exact hd) (hl.trans k2) (hf.trans k3)) ro
      ·cases h1
     ·rename_i v k hop;split at h1
      ·rename_i hcalm;cases h1;rw [abj] at hcalm
       have hiE:wy c ops[i].op=true:=by have h:=hcalm.1;simp only [fB,abj] at h;exact h.1.1
       obtain ⟨sh,sz,es,hbk,hgo⟩:=AH hiE hop;have hop':=hgo (cx cf (aV c ops i ops[i].op)) s.b (bB ops.toList i base) ((dQ _ s.b).sl hbk);exact mF hc (nX hcf _) hov hm ht hop' (bs':=s.b.set k .gone) rfl (fun v' w' g' k1 k2 k3 k4=>next g' w' _ k1 ((ht.mono k2).put _ k4) (by rw [put_defers];exact hd) (hl.trans k2) (hf.trans k3)) ro
      ·cases h1
     ·cases h1
   ·rename_i hw;cases h1;rw [jO ht hw,if_neg (by simp)];refine ⟨fun _ _=>trivial,?_⟩;exact next g w _ hm (ht.put _ (.aL [] #[] rfl (fun i c v h=>by simp at h))) (by rw [put_defers];exact hd) hl hf
   ·cases h1
end
end Go.Am
