/-
 Regions that draw their order: whatever order the tape picks, the abstract machine's lexical run describes the end.
-/
import Derived.Test.YtfnkchadeaedlaaGreatDoorAmMono
set_option linter.all false
namespace Go.Am
theorem C5 {m:List Nat} {o:Oper} {a:Nat} (h:(yN m o).testBit a=true): ∃e∈o.after,Region.binds .any e=true∧(a=e.on∨(m.getD e.on 0).testBit a=true):=by
 have key: ∀(l:List Edge) (s:Nat),(l.foldl (fun s e=>match Region.binds .any e with | true=>s ||| (2^e.on ||| m.getD e.on 0) | false=>s) s).testBit a=true→
   s.testBit a=true∨ ∃e∈l,Region.binds .any e=true∧(a=e.on∨(m.getD e.on 0).testBit a=true):=by
  intro l
  induction l with
  | nil=>intro s h;exact .inl h
  | cons e l ih=>
   intro s h;rw [List.foldl_cons] at h;rcases ih _ h with h1 | ⟨e',he',h2⟩
   ·split at h1
    ·rename_i hb;simp only [Nat.testBit_or,Bool.or_eq_true] at h1;rcases h1 with h1 | h1 | h1
     ·exact .inl h1
     ·refine .inr ⟨e,List.mem_cons_self,hb,.inl ?_⟩;rw [Nat.testBit_two_pow] at h1;exact (by simpa using h1:e.on=a).symm
     ·exact .inr ⟨e,List.mem_cons_self,hb,.inr h1⟩
    ·exact .inl h1
   ·exact .inr ⟨e',List.mem_cons_of_mem _ he',h2⟩
 rcases key o.after.toList 0 h with h1 | ⟨e,he,h2⟩
 ·simp at h1
 ·exact ⟨e,by simpa using he,h2⟩
theorem uL: ∀(l:List Oper) (m:List Nat) (j:Nat),j<m.length→(Ap l m).getD j 0=m.getD j 0
 | [],m,j,_=>rfl
 | o::r,m,j,h=>by
  simp only [Ap];rw [uL r _ j (by simp;omega)];simp only [List.getD_eq_getElem?_getD,List.getElem?_append_left h]
theorem EI: ∀(l:List Oper) (m:List Nat) (k:Nat) (o:Oper),l[k]?=some o→ ∃m',(Ap l m).getD (m.length+k) 0=yN m' o∧ ∀j,j<m.length+k→(Ap l m).getD j 0=m'.getD j 0
 | [],m,k,o,h=>by simp at h
 | p::r,m,0,o,h=>by
  simp at h;subst h;refine ⟨m,?_,fun j hj=>uL (p::r) m j hj⟩;simp only [Ap,Nat.add_zero];rw [uL r _ m.length (by simp)];simp [List.getD_eq_getElem?_getD]
 | p::r,m,k+1,o,h=>by
  simp at h;obtain ⟨m',h1,h2⟩:=EI r (m++ [yN m p]) k o h;simp only [Ap];simp only [List.length_append,List.length_cons,List.length_nil] at h1 h2;exact ⟨m',by rw [←h1];congr 1;omega,fun j hj=>h2 j (by omega)⟩
theorem gw: ∀(l:List Oper) (k i:Nat) (o:Oper),cQ l k=true→l[i]?=some o→ ∀e∈o.after,Region.binds .any e=true→e.on<k+i
 | [],k,i,o,_,h=>by simp at h
 | p::r,k,0,o,hb,h=>by
  simp at h;subst h;simp only [cQ,Bool.and_eq_true,List.all_eq_true] at hb;intro e he hbe;have:=hb.1 e (by simpa using he);simpa [hbe] using this
 | p::r,k,i+1,o,hb,h=>by
  simp at h;simp only [cQ,Bool.and_eq_true] at hb;intro e he hbe;have:=gw r (k+1) i o hb.2 h e he hbe;omega
theorem lC {ops:Array Oper} (hb:cQ ops.toList 0=true) {a i:Nat} {o:Oper} (ho:ops[i]?=some o) (h:ordered (fM ops) a i=true): ∃e∈o.after,Region.binds .any e=true∧(a=e.on∨ordered (fM ops) a e.on=true):=by
 have ho':ops.toList[i]?=some o:=by simpa using ho
 obtain ⟨m',h1,h2⟩:=EI ops.toList [] i o ho';simp only [List.length_nil,Nat.zero_add] at h1 h2;unfold ordered fM at h;rw [h1] at h;obtain ⟨e,he,hbe,h3⟩:=C5 h;refine ⟨e,he,hbe,h3.imp id (fun h3=> ?_)⟩;have hlt:=gw ops.toList 0 i o hb ho' e he hbe;unfold ordered fM;rw [h2 e.on (by omega)];exact h3
theorem C6 {ops:Array Oper} (hb:cQ ops.toList 0=true): ∀(i a:Nat),i<ops.size→ordered (fM ops) a i=true→a<i:=by
 intro i
 induction i using Nat.strongRecOn with
 | _ i ih=>
  intro a hi h;have ho:ops[i]?=some ops[i]:=by simp [hi]
  obtain ⟨e,he,hbe,h3⟩:=lC hb ho h;have hlt:=gw ops.toList 0 i ops[i] hb (by simp) e he hbe;rcases h3 with h3 | h3
  ·omega
  ·have:=ih e.on (by omega) a (by omega) h3;omega
theorem uM {ops:Array Oper} {b:List Nat} {o:Oper} {i:Nat}: ∀(l:List Oper) (j k:Nat) (p:Oper),pU ops b o i l j=true→l[k]?=some p→ordered b i (j+k)=true∨o.apart ops p=true
 | [],j,k,p,_,h=>by simp at h
 | q::r,j,0,p,hb,h=>by
  simp at h;subst h;simp only [pU,Bool.and_eq_true,Bool.or_eq_true] at hb;exact hb.1
 | q::r,j,k+1,p,hb,h=>by
  simp at h;simp only [pU,Bool.and_eq_true] at hb;have:=uM r (j+1) k p hb.2 h
  rwa [show j+1+k=j+(k+1) by omega] at this
theorem AE {ops:Array Oper} {b:List Nat}: ∀(l:List Oper) (i k m:Nat) (o p:Oper),mw ops b l i=true→l[k]?=some o→k<m→l[m]?=some p→ordered b (i+k) (i+m)=true∨o.apart ops p=true
 | [],i,k,m,o,p,_,h,_,_=>by simp at h
 | q::r,i,0,m,o,p,hb,h,hlt,hp=>by
  simp at h;subst h;simp only [mw,Bool.and_eq_true] at hb;cases m with
  | zero=>omega
  | succ m=>
   simp at hp;have:=uM r (i+1) m p hb.1.2 hp
   rwa [show i+1+m=i+(m+1) by omega] at this
 | q::r,i,k+1,m,o,p,hb,h,hlt,hp=>by
  simp at h;simp only [mw,Bool.and_eq_true] at hb;cases m with
  | zero=>omega
  | succ m=>
   simp at hp;have:=AE r (i+1) k m o p hb.2 h (by omega) hp
   rwa [show i+1+k=i+(k+1) by omega,show i+1+m=i+(m+1) by omega] at this
theorem uN {ops:Array Oper} {i j:Nat} (hj:j<ops.size) (hne:j≠i) (h1:ordered (fM ops) i j=false) (h2:ordered (fM ops) j i=false) (ha:alone ops i=true):nz ops j=true:=by
 have key: ∀n,j<n→yO ops (fM ops) i n=true→nz ops j=true:=by
  intro n
  induction n with
  | zero=>intro h;omega
  | succ n ih=>
   intro h hh;simp only [yO,Bool.and_eq_true] at hh;by_cases e:j=n
   ·subst e;have:(j==i)=false:=by simpa using hne
    simpa [this,h1,h2] using hh.1
   ·exact ih (by omega) hh.2
 exact key _ hj ha
theorem Kk (id:Nat) (op:Op):id≤next id op:=by unfold next;split <;> omega
theorem FV {id:Nat} {op:Op} (h:asks op=true):next id op=id+1:=by unfold next;rw [h]
theorem EJ: ∀(l:List Oper) (i base:Nat),base≤cv l i base
 | _,0,base=>by cases ‹List Oper› <;> exact Nat.le_refl _
 | [],i+1,base=>Nat.le_refl _
 | o::r,i+1,base=>Nat.le_trans (Kk base o.op) (EJ r i _)
theorem EK: ∀(l:List Oper) (a i base:Nat) (o:Oper),l[a]?=some o→asks o.op=true→a<i→cv l a base<cv l i base
 | [],a,i,base,o,h,_,_=>by simp at h
 | p::r,0,i,base,o,h,ha,hlt=>by
  simp at h;subst h;cases i with
  | zero=>omega
  | succ i=>simp only [cv];have:=EJ r i (next base p.op);rw [FV ha] at this⊢;omega
 | p::r,a+1,i,base,o,h,ha,hlt=>by
  simp at h;cases i with
  | zero=>omega
  | succ i=>exact EK r a i _ o h ha (by omega)
theorem uO {b:List Nat} {i:Nat}: ∀(l:List Oper) (j id a:Nat) (o:Oper),l[a]?=some o→asks o.op=true→ordered b (j+a) i=false→cv l a id∈cZ b i l j id
 | [],j,id,a,o,h,_,_=>by simp at h
 | p::r,j,id,0,o,h,ha,ho=>by
  simp at h;subst h;simp only [Nat.add_zero] at ho;simp [cZ,ha,ho,cv]
 | p::r,j,id,a+1,o,h,ha,ho=>by
  simp at h;have ih:=uO r (j+1) (next id p.op) a o h ha (by rwa [show j+1+a=j+(a+1) by omega]);simp only [cZ,cv];split
  ·exact List.mem_cons_of_mem _ ih
  ·exact ih
theorem mE: ∀(l:List Nat) (bs:List ad),(aY l bs).length=bs.length
 | [],bs=>rfl
 | k::r,bs=>by simp only [aY];rw [mE r];simp
theorem bZ: ∀(l:List Nat) (bs:List ad) (j:Nat),(aY l bs)[j]?=if j∈l∧j<bs.length then some .dead else bs[j]?
 | [],bs,j=>by simp [aY]
 | k::r,bs,j=>by
  simp only [aY];rw [bZ r];simp only [List.length_set,List.mem_cons,List.getElem?_set];by_cases h1:j∈r
  ·simp [h1];split <;> simp_all
  ·by_cases h2:k=j
   ·subst h2;by_cases h3:k<bs.length <;> simp [h1,h3]
   ·have: ¬ j=k:=fun e=>h2 e.symm;simp [h1,h2,this]
theorem sO {l:List Nat} {k:Nat} (h:k∈l) (bs:List ad) (x:ad):aY l (bs.set k x)=aY l bs:=by
 apply List.ext_getElem?;intro j;rw [bZ,bZ,List.length_set,List.getElem?_set];by_cases e:k=j
 ·subst e;by_cases h3:k<bs.length <;> simp [h,h3]
 ·simp [e]
theorem dU (l:List Nat) (bs:List ad):Sub (aY l bs) bs:=fun k hk=>by
 simp only [ad.at,List.getD_eq_getElem?_getD] at hk⊢;rw [bZ] at hk⊢;by_cases h:k∈l∧k<bs.length
 ·rw [if_pos h] at hk;simp at hk
 ·rw [if_neg h]
theorem HR [Kn] {P:Program} {cf:aL} (h:o5 P cf):o5 P (pW cf) where
 fn:=fun f xs bs r bs' hr=>by
  unfold pW at hr;split at hr
  ·rename_i f' heq;cases heq;split at hr
   ·rename_i v hf;cases hr;exact h.fn _ _ _ _ _ hf
   ·rename_i v x l hf;obtain ⟨h1,h2⟩:=h.fn _ _ _ _ _ hf;refine ⟨h1,fun g w vs hm hx=>(h2 g w vs hm hx).mono fun e w' ⟨u,g',he,hm',hl,hfr,hr'⟩=> ?_⟩
    have hho:handOver ([]:List ad).length ⟨start 0 [],x::l⟩ v=some (r,bs'):=by unfold handOver;exact hr
    obtain ⟨g'',k1,k2,k3,k4⟩:=qa hm (s:=⟨start 0 [],x::l⟩) hm' hl hfr hr' hho;exact ⟨u,g'',he,k1,k2,k3,k4⟩
   ·cases hr
  ·exact h.fn _ _ _ _ _ hr
 fL:=fun k s env xs bs r bs' hr=>by
  unfold pW at hr;exact h.fL _ _ _ _ _ _ _ hr
theorem qb [Kn] {P:Program} {cf:aL} (h:o5 P cf): ∀b,o5 P (e9 cf b)
 | true=>h
 | false=>HR h
theorem Kl {c:ax} {cf:aL} {op:Op} {t:Env} {bs bs':List ad} (hs:Sub bs bs') (hl:bs.length=bs'.length) (hv:eC op=true) {id:Nat} {v:AV} {x:ad} (h:bV c cf op t bs id=some (v,.app x)):bV c cf op t bs' id=some (v,.app x):=by
 unfold bV at h⊢;split at h
 ·split at h
  ·split at h
   ·split at h
    ·split at h <;> cases h
    ·unfold ou at h⊢;split at h
     ·split at h <;> cases h
     ·unfold pT at h⊢;split at h
      ·split at h <;> cases h
      unfold xi at h⊢;split at h
      ·rename_i l hl2;rw [jM hs hl2];simp only;split at h
       ·split at h
        ·split at h
         ·split at h
          ·unfold cX at h;split at h <;> cases h
          ·cases h
         ·cases h
        ·split at h
         ·split at h
          ·unfold cX at h;split at h <;> cases h
          ·cases h
         ·rename_i hcf;split at h
          ·rename_i hfr;split at h
           ·cases h
           ·rename_i hno;rw [←hl];exact h
          ·split at h <;> cases h
         ·cases h
       ·split at h <;> cases h
      ·cases h
   ·split at h <;> cases h
   ·cases h
  ·rename_i k hk;exfalso;unfold eC at hv;simp only at hv
   first
   | (cases hv;done)
   | (split at hv
      ·rename_i f hf;exact hk f hf
      ·cases hv)
 ·rename_i hk;exfalso;unfold eC at hv;split at hv
  ·rename_i k;exact hk k rfl
  ·cases hv
section
variable {c:ax} {cf:aL} {ops:Array Oper} {base:Nat}
theorem gx {i:Nat} {o:Oper} {s s':St} (hal:alone ops i=false) (h:bc c cf ops base i o s=some s'):
  (bL ops s.t o.guard=some false∧s'={t:=bu s.t o.dst (.aT []),b:=s.b})∨
  (bL ops s.t o.guard=some true∧ ∃v,(bV c (e9 cf (bY c ops i o.op)) o.op s.t (dA ops base i s.b) (cv ops.toList i base)=some (v,.none)∧cu c ops i o.op s.t=true∧s'={t:=bu s.t o.dst v,b:=s.b})∨
   ∃x,asks o.op=true∧s.b[cv ops.toList i base]?=some .dead∧bV c (e9 cf (bY c ops i o.op)) o.op s.t (dA ops base i s.b) (cv ops.toList i base)=some (v,.new x)∧s'={t:=bu s.t o.dst v,b:=s.b.set (cv ops.toList i base) x})∨
  (bL ops s.t o.guard=some true∧ ∃v k x,bV c (e9 cf (bY c ops i o.op)) o.op s.t (dA ops base i s.b) (cv ops.toList i base)=some (v,.ig k x)∧((bM ops i o.op=true∧sK o.op x=true)∧cu c ops i o.op s.t=true)∧((gN ops i).all fun p=>fj k (s.t.get .any p))=true∧s'={t:=bu s.t o.dst v,b:=s.b.set k x})∨
  (bL ops s.t o.guard=some true∧ ∃v x,bV c (e9 cf (bY c ops i o.op)) o.op s.t (dA ops base i s.b) (cv ops.toList i base)=some (v,.app x)∧bY c ops i o.op=true∧((jI ops i).all fun p=>jc s.b.length (s.t.get .any p))=true∧s'={t:=bu s.t o.dst v,b:=s.b++ [x]}):=by
 unfold bc at h;split at h
 ·rename_i hw;rw [hal] at h;simp only at h;split at h
  ·rename_i v hd;split at h
   ·rename_i hro;cases h;exact .inr (.inl ⟨hw,v,.inl ⟨hd,hro,rfl⟩⟩)
   ·cases h
  ·rename_i v x hd;split at h
   ·rename_i ha hdead;cases h;exact .inr (.inl ⟨hw,v,.inr ⟨x,ha,hdead,hd,rfl⟩⟩)
   ·cases h
  ·rename_i v k x hd;split at h
   ·rename_i hcalm;cases h;rw [Bool.and_eq_true,Bool.and_eq_true,Bool.and_eq_true] at hcalm;exact .inr (.inr (.inl ⟨hw,v,k,x,hd,hcalm.1,hcalm.2,rfl⟩))
   ·cases h
  ·rename_i v x hd;split at h
   ·rename_i hcalm;cases h;rw [Bool.and_eq_true] at hcalm;exact .inr (.inr (.inr ⟨hw,v,x,hd,hcalm.1,hcalm.2,rfl⟩))
   ·cases h
  ·cases h
 ·rename_i hw;cases h;exact .inl ⟨hw,rfl⟩
 ·cases h
theorem uP {b:List Nat} {i p:Nat}: ∀(l:List Oper) (j:Nat),p∈my ops b i l j→ ∃k o,l[k]?=some o∧fi ops (j+k) o.op=some p∧(j+k==i || ordered b i (j+k) || ordered b (j+k) i)=false
 | [],_,h=>by cases h
 | o::r,j,h=>by
  simp only [my] at h;split at h
  ·rename_i q h1 h2;rcases List.mem_cons.1 h with rfl | h
   ·exact ⟨0,o,rfl,h2,h1⟩
   ·obtain ⟨k,o',k1,k2,k3⟩:=uP r (j+1) h;exact ⟨k+1,o',k1,by rw [show j+(k+1)=j+1+k by omega];exact k2,by rw [show j+(k+1)=j+1+k by omega];exact k3⟩
  ·obtain ⟨k,o',k1,k2,k3⟩:=uP r (j+1) h;exact ⟨k+1,o',k1,by rw [show j+(k+1)=j+1+k by omega];exact k2,by rw [show j+(k+1)=j+1+k by omega];exact k3⟩
theorem AF {b:List Nat} {i p:Nat}: ∀(l:List Oper) (j k:Nat) (o:Oper),l[k]?=some o→fi ops (j+k) o.op=some p→(j+k==i || ordered b i (j+k) || ordered b (j+k) i)=false→p∈my ops b i l j
 | [],_,k,_,h,_,_=>by simp at h
 | x::r,j,0,o,h,h2,h3=>by
  simp only [List.getElem?_cons_zero,Option.some.injEq] at h;subst h;simp only [Nat.add_zero] at h2 h3;simp only [my,h3,h2];exact List.mem_cons_self
 | x::r,j,k+1,o,h,h2,h3=>by
  have:=AF r (j+1) k o (by simpa using h) (by rw [show j+1+k=j+(k+1) by omega];exact h2) (by rw [show j+1+k=j+(k+1) by omega];exact h3);simp only [my];split
  ·exact List.mem_cons_of_mem _ this
  ·exact this
theorem o8 {b:List Nat} {i:Nat} {op:Op}: ∀(l:List Oper) (j k:Nat) (o:Oper),pV ops b i op l j=true→l[k]?=some o→(j+k==i || ordered b i (j+k) || ordered b (j+k) i || gY ops (j+k) op o.op)=true
 | [],_,k,_,_,h=>by simp at h
 | x::r,j,0,o,h,h2=>by
  simp only [List.getElem?_cons_zero,Option.some.injEq] at h2;subst h2;simp only [pV,Bool.and_eq_true] at h;exact h.1
 | x::r,j,k+1,o,h,h2=>by
  simp only [pV,Bool.and_eq_true] at h;have:=o8 r (j+1) k o h.2 (by simpa using h2);rw [show j+(k+1)=j+1+k by omega];exact this
theorem kJ {op:Op} {j q:Nat} (h:fi ops j op=some q): ∃p,c9 op=some p∧fV ops j p=some q:=by
 unfold fi at h;split at h
 ·rename_i p hp;exact ⟨p,hp,h⟩
 ·cases h
theorem uQ {op:Op} {p:Nat} (k2:c9 op=some p):blind op=false∧isLen op=false:=by
 unfold c9 at k2;split at k2
 ·exact ⟨rfl,rfl⟩
 ·exact ⟨rfl,rfl⟩
 ·cases k2
theorem xq {i:Nat} {op:Op} (h:bM ops i op=true) {p:Nat} (hp:p∈gN ops i):(rC op).contains p=false:=by simp only [bM,Bool.and_eq_true] at h;obtain ⟨k,o,k1,k2,k3⟩:=uP ops.toList 0 hp;have h1:=o8 ops.toList 0 k o h.1.2 k1;rw [k3,Bool.false_or] at h1;obtain ⟨p0,hp0,_⟩:=kJ k2;obtain ⟨hb,hl⟩:=uQ hp0;unfold gY at h1;rw [hb,hl,k2] at h1;simpa using h1
theorem uR {j q:Nat}: ∀(l:List Oper) (n k:Nat) (o:Oper),lB ops j q l n=true→l[k]?=some o→(o.dst !=some q || n+k==j || ordered (fM ops) j (n+k) || ordered (fM ops) (n+k) j)=true
 | [],_,k,_,_,h=>by simp at h
 | x::r,n,0,o,h,h2=>by
  simp only [List.getElem?_cons_zero,Option.some.injEq] at h2;subst h2;simp only [lB,Bool.and_eq_true] at h;exact h.1
 | x::r,n,k+1,o,h,h2=>by
  simp only [lB,Bool.and_eq_true] at h;have:=uR r (n+1) k o h.2 (by simpa using h2);rw [show n+(k+1)=n+1+k by omega];exact this
theorem xr {j q:Nat} (h:lB ops j q ops.toList 0=true) {a:Nat} {oa:Oper} (hoa:ops[a]?=some oa) (hne:a≠j) (h1:ordered (fM ops) j a=false) (h2:ordered (fM ops) a j=false):oa.dst≠some q:=by
 intro hd;have:=uR ops.toList 0 a oa h (by simpa using hoa);rw [Nat.zero_add,h1,h2,hd] at this;have hb:(a==j)=false:=by simpa using hne
 rw [hb] at this;simp at this
theorem iO {i a:Nat} {op:Op} {oa:Oper} (h:bM ops i op=true) (ha:ops[a]?=some oa) (hne:a≠i) (ho1:ordered (fM ops) i a=false) (ho2:ordered (fM ops) a i=false) (t:Env) (v:AV) (k:Nat):((gN ops i).all fun p=>fj k ((bu t oa.dst v).get .any p))=(gN ops i).all fun p=>fj k (t.get .any p):=by
 simp only [bM,Bool.and_eq_true] at h;have h2:=h.2;rw [List.all_eq_true] at h2;rw [Bool.eq_iff_iff,List.all_eq_true,List.all_eq_true]
 have key: ∀p∈gN ops i,(bu t oa.dst v).get .any p=t.get .any p:=fun p hp=>by
  have h3:=h2 p hp;have h4:=xr h3 ha hne ho1 ho2;cases hd:oa.dst with
  | none=>rfl
  | some d=>have hne:d≠p:=fun e=>h4 (by rw [hd,e]);simp only [bu];exact Tr.bo _ _ _ hne
 exact ⟨fun hh p hp=>by rw [←key p hp];exact hh p hp,fun hh p hp=>by rw [key p hp];exact hh p hp⟩
theorem jN {ms:List Nat} {bs:List ad} {k j:Nat} (x:ad) (h:j≠k):ad.at (aY ms (bs.set k x)) j=ad.at (aY ms bs) j:=by simp only [ad.at,List.getD_eq_getElem?_getD];rw [bZ,bZ,List.length_set,List.getElem?_set_ne (Ne.symm h)]
theorem sP {ms:List Nat} {bs:List ad} {k:Nat} {ty:TypeId} {cs:List AV} (h: ∀sh sz es,ad.at bs k≠ .sl sh sz es) (sh:Hd) (sz:Nat) (es:List AV):ad.at (aY ms (bs.set k (.var ty cs))) k≠ .sl sh sz es∧ad.at (aY ms bs) k≠ .sl sh sz es:=by
 have h':=h sh sz es;simp only [ad.at,List.getD_eq_getElem?_getD] at h'⊢;rw [bZ,bZ,List.length_set];constructor
 ·split
  ·simp
  ·by_cases hk:k<bs.length
   ·simp [hk]
   ·simp [hk]
 ·split
  ·simp
  ·exact h'
theorem FX {op:Op} (h:cC op=true) {t:Env} {bs:List ad} {id:Nat} {v:AV} {e:cY} (hd:bV c cf op t bs id=some (v,e)): ∀k ty cs,e= .ig k (.var ty cs)→ ∃ty' cs',ad.at bs k= .var ty' cs':=by
 cases op <;> simp only [cC,Bool.false_eq_true] at h;intro k ty cs he;subst he;simp only [bV,fw] at hd;unfold mr at hd;split at hd
 ·split at hd
  ·split at hd
   ·split at hd
    ·rename_i ty' cs' hb;split at hd
     ·cases hd;exact ⟨_,_,hb⟩
     ·cases hd
    ·cases hd
   ·split at hd
    ·split at hd
     ·split at hd
      ·split at hd
       ·obtain ⟨_,hd⟩:=ka hd;cases hd
       rw [Option.map_eq_some_iff] at hd;obtain ⟨_,_,hd⟩:=hd;cases hd
      ·cases hd
     ·cases hd
    ·cases hd
   ·cases hd
  ·cases hd
 ·cases hd
theorem FY {op:Op} (h:cC op=true) {t:Env} {bs bs':List ad} (hs:Sub bs bs') {id:Nat} {v:AV} {k:Nat} {ty:TypeId} {cs:List AV} (hd:bV c cf op t bs id=some (v,.ig k (.var ty cs))):bV c cf op t bs' id=some (v,.ig k (.var ty cs)):=by
 cases op <;> simp only [cC,Bool.false_eq_true] at h;simp only [bV,fw] at hd⊢;unfold mr at hd⊢;split at hd
 ·split at hd
  ·rename_i hcond;rw [if_pos hcond];split at hd
   ·rename_i k' off;split at hd
    ·rename_i ty' cs' hb;rw [hs.var hb];exact hd
    ·cases hd
   ·split at hd
    ·split at hd
     ·split at hd
      ·split at hd
       ·obtain ⟨_,hd⟩:=ka hd;cases hd
       rw [Option.map_eq_some_iff] at hd;obtain ⟨_,_,hd⟩:=hd;cases hd
      ·cases hd
     ·cases hd
    ·cases hd
   ·cases hd
  ·cases hd
 ·cases hd
theorem HS {op:Op} (h:fc op=true) {t:Env} {bs bs':List ad} (hs:Sub bs bs') {id:Nat} {r:AV×cY} (hd:bV c cf op t bs id=some r):bV c cf op t bs' id=some r:=by
 obtain ⟨v,e⟩:=r;unfold fc at h;split at h
 ·simp only [bV,fw,er] at hd⊢;split at hd
  ·exact C7 hs hd
  ·cases hd
 ·simp only [bV,fw] at hd⊢;split at hd
  ·exact uS hs hd
  ·cases hd
 ·cases h
theorem FZ {d:TypeDesc} {x:AV} {ms:List Nat} {bs:List ad} {k:Nat} {ty:TypeId} {cs:List AV} (h: ∀sh sz es,ad.at bs k≠ .sl sh sz es):oU d x (aY ms (bs.set k (.var ty cs)))=oU d x (aY ms bs):=by
 have he:elems (aY ms (bs.set k (.var ty cs))) x=elems (aY ms bs) x:=by
  unfold elems;cases x with
  | ay k' n=>
   simp only;by_cases hk:k'=k
   ·subst hk;have h2:=sP (ms:=ms) (ty:=ty) (cs:=cs) h;split
    ·rename_i sh sz es hb;exact absurd hb (h2 sh sz es).1
    ·split
     ·rename_i sh sz es hb;exact absurd hb (h2 sh sz es).2
     ·rfl
   ·rw [jN _ hk]
  | fN k' n lo hi=>
   simp only;by_cases hk:k'=k
   ·subst hk;have h2:=sP (ms:=ms) (ty:=ty) (cs:=cs) h;split
    ·rename_i sh sz es hb;exact absurd hb (h2 sh sz es).1
    ·split
     ·rename_i sh sz es hb;exact absurd hb (h2 sh sz es).2
     ·rfl
   ·rw [jN _ hk]
  | _=>rfl
 unfold oU;rw [he]
theorem C8 {d:TypeDesc} {x:AV} {lo hi:Option AV} {bs bs':List ad} (h1: ∀k n,x≠ .ay k n) (h2: ∀k n lo hi,x≠ .fN k n lo hi):dz c d x lo hi bs'=dz c d x lo hi bs:=by
 unfold dz;split
 ·rfl
 ·rfl
 ·exact absurd rfl (h1 _ _)
 ·exact absurd rfl (h2 _ _ _ _)
 ·rfl
theorem AG {d:TypeDesc} {x:AV} {lo hi:Option AV} {bs:List ad} (h1: ∀k n,x≠ .ay k n) (h2: ∀k n lo hi,x≠ .fN k n lo hi) {v:AV} {k:Nat} {y:ad} (h:dz c d x lo hi bs=some (v,.ig k y)):False:=by
 unfold dz at h;split at h
 ·split at h
  ·rw [Option.map_eq_some_iff] at h;obtain ⟨l,_,h⟩:=h;cases h
  ·cases h
 ·split at h
  ·split at h
   ·rw [Option.map_eq_some_iff] at h;obtain ⟨l,_,h⟩:=h;cases h
   ·cases h
  ·cases h
 ·exact absurd rfl (h1 _ _)
 ·exact absurd rfl (h2 _ _ _ _)
 ·cases h
theorem xu {op o:Op} {mj:Nat} (hm:gY ops mj op o=true) (hb:blind o=false) {t:Env} {ms:List Nat} {bs:List ad} {k:Nat} {x:ad} (hx:sK op x=true) (hv:cC op=true→ ∃ty' cs',ad.at bs k= .var ty' cs') (hc: ∀p,c9 o=some p→fj k (t.get .any p)=true) (id:Nat):
  bV c cf o t (aY ms (bs.set k x)) id=bV c cf o t (aY ms bs) id:=by
 unfold gY at hm;rw [hb,Bool.false_or,Bool.or_eq_true] at hm;rcases hm with hm | hm
 ·rw [Bool.and_eq_true] at hm;obtain ⟨hm,hst⟩:=hm
  have hns: ∀sh sz es,ad.at bs k≠ .sl sh sz es:=by obtain ⟨ty',cs',hv⟩:=hv hst;intro sh sz es e;rw [hv] at e;cases e
  obtain ⟨ty,cs,rfl⟩: ∃ty cs,x= .var ty cs:=by
   cases x with
   | var ty cs=>exact ⟨ty,cs,rfl⟩
   | sl sh sz es=>cases op <;> simp only [cC,Bool.false_eq_true] at hst;cases hx
   | dead=>cases hx
   | loop st=>cases hx
   | mp es clock=>cases hx
   | gone=>cases hx
   | iter o=>cases hx
  unfold isLen at hm;split at hm
  ·simp only [bV,fw,er];split
   ·split
    ·exact FZ hns
    ·rfl
   ·rfl
  ·cases hm
 ·cases hl0:fi ops mj o with
  | none=>rw [hl0] at hm;cases hm
  | some q0=>
   obtain ⟨p,hl,_⟩:=kJ hl0;have hcp:=hc p hl;unfold c9 at hl;split at hl
   ·cases hl;simp only [bV,fw,ev];unfold mq;split
    ·split
     ·rename_i k' off hp;rw [hp] at hcp;have:k'≠k:=by simpa [fj,xj] using hcp
      rw [jN _ this]
     ·rename_i k' n j off hp;rw [hp] at hcp;have:k'≠k:=by simpa [fj,xj] using hcp
      rw [jN _ this]
     ·rfl
     ·rfl
    ·rfl
   ·cases hl;rename_i ty lo hi;simp only [bV,fw]
    have hq:(∀k n,ev t (.tmp p)≠ .ay k n)∧ ∀k n lo hi,ev t (.tmp p)≠ .fN k n lo hi:=by
     simp only [ev];constructor
     ·intro k n h;rw [h] at hcp;cases hcp
     ·intro k n lo hi h;rw [h] at hcp;cases hcp
    generalize ev t (.tmp p)=y at hq;split
    ·exact C8 hq.1 hq.2
    ·rfl
   ·cases hl
theorem C9 {op o:Op} {mj:Nat} (hm:gY ops mj op o=true) (hb:blind o=false) {t:Env} {bs:List ad} {k:Nat} (hc: ∀p,c9 o=some p→fj k (t.get .any p)=true) {cf:aL} {id:Nat} {v:AV} {k':Nat} {y:ad} (h:bV c cf o t bs id=some (v,.ig k' y)):(cC o || fc o)=false:=by
 unfold gY at hm;rw [hb,Bool.false_or,Bool.or_eq_true] at hm;rcases hm with hm | hm
 ·rw [Bool.and_eq_true] at hm;have hm:=hm.1;unfold isLen at hm;split at hm
  ·rfl
  ·cases hm
 ·cases hl0:fi ops mj o with
  | none=>rw [hl0] at hm;cases hm
  | some q0=>
   obtain ⟨p,hl,_⟩:=kJ hl0;have hcp:=hc p hl;unfold c9 at hl;split at hl
   ·rfl
   ·cases hl;rename_i ty lo hi;exfalso;simp only [bV,fw] at h
    have hq:(∀k n,ev t (.tmp p)≠ .ay k n)∧ ∀k n lo hi,ev t (.tmp p)≠ .fN k n lo hi:=by
     simp only [ev];constructor
     ·intro k n h;rw [h] at hcp;cases hcp
     ·intro k n lo hi h;rw [h] at hcp;cases hcp
    generalize ev t (.tmp p)=y at hq h;split at h
    ·exact AG hq.1 hq.2 h
    ·cases h
   ·cases hl
theorem xv {op o:Op} {mj:Nat} (hm:gY ops mj op o=true) (hb:blind o=false):asks o=false∧eC o=false:=by
 unfold gY at hm;rw [hb,Bool.false_or,Bool.or_eq_true] at hm;rcases hm with hm | hm
 ·rw [Bool.and_eq_true] at hm;have hm:=hm.1;unfold isLen at hm;split at hm
  ·exact ⟨rfl,rfl⟩
  ·cases hm
 ·cases hl0:fi ops mj o with
  | none=>rw [hl0] at hm;cases hm
  | some q0=>
   obtain ⟨p,hl,_⟩:=kJ hl0;unfold c9 at hl;split at hl
   ·exact ⟨rfl,rfl⟩
   ·exact ⟨rfl,rfl⟩
   ·cases hl
theorem nD {c:ax} {o:Op} (h:eC o=false):yP c o=false:=by
 cases o with
 | call k=>
  obtain ⟨ce,as,ts⟩:=k;cases ce with
  | value f=>simp [eC] at h
  | _=>rfl
 | _=>rfl
theorem AH {c:ax} {o:Op} (h:yP c o=true):eC o=true:=by
 cases hc:eC o with
 | true=>rfl
 | false=>rw [nD hc] at h;cases h
theorem AI {c:ax} {ops:Array Oper}: ∀(l:List Oper) (j k:Nat) (o:Oper),l[k]?=some o→alone ops (j+k)=false→bY c ops (j+k) o.op=true→pX c ops l j=true
 | [],_,k,_,h,_,_=>by simp at h
 | x::r,j,0,o,h,h2,h3=>by
  simp only [List.getElem?_cons_zero,Option.some.injEq] at h;subst h;simp only [Nat.add_zero] at h2 h3;simp [pX,h2,h3]
 | x::r,j,k+1,o,h,h2,h3=>by
  have:=AI r (j+1) k o (by simpa using h) (by rw [show j+1+k=j+(k+1) by omega];exact h2) (by rw [show j+1+k=j+(k+1) by omega];exact h3);simp [pX,this]
theorem EL {c:ax} {ops:Array Oper} {a:Nat} {oa:Oper} (hoa:ops[a]?=some oa) (h2:alone ops a=false) (h3:bY c ops a oa.op=true):uD c ops=true:=
 AI ops.toList 0 a oa (by simpa using hoa) (by simpa using h2) (by simpa using h3)
theorem xw {ops:Array Oper}: ∀(l:List Oper) (j k:Nat) (o:Oper),l[k]?=some o→alone ops (j+k)=false→bM ops (j+k) o.op=true→mz ops l j=true
 | [],_,k,_,h,_,_=>by simp at h
 | x::r,j,0,o,h,h2,h3=>by
  simp only [List.getElem?_cons_zero,Option.some.injEq] at h;subst h;simp only [Nat.add_zero] at h2 h3;simp [mz,h2,h3]
 | x::r,j,k+1,o,h,h2,h3=>by
  have:=xw r (j+1) k o (by simpa using h) (by rw [show j+1+k=j+(k+1) by omega];exact h2) (by rw [show j+1+k=j+(k+1) by omega];exact h3);simp [mz,this]
theorem AJ {ops:Array Oper} {a:Nat} {oa:Oper} (hoa:ops[a]?=some oa) (h2:alone ops a=false) (h3:bM ops a oa.op=true):nA ops=true:=
 xw ops.toList 0 a oa (by simpa using hoa) (by simpa using h2) (by simpa using h3)
theorem HT {c:ax} {ops:Array Oper} {op:Op} {j:Nat} {t:Env} (h:uD c ops=false) (h2:nA ops=false):cu c ops j op t=true:=by
 unfold cu;split
 ·rfl
 ·split
  ·rfl
  ·rw [h,h2];rfl
theorem AK {op:Op} {p:Nat} (h:eV op=some p):gv op=some p:=by unfold gv;rw [h]
theorem HU {op:Op} {p:Nat} (h:c9 op=some p):gv op=some p:=by
 have h0:=h;unfold c9 at h;split at h
 ·cases h;rfl
 ·cases h;rfl
 ·cases h
theorem xx {c:ax} {ops:Array Oper} {op:Op} {t:Env} {j p q k:Nat} (hg:nA ops=true) (h:cu c ops j op t=true) (hp:c9 op=some p) (hq:fV ops j p=some q) (hc:fj k (t.get .any q)=true):fj k (t.get .any p)=true:=by unfold cu at h;rw [HU hp] at h;simp only [hq,hg,Bool.not_true,Bool.false_or,Bool.and_eq_true,beq_iff_eq] at h;unfold fj at hc⊢;rw [h.2];exact hc
theorem AM {b:List Nat} {i p:Nat}: ∀(l:List Oper) (j k:Nat) (o:Oper),l[k]?=some o→mA ops (j+k) o.op=some p→(j+k==i || ordered b i (j+k) || ordered b (j+k) i)=false→p∈rD ops b i l j
 | [],_,k,_,h,_,_=>by simp at h
 | x::r,j,0,o,h,h2,h3=>by
  simp only [List.getElem?_cons_zero,Option.some.injEq] at h;subst h;simp only [Nat.add_zero] at h2 h3;simp only [rD,h3,h2];exact List.mem_cons_self
 | x::r,j,k+1,o,h,h2,h3=>by
  have:=AM r (j+1) k o (by simpa using h) (by rw [show j+1+k=j+(k+1) by omega];exact h2) (by rw [show j+1+k=j+(k+1) by omega];exact h3);simp only [rD];split
  ·exact List.mem_cons_of_mem _ this
  ·exact this
theorem sQ {b:List Nat} {i:Nat}: ∀(l:List Oper) (j k:Nat) (o:Oper),mB ops b i l j=true→l[k]?=some o→(j+k==i || ordered b i (j+k) || ordered b (j+k) i || blind o.op || (mA ops (j+k) o.op).isSome)=true
 | [],_,k,_,_,h=>by simp at h
 | x::r,j,0,o,h,h2=>by
  simp only [List.getElem?_cons_zero,Option.some.injEq] at h2;subst h2;simp only [mB,Bool.and_eq_true] at h;exact h.1
 | x::r,j,k+1,o,h,h2=>by
  simp only [mB,Bool.and_eq_true] at h;have:=sQ r (j+1) k o h.2 (by simpa using h2);rw [show j+(k+1)=j+1+k by omega];exact this
theorem kK {i a:Nat} {op:Op} {oa:Oper} (h:bY c ops i op=true) (ha:ops[a]?=some oa) (t:Env) (v:AV) (n:Nat):((jI ops i).all fun p=>jc n ((bu t oa.dst v).get .any p))=(jI ops i).all fun p=>jc n (t.get .any p):=by
 simp only [bY,Bool.and_eq_true] at h;have h2:=h.2;rw [List.all_eq_true] at h2
 have hmem:oa∈ops.toList:=by obtain ⟨hlt,e⟩:=Array.getElem?_eq_some_iff.1 ha;rw [←e];simp
 rw [Bool.eq_iff_iff,List.all_eq_true,List.all_eq_true]
 have key: ∀p∈jI ops i,(bu t oa.dst v).get .any p=t.get .any p:=fun p hp=>by
  have h3:=h2 p hp;rw [List.all_eq_true] at h3;have h4:=h3 oa hmem;cases hd:oa.dst with
  | none=>rfl
  | some d=>rw [hd] at h4;simp only [bu];refine Tr.bo _ _ _ ?_;intro e;subst e;simp at h4
 constructor
 ·intro hh p hp;rw [←key p hp];exact hh p hp
 ·intro hh p hp;rw [key p hp];exact hh p hp
theorem Da {j p q:Nat} (h:fV ops j p=some q) {a:Nat} {oa:Oper} (hoa:ops[a]?=some oa) (hne:a≠j) (h1:ordered (fM ops) j a=false) (h2:ordered (fM ops) a j=false):oa.dst≠some q:=by
 have hmem:oa∈ops.toList:=by obtain ⟨hlt,e⟩:=Array.getElem?_eq_some_iff.1 hoa;rw [←e];simp
 unfold fV at h;split at h
 ·rename_i hf;cases h;intro hd;have:=List.filter_eq_nil_iff.1 hf oa hmem;rw [hd] at this;simp at this
 ·split at h
  ·split at h
   ·rename_i ha;cases h;exact xr ha hoa hne h1 h2
   ·cases h
  ·cases h
 ·cases h
theorem AN {a b:AV} (h:(Aq a==Aq b)=true) (n:Nat):jc n a=jc n b:=by
 rw [beq_iff_eq] at h;have key: ∀x:AV,jc n x=match Aq x with | some k=>decide (k<n) | none=>true:=fun x=>by cases x <;> rfl
 rw [key,key,h]
theorem Db {o:Oper} {p:Nat} (h:eV o.op=some p):p∈o.looksAt ops:=by
 simp only [Oper.looksAt,List.mem_append,List.mem_filterMap];refine .inl ⟨.tmp p,?_,rfl⟩;unfold eV at h;split at h
 ·rename_i ho;cases h;rw [ho];simp [Op.operands]
 ·rename_i args ts ho;split at h
  ·rename_i q hq;cases h;rw [ho];simp only [Op.operands,Call.operands];simp [hq]
  ·cases h
 ·cases h
theorem F0 {o:Oper} {p:Nat} (h:gv o.op=some p):p∈o.looksAt ops:=by
 unfold gv at h;split at h
 ·rename_i q hq;cases h;exact Db hq
 ·simp only [Oper.looksAt,List.mem_append,List.mem_filterMap];refine .inl ⟨.tmp p,?_,rfl⟩;unfold c9 at h;split at h
  ·rename_i ho;cases h;rw [ho];simp [Op.operands]
  ·rename_i ho;cases h;rw [ho];simp [Op.operands]
  ·cases h
theorem et {a j:Nat} {oa o:Oper} (hoa:ops[a]?=some oa) (hne:a≠j) (ho1:ordered (fM ops) j a=false) (ho2:ordered (fM ops) a j=false) (h: ∀d,oa.dst=some d→d∉o.looksAt ops) (t:Env) (v:AV):cu c ops j o.op (bu t oa.dst v)=cu c ops j o.op t:=by
 unfold cu;split
 ·rfl
 ·rename_i p hp;split
  ·rfl
  ·rename_i q hq;cases hd:oa.dst with
   | none=>rfl
   | some d=>have h1:d≠p:=fun e=>h d hd (e▸F0 hp);have h2:d≠q:=fun e=>Da hq hoa hne ho1 ho2 (by rw [hd,e]);simp only [bu];rw [Tr.bo _ _ _ h1,Tr.bo _ _ _ h2]
theorem Dc {op:Op} {j:Nat} (h:blind op=true) (t:Env):cu c ops j op t=true:=by
 have:gv op=none:=by cases op <;> simp only [blind,Bool.false_eq_true] at h <;> rfl
 unfold cu;rw [this]
theorem jO {ms:List Nat} {bs:List ad} {j:Nat} (x:ad) (h:j<bs.length):ad.at (aY ms (bs++ [x])) j=ad.at (aY ms bs) j:=by
 simp only [ad.at,List.getD_eq_getElem?_getD];rw [bZ,bZ,List.getElem?_append_left h];simp only [List.length_append,List.length_singleton];by_cases hj:j∈ms
 ·rw [if_pos ⟨hj,by omega⟩,if_pos ⟨hj,h⟩]
 ·rw [if_neg (fun e=>hj e.1),if_neg (fun e=>hj e.1)]
theorem Dd {d:TypeDesc} {x:AV} {b b':List ad} (h:elems b x=elems b' x):oU d x b=oU d x b':=by unfold oU;rw [h]
theorem xy {o:Op} {p:Nat} (hm:eV o=some p) {t:Env} {ms:List Nat} {bs:List ad} {x:ad} (hc:jc bs.length (t.get .any p)=true) (id:Nat):
  bV c cf o t (aY ms (bs++ [x])) id=bV c cf o t (aY ms bs) id:=by
 unfold eV at hm;split at hm
 ·cases hm;simp only [bV,fw,ev];unfold mq;split
  ·split
   ·rename_i k' off hp;rw [hp] at hc;rw [jO x (by simpa [jc] using hc)]
   ·rename_i k' n j off hp;rw [hp] at hc;rw [jO x (by simpa [jc] using hc)]
   ·rfl
   ·rfl
  ·rfl
 ·rename_i args ts;split at hm
  ·rename_i q hargs;cases hm
   have he:elems (aY ms (bs++ [x])) (t.get .any p)=elems (aY ms bs) (t.get .any p):=by
    unfold elems;cases hv:t.get .any p with
    | ay k' n=>rw [hv] at hc;simp only;rw [jO x (by simpa [jc] using hc)]
    | fN k' n lo hi=>rw [hv] at hc;simp only;rw [jO x (by simpa [jc] using hc)]
    | _=>rfl
   simp only [bV,fw,er];rw [show l6 t args.toList= [t.get .any p] by rw [hargs];rfl];rcases hts:ts.toList with _ | ⟨t',_ | ⟨t2,r⟩⟩
   ·rfl
   ·simp only;split
    ·exact Dd he
    ·rfl
   ·rfl
  ·cases hm
 ·cases hm
theorem xz {o:Op} {p:Nat} (hm:eV o=some p):asks o=false∧(cC o || fc o)=false∧eC o=false:=by
 unfold eV at hm;split at hm
 ·exact ⟨rfl,rfl,rfl⟩
 ·exact ⟨rfl,rfl,rfl⟩
 ·cases hm
theorem HV {op:Op} (h:blind op=true) (t:Env) (bs:List ad) (id:Nat):bV c cf op t bs id=bV c cf op t [] 0:=by cases op <;> simp only [blind,Bool.false_eq_true] at h <;> rfl
theorem F1 {op:Op} (h:blind op=true) {t:Env} {bs:List ad} {id:Nat} {v:AV} {e:cY} (hd:bV c cf op t bs id=some (v,e)):e= .none:=by
 cases op <;> simp only [blind,Bool.false_eq_true] at h <;> simp only [bV,fw] at hd
 ·cases hd;rfl
 ·cases hd;rfl
 ·unfold uz at hd;split at hd <;> cases hd <;> rfl
 ·unfold rq at hd;split at hd
  ·split at hd
   ·split at hd
    ·rw [Option.map_eq_some_iff] at hd;obtain ⟨_,_,hd⟩:=hd;cases hd;rfl
    ·split at hd
     ·rw [Option.map_eq_some_iff] at hd;obtain ⟨_,_,hd⟩:=hd;cases hd;rfl
     ·cases hd
    ·cases hd
   ·cases hd
  ·cases hd
 ·unfold gu at hd;split at hd <;> cases hd <;> rfl
 ·rw [Option.map_eq_some_iff] at hd;obtain ⟨_,_,hd⟩:=hd;cases hd;rfl
 ·rw [Option.map_eq_some_iff] at hd;obtain ⟨_,_,hd⟩:=hd;cases hd;rfl
 ·unfold oV at hd;split at hd
  ·split at hd
   ·split at hd
    ·rw [Option.map_eq_some_iff] at hd;obtain ⟨_,_,hd⟩:=hd;cases hd;rfl
    ·cases hd
   ·cases hd
  ·cases hd
 ·unfold oW at hd;split at hd
  ·split at hd
   ·split at hd
    ·split at hd
     ·cases hd;rfl
     ·cases hd
    ·cases hd
   ·split at hd
    ·split at hd
     ·rw [Option.map_eq_some_iff] at hd;obtain ⟨_,_,hd⟩:=hd;cases hd;rfl
     ·cases hd
    ·cases hd
   ·cases hd
  ·cases hd
 ·unfold jb at hd;split at hd
  ·rw [Option.map_eq_some_iff] at hd;obtain ⟨_,_,hd⟩:=hd;cases hd;rfl
  ·cases hd
theorem De {op:Op} (h:blind op=true) (t:Env) (bs:List ad) (id:Nat):bV c (pW cf) op t bs id=bV c cf op t bs id:=by cases op <;> simp only [blind,Bool.false_eq_true] at h <;> rfl
theorem AO {op:Op} (h:blind op=true) (b:Bool) (t:Env) (bs:List ad) (id:Nat):bV c (e9 cf b) op t bs id=bV c cf op t bs id:=by
 cases b with
 | true=>rfl
 | false=>exact De h t bs id
theorem gO {i:Nat} {o:Oper} {s:St} (hb:blind o.op=true):bc c cf ops base i o s=match bL ops s.t o.guard with
  | some true=>(match bV c cf o.op s.t [] 0 with
   | some (v,_)=>some {t:=bu s.t o.dst v,b:=s.b}
   | none=>none)
  | some false=>some {t:=bu s.t o.dst (.aT []),b:=s.b}
  | none=>none:=by
 unfold bc;cases hw:bL ops s.t o.guard with
 | none=>rfl
 | some x=>
  cases x with
  | false=>rfl
  | true=>
   simp only [HV hb,AO hb];cases hd:bV c cf o.op s.t [] 0 with
   | none=>cases alone ops i <;> rfl
   | some p=>
    obtain ⟨v,e⟩:=p;obtain rfl:=F1 hb hd;cases alone ops i
    ·simp only [Dc hb]
    ·rfl
theorem sR {a:Nat} {oa:Oper} {s s1:St} (h:bc c cf ops base a oa s=some s1): ∃va bs1,s1={t:=bu s.t oa.dst va,b:=bs1}∧
  ∀t':Env,bL ops t' oa.guard=bL ops s.t oa.guard→(∀(cf:aL) bs id,bV c cf oa.op t' bs id=bV c cf oa.op s.t bs id)→(∀k,bM ops a oa.op=true→((gN ops a).all fun p=>fj k (t'.get .any p))=((gN ops a).all fun p=>fj k (s.t.get .any p)))→(∀n,bY c ops a oa.op=true→((jI ops a).all fun p=>jc n (t'.get .any p))=((jI ops a).all fun p=>jc n (s.t.get .any p)))→(cu c ops a oa.op t'=cu c ops a oa.op s.t)→bc c cf ops base a oa {t:=t',b:=s.b}=some {t:=bu t' oa.dst va,b:=bs1}:=by
 unfold bc at h;split at h
 ·rename_i hw;cases hal:alone ops a with
  | true=>
   rw [hal] at h;simp only at h;split at h
   ·rename_i v e hd;split at h
    ·rename_i bs' he;cases h;refine ⟨v,bs',rfl,fun t' k1 k2 k3 k4 k5=> ?_⟩;unfold bc;simp only [k1,hw,hal,k2,hd,he]
    ·cases h
   ·cases h
  | false=>
   rw [hal] at h;simp only at h;split at h
   ·rename_i v hd;split at h
    ·rename_i hro;cases h;refine ⟨v,_,rfl,fun t' k1 k2 k3 k4 k5=> ?_⟩;unfold bc;simp only [k1,hw,hal,k2,hd,k5,hro]
    ·cases h
   ·rename_i v x hd;split at h
    ·rename_i ha hdead;cases h;refine ⟨v,_,rfl,fun t' k1 k2 k3 k4 k5=> ?_⟩;unfold bc;simp only [k1,hw,hal,k2,hd,ha,hdead]
    ·cases h
   ·rename_i v k x hd;split at h
    ·rename_i hcalm;cases h;refine ⟨v,_,rfl,fun t' k1 k2 k3 k4 k5=> ?_⟩
     have hs:bM ops a oa.op=true:=by rw [Bool.and_eq_true,Bool.and_eq_true,Bool.and_eq_true] at hcalm;exact hcalm.1.1.1
     unfold bc;simp only [k1,hw,hal,k2,hd,k3 k hs,k5,hcalm]
    ·cases h
   ·rename_i v x hd;split at h
    ·rename_i hcalm;cases h;refine ⟨v,_,rfl,fun t' k1 k2 k3 k4 k5=> ?_⟩;have hs:bY c ops a oa.op=true:=(Bool.and_eq_true _ _▸hcalm:_∧_).1;unfold bc;simp only [k1,hw,hal,k2,hd,k4 _ hs,hcalm]
    ·cases h
   ·cases h
 ·rename_i hw;cases h;refine ⟨.aT [],_,rfl,fun t' k1 k2 k3 k4 k5=> ?_⟩;unfold bc;simp only [k1,hw]
 ·cases h
theorem comm {a i:Nat} {oa oi:Oper} (hoa:ops[a]?=some oa) (hoi:ops[i]?=some oi) (hlt:a<i) (hap:oa.apart ops oi=true) (hai:ordered (fM ops) a i=false) (hia:ordered (fM ops) i a=false) {s s1 s2:St}
  (h1:bc c cf ops base a oa s=some s1) (h2:bc c cf ops base i oi s1=some s2): ∃s1',bc c cf ops base i oi s=some s1'∧bc c cf ops base a oa s1'=some s2:=by
 have hasz:a<ops.size:=by
  rcases Nat.lt_or_ge a ops.size with h | h
  ·exact h
  ·rw [Array.getElem?_eq_none h] at hoa;cases hoa
 have hisz:i<ops.size:=by
  rcases Nat.lt_or_ge i ops.size with h | h
  ·exact h
  ·rw [Array.getElem?_eq_none h] at hoi;cases hoi
 have hne:a≠i:=by omega
 have hne':i≠a:=by omega
 obtain ⟨q1,q2,q3⟩:=Oper.apart_spec hap;have hput:=fun (v v':AV)=>F2 s.t v v' q2;have hi0:=fun v bs id=>qc (c:=c) (cf:=e9 cf (bY c ops i oi.op)) (ops:=ops) (x:=oa) (y:=oi) q1 s.t v bs id;have ha0:=fun v bs id=>qc (c:=c) (cf:=e9 cf (bY c ops a oa.op)) (ops:=ops) (x:=oi) (y:=oa) q3 s.t v bs id;have hi1:=fun (cf:aL) v bs id=>qc (c:=c) (cf:=cf) (ops:=ops) (x:=oa) (y:=oi) q1 s.t v bs id;have ha1:=fun (cf:aL) v bs id=>qc (c:=c) (cf:=cf) (ops:=ops) (x:=oi) (y:=oa) q3 s.t v bs id
 /- one of them looks at no box -/
 by_cases hbi:blind oi.op=true
 ·obtain ⟨va,bs1,rfl,sh⟩:=sR h1;rw [gO hbi] at h2;simp only [(hi0 va [] 0).2,(hi1 cf va [] 0).1] at h2;rw [gO hbi];split at h2
  ·rename_i hw;split at h2
   ·rename_i vi e hd;cases h2;refine ⟨{t:=bu s.t oi.dst vi,b:=s.b},rfl,?_⟩;rw [sh _ (ha0 vi [] 0).2 (fun cf bs id=>(ha1 cf vi bs id).1) (fun k hs=>iO hs hoi hne' hai hia _ _ k) (fun n hs=>kK hs hoi _ _ n) (et hoi hne' hai hia q3 _ _),hput va vi]
   ·cases h2
  ·rename_i hw;cases h2;refine ⟨{t:=bu s.t oi.dst (.aT []),b:=s.b},rfl,?_⟩;rw [sh _ (ha0 (.aT []) [] 0).2 (fun cf bs id=>(ha1 cf (.aT []) bs id).1) (fun k hs=>iO hs hoi hne' hai hia _ _ k) (fun n hs=>kK hs hoi _ _ n) (et hoi hne' hai hia q3 _ _),hput va (.aT [])]
  ·cases h2
 by_cases hba:blind oa.op=true
 ·rw [gO hba] at h1
  have fin: ∀va,s1={t:=bu s.t oa.dst va,b:=s.b}→(∀vi bs2,bc c cf ops base a oa {t:=bu s.t oi.dst vi,b:=bs2}=some {t:=bu (bu s.t oi.dst vi) oa.dst va,b:=bs2})→ ∃s1',bc c cf ops base i oi s=some s1'∧bc c cf ops base a oa s1'=some s2:=by intro va hs1 hgo;subst hs1;obtain ⟨vi,bs2,rfl,sh⟩:=sR h2;refine ⟨_,sh s.t (hi0 va [] 0).2.symm (fun cf bs id=>(hi1 cf va bs id).1.symm) (fun k hs=>(iO hs hoa hne hia hai _ _ k).symm) (fun n hs=>(kK hs hoa _ _ n).symm) (et hoa hne hia hai q1 _ _).symm,?_⟩;rw [hgo,hput va vi]
  split at h1
  ·rename_i hw;split at h1
   ·rename_i va e hd;cases h1;refine fin va rfl fun vi bs2=> ?_;rw [gO hba];simp only [(ha0 vi [] 0).2,(ha1 cf vi [] 0).1,hw,hd]
   ·cases h1
  ·rename_i hw;cases h1;refine fin (.aT []) rfl fun vi bs2=> ?_;rw [gO hba];simp only [(ha0 vi [] 0).2,hw]
  ·cases h1
 have ala:alone ops a=false:=by
  cases hh:alone ops a with
  | false=>rfl
  | true=>have:=uN (i:=a) (j:=i) hisz (by omega) hai hia hh;simp only [nz,hoi] at this;exact absurd this hbi
 have ali:alone ops i=false:=by
  cases hh:alone ops i with
  | false=>rfl
  | true=>have:=uN (i:=i) (j:=a) hasz (by omega) hia hai hh;simp only [nz,hoa] at this;exact absurd this hba
 /- a store beside what looks on: the one's step turns box k; the other one's is the same ahead of it and behind it -/
 have mateAt: ∀{x y:Nat} {ox oy:Oper},ops[x]?=some ox→ops[y]?=some oy→y≠x→ordered (fM ops) x y=false→ordered (fM ops) y x=false→bM ops x ox.op=true→blind oy.op=false→
   gY ops y ox.op oy.op=true∧ ∀p,c9 oy.op=some p→ ∃q,fV ops y p=some q∧q∈gN ops x:=by
  intro x y ox oy _ hy hne h1 h2 hs hb;have hs':=hs;simp only [bM,Bool.and_eq_true] at hs';have hm:=o8 ops.toList 0 y oy hs'.1.2 (by simpa using hy);have hneb:(0+y==x)=false:=by simpa using hne
  rw [hneb,Nat.zero_add,h1,h2] at hm;have hm':gY ops y ox.op oy.op=true:=by simpa using hm
  refine ⟨hm',fun p hp=> ?_⟩;obtain ⟨hb1,hl1⟩:=uQ hp;have hm2:=hm';unfold gY at hm2;rw [hb1,hl1] at hm2;simp only [Bool.false_and,Bool.or_self,Bool.false_or] at hm2;cases hr:fi ops y oy.op with
  | none=>rw [hr] at hm2;cases hm2
  | some q=>obtain ⟨p',hp',hq⟩:=kJ hr;rw [hp] at hp';cases hp';refine ⟨q,hq,AF ops.toList 0 y oy (by simpa using hy) (by rw [Nat.zero_add];exact hr) ?_⟩;rw [hneb,Nat.zero_add,h1,h2];rfl
 have storeAt: ∀{x:Nat} {ox:Oper} {t:Env} {bs:List ad} {v:AV} {k:Nat} {y:ad},sK ox.op y=true→bV c (e9 cf (bY c ops x ox.op)) ox.op t (dA ops base x bs) (cv ops.toList x base)=some (v,.ig k y)→cC ox.op=true→ ∃ty' cs',ad.at bs k= .var ty' cs':=by
  intro x ox t bs v k y hy hd hst
  obtain ⟨ty,cs,rfl⟩: ∃ty cs,y= .var ty cs:=by
   cases y with
   | var ty cs=>exact ⟨ty,cs,rfl⟩
   | sl sh sz es=>exfalso;cases ho:ox.op <;> rw [ho] at hst hy <;> simp only [cC,Bool.false_eq_true] at hst;cases hy
   | dead=>cases hy
   | loop st=>cases hy
   | mp es clock=>cases hy
   | gone=>cases hy
   | iter o=>cases hy
  obtain ⟨ty',cs',hv⟩:=FX hst hd k ty cs rfl;exact ⟨ty',cs',(dU _ bs).var hv⟩
 have hbi':blind oi.op=false:=by simpa using hbi
 have hba':blind oa.op=false:=by simpa using hba
 by_cases hSa:bL ops s.t oa.guard=some true∧ ∃v k y,bV c (e9 cf (bY c ops a oa.op)) oa.op s.t (dA ops base a s.b) (cv ops.toList a base)=some (v,.ig k y)∧((bM ops a oa.op=true∧sK oa.op y=true)∧cu c ops a oa.op s.t=true)∧((gN ops a).all fun p=>fj k (s.t.get .any p))=true∧s1={t:=bu s.t oa.dst v,b:=s.b.set k y}
 ·obtain ⟨hwa,va,k,y,hda,⟨⟨hsa,hya⟩,hra⟩,hca,rfl⟩:=hSa;have hga:=AJ hoa ala hsa;obtain ⟨hmate,hnear⟩:=mateAt hoa hoi (by omega) hai hia hsa hbi';obtain ⟨hask,hncl⟩:=xv hmate hbi';have hvar:=storeAt hya hda
  have hcp:cu c ops i oi.op s.t=true→ ∀p,c9 oi.op=some p→fj k (s.t.get .any p)=true:=fun hr p hp=>by
   obtain ⟨q,hq,hqn⟩:=hnear p hp;rw [List.all_eq_true] at hca;exact xx hga hr hp hq (hca q hqn)
  have goA: ∀v,bc c cf ops base a oa {t:=bu s.t oi.dst v,b:=s.b}=some {t:=bu (bu s.t oi.dst v) oa.dst va,b:=s.b.set k y}:=fun v=>by
   unfold bc;simp only [(ha0 v [] 0).2,hwa,ala,(ha0 v _ _).1,hda,hsa,hya,et hoi hne' hai hia q3,hra,iO hsa hoi hne' hai hia,hca,Bool.and_self]
  rcases gx ali h2 with ⟨hw,rfl⟩ | ⟨hw,v,⟨hd,hro,rfl⟩ | ⟨x,hk,_⟩⟩ | ⟨hw,v,k',y',hd,⟨⟨hs',_⟩,hrr⟩,_⟩ | ⟨_,_,_,_,hap',_⟩
  ·simp only [(hi0 va [] 0).2] at hw;refine ⟨{t:=bu s.t oi.dst (.aT []),b:=s.b},by unfold bc;rw [hw],?_⟩;rw [goA,hput]
  ·simp only [(hi0 va [] 0).2] at hw;simp only [(hi0 va _ _).1] at hd;unfold dA at hd;rw [et hoa hne hia hai q1] at hro;rw [xu hmate hbi' hya hvar (hcp hro)] at hd;refine ⟨{t:=bu s.t oi.dst v,b:=s.b},by unfold bc dA;simp only [hw,ali,hd,hro],?_⟩;rw [goA,hput]
  ·rw [hask] at hk;cases hk
  ·simp only [bM,Bool.and_eq_true] at hs';simp only [(hi0 va [] 0).2] at hw;simp only [(hi0 va _ _).1] at hd;rw [et hoa hne hia hai q1] at hrr;rw [C9 hmate hbi' (hcp hrr) hd] at hs';exact absurd hs'.1.1 (by simp)
  ·simp only [bY,nD hncl,Bool.false_and,Bool.false_eq_true] at hap'
 by_cases hSi:bL ops s1.t oi.guard=some true∧ ∃v k y,bV c (e9 cf (bY c ops i oi.op)) oi.op s1.t (dA ops base i s1.b) (cv ops.toList i base)=some (v,.ig k y)∧((bM ops i oi.op=true∧sK oi.op y=true)∧cu c ops i oi.op s1.t=true)∧((gN ops i).all fun p=>fj k (s1.t.get .any p))=true∧s2={t:=bu s1.t oi.dst v,b:=s1.b.set k y}
 ·obtain ⟨hwi,vi,k,y,hdi,⟨⟨hsi,hyi⟩,hri⟩,hci,rfl⟩:=hSi;have hgi:=AJ hoi ali hsi;obtain ⟨hmate,hnear⟩:=mateAt hoi hoa (by omega) hia hai hsi hba';obtain ⟨hask,hncl⟩:=xv hmate hba';have hvar:=storeAt hyi hdi
  have main: ∀va,s1={t:=bu s.t oa.dst va,b:=s.b}→bc c cf ops base i oi s=some {t:=bu s.t oi.dst vi,b:=s.b.set k y}:=by intro va e;subst e;simp only [(hi0 va [] 0).2] at hwi;simp only [(hi0 va _ _).1] at hdi;rw [iO hsi hoa hne hia hai] at hci;rw [et hoa hne hia hai q1] at hri;unfold bc;simp only [hwi,ali,hdi,hsi,hyi,hri,hci,Bool.and_self]
  rcases gx ala h1 with ⟨hw,rfl⟩ | ⟨hw,v,⟨hd,hro,rfl⟩ | ⟨x,hk,_⟩⟩ | hh | ⟨_,_,_,_,hap',_⟩
  rotate_right
  ·simp only [bY,nD hncl,Bool.false_and,Bool.false_eq_true] at hap'
  ·refine ⟨_,main _ rfl,?_⟩;unfold bc;simp only [(ha0 vi [] 0).2,hw];rw [hput]
  ·refine ⟨_,main _ rfl,?_⟩
   have hcp': ∀p,c9 oa.op=some p→fj k (s.t.get .any p)=true:=fun p hp=>by
    obtain ⟨q,hq,hqn⟩:=hnear p hp;rw [iO hsi hoa hne hia hai,List.all_eq_true] at hci;exact xx hgi hro hp hq (hci q hqn)
   have hd':=xu (c:=c) (cf:=e9 cf (bY c ops a oa.op)) (x:=y) (ms:=cZ (fM ops) a ops.toList 0 base) hmate hba' hyi hvar hcp' (cv ops.toList a base);unfold dA at hd;rw [hd] at hd';unfold bc dA;simp only [(ha0 vi [] 0).2,hw,ala,(ha0 vi _ _).1,hd',et hoi hne' hai hia q3,hro];rw [hput]
  ·rw [hask] at hk;cases hk
  ·exact absurd hh hSa
 /- a call's new box beside what looks on -/
 have peekAt: ∀{x y:Nat} {ox oy:Oper},ops[x]?=some ox→ops[y]?=some oy→y≠x→ordered (fM ops) x y=false→ordered (fM ops) y x=false→bY c ops x ox.op=true→blind oy.op=false→
   ∃p q,eV oy.op=some p∧fV ops y p=some q∧q∈jI ops x:=by
  intro x y ox oy _ hy hne h1 h2 hs hb;have hs':=hs;simp only [bY,Bool.and_eq_true] at hs';have hm:=sQ ops.toList 0 y oy hs'.1.2 (by simpa using hy);have hneb:(0+y==x)=false:=by simpa using hne
  rw [hneb,Nat.zero_add,h1,h2,hb] at hm;simp only [Bool.or_self,Bool.false_or] at hm;obtain ⟨q,hq⟩:=Option.isSome_iff_exists.1 hm;have hq':=hq;unfold mA at hq';split at hq'
  case h_2=>cases hq'
  rename_i p hp;refine ⟨p,q,hp,hq',AM ops.toList 0 y oy (by simpa using hy) (by rw [Nat.zero_add];exact hq) ?_⟩;rw [hneb,Nat.zero_add,h1,h2];rfl
 by_cases hPa:bL ops s.t oa.guard=some true∧ ∃v x,bV c (e9 cf (bY c ops a oa.op)) oa.op s.t (dA ops base a s.b) (cv ops.toList a base)=some (v,.app x)∧bY c ops a oa.op=true∧((jI ops a).all fun p=>jc s.b.length (s.t.get .any p))=true∧s1={t:=bu s.t oa.dst v,b:=s.b++ [x]}
 ·obtain ⟨hwa,va,x,hda,hsa,hca,rfl⟩:=hPa;obtain ⟨p,q,hp,hq,hpm⟩:=peekAt hoa hoi (by omega) hai hia hsa hbi';obtain ⟨hask,hnst,hncl⟩:=xz hp
  have hcq:jc s.b.length (s.t.get .any q)=true:=by rw [List.all_eq_true] at hca;exact hca q hpm
  have hany:=EL hoa ala hsa
  have hcp:cu c ops i oi.op s.t=true→jc s.b.length (s.t.get .any p)=true:=fun h=>by
   unfold cu at h;rw [AK hp] at h;simp only [hq,hany,Bool.not_true,Bool.false_or,Bool.and_eq_true] at h;have h:=h.1;rw [AN h];exact hcq
  have goA: ∀v,bc c cf ops base a oa {t:=bu s.t oi.dst v,b:=s.b}=some {t:=bu (bu s.t oi.dst v) oa.dst va,b:=s.b++ [x]}:=fun v=>by
   unfold bc;rw [hsa] at hda;simp only [(ha0 v [] 0).2,hwa,ala,hsa,(ha1 (e9 cf true) v _ _).1,hda,kK hsa hoi,hca,Bool.and_self]
  rcases gx ali h2 with ⟨hw,rfl⟩ | ⟨hw,v,⟨hd,hro,rfl⟩ | ⟨y,hk,_⟩⟩ | ⟨hw,v,k',y',hd,⟨⟨hs',_⟩,hrr⟩,_⟩ | ⟨_,_,_,_,hap',_⟩
  ·simp only [(hi0 va [] 0).2] at hw;refine ⟨{t:=bu s.t oi.dst (.aT []),b:=s.b},by unfold bc;rw [hw],?_⟩;rw [goA,hput]
  ·simp only [(hi0 va [] 0).2] at hw;simp only [(hi0 va _ _).1] at hd;unfold dA at hd;rw [et hoa hne hia hai q1] at hro;rw [xy hp (hcp hro)] at hd;refine ⟨{t:=bu s.t oi.dst v,b:=s.b},by unfold bc dA;simp only [hw,ali,hd,hro],?_⟩;rw [goA,hput]
  ·rw [hask] at hk;cases hk
  ·simp only [bM,Bool.and_eq_true] at hs';rw [hnst] at hs';exact absurd hs'.1.1 (by simp)
  ·simp only [bY,nD hncl,Bool.false_and,Bool.false_eq_true] at hap'
 by_cases hPi:bL ops s1.t oi.guard=some true∧ ∃v x,bV c (e9 cf (bY c ops i oi.op)) oi.op s1.t (dA ops base i s1.b) (cv ops.toList i base)=some (v,.app x)∧bY c ops i oi.op=true∧((jI ops i).all fun p=>jc s1.b.length (s1.t.get .any p))=true∧s2={t:=bu s1.t oi.dst v,b:=s1.b++ [x]}
 ·obtain ⟨hwi,vi,x,hdi,hsi,hci,rfl⟩:=hPi;obtain ⟨p,q,hp,hq,hpm⟩:=peekAt hoi hoa (by omega) hia hai hsi hba';obtain ⟨hask,hnst,hncl⟩:=xz hp
  have main: ∀va,s1={t:=bu s.t oa.dst va,b:=s.b}→bc c cf ops base i oi s=some {t:=bu s.t oi.dst vi,b:=s.b++ [x]}∧jc s.b.length (s.t.get .any q)=true:=by
   intro va e;subst e;simp only [(hi0 va [] 0).2] at hwi;simp only [(hi0 va _ _).1] at hdi;rw [kK hsi hoa] at hci;refine ⟨?_,?_⟩
   ·unfold bc;rw [hsi] at hdi;simp only [hwi,ali,hsi,hdi,hci,Bool.and_self]
   ·rw [List.all_eq_true] at hci;exact hci q hpm
  rcases gx ala h1 with ⟨hw,rfl⟩ | ⟨hw,v,⟨hd,hro,rfl⟩ | ⟨y,hk,_⟩⟩ | hh | ⟨_,_,_,_,hap',_⟩
  ·refine ⟨_,(main _ rfl).1,?_⟩;unfold bc;simp only [(ha0 vi [] 0).2,hw];rw [hput]
  ·obtain ⟨m1,m2⟩:=main _ rfl;refine ⟨_,m1,?_⟩
   have m2:jc s.b.length (s.t.get .any p)=true:=by have h:=hro;unfold cu at h;rw [AK hp] at h;simp only [hq,EL hoi ali hsi,Bool.not_true,Bool.false_or,Bool.and_eq_true] at h;have h:=h.1;rw [AN h];exact m2
   have hd':=xy (c:=c) (cf:=e9 cf (bY c ops a oa.op)) (x:=x) (ms:=cZ (fM ops) a ops.toList 0 base) hp m2 (cv ops.toList a base);unfold dA at hd;rw [hd] at hd';unfold bc dA;simp only [(ha0 vi [] 0).2,hw,ala,(ha0 vi _ _).1,hd',et hoi hne' hai hia q3,hro];rw [hput]
  ·rw [hask] at hk;cases hk
  ·exact absurd hh hSa
  ·simp only [bY,nD hncl,Bool.false_and,Bool.false_eq_true] at hap'
 have hidn:asks oa.op=true→cv ops.toList a base≠cv ops.toList i base:=fun h=>Nat.ne_of_lt (EK ops.toList a i base oa (by simpa using hoa) h hlt);have hma:asks oa.op=true→ ∀bs x,dA ops base i (bs.set (cv ops.toList a base) x)=dA ops base i bs:=fun h bs x=>sO (uO ops.toList 0 base a oa (by simpa using hoa) h (by simpa using hai)) bs x;have hmi:asks oi.op=true→ ∀bs x,dA ops base a (bs.set (cv ops.toList i base) x)=dA ops base a bs:=fun h bs x=>sO (uO ops.toList 0 base i oi (by simpa using hoi) h (by simpa using hia)) bs x
 /- the second operation, taken first -/
 have goI: ∀(va:AV) (bs1:List ad),s1={t:=bu s.t oa.dst va,b:=bs1}→dA ops base i bs1=dA ops base i s.b→(asks oi.op=true→bs1[cv ops.toList i base]?=s.b[cv ops.toList i base]?)→
   ∃(vi:AV) (f:List ad→List ad),bc c cf ops base i oi s=some {t:=bu s.t oi.dst vi,b:=f s.b}∧s2={t:=bu (bu s.t oa.dst va) oi.dst vi,b:=f bs1}∧
    (f=id∨(asks oi.op=true∧ ∃y,f=fun bs=>bs.set (cv ops.toList i base) y)):=by
  intro va bs1 hs1 hmask hdead;subst hs1;rcases gx ali h2 with ⟨hw,rfl⟩ | ⟨hw,v,⟨hd,hro,rfl⟩ | ⟨x,hask,hde,hd,rfl⟩⟩ | hh | hh
  case' inr.inr.inl=>exact absurd hh hSi
  case' inr.inr.inr=>exact absurd hh hPi
  ·simp only at hw;rw [(hi0 va [] 0).2] at hw;exact ⟨.aT [],id,by unfold bc;rw [hw];rfl,rfl,.inl rfl⟩
  ·simp only at hw hd;rw [(hi0 va [] 0).2] at hw;rw [(hi0 va _ _).1,hmask] at hd;have hro':cu c ops i oi.op s.t=true:=by rw [←et hoa hne hia hai q1];exact hro
   exact ⟨v,id,by unfold bc;rw [hw,ali];simp only [hd,hro'];rfl,rfl,.inl rfl⟩
  ·simp only at hw hd hde;rw [(hi0 va [] 0).2] at hw;rw [(hi0 va _ _).1,hmask] at hd;rw [hdead hask] at hde;exact ⟨v,fun bs=>bs.set (cv ops.toList i base) x,by unfold bc;rw [hw,ali];simp only [hd,hask,hde],rfl,.inr ⟨hask,x,rfl⟩⟩
 /- the first operation, taken second -/
 have fin: ∀(vi:AV) (f:List ad→List ad),(f=id∨(asks oi.op=true∧ ∃y,f=fun bs=>bs.set (cv ops.toList i base) y))→ ∀(va:AV) (h:List ad→List ad),(h=id∨(asks oa.op=true∧ ∃x,h=fun bs=>bs.set (cv ops.toList a base) x))→
   ({t:=bu (bu s.t oa.dst va) oi.dst vi,b:=f (h s.b)}:St)={t:=bu (bu s.t oi.dst vi) oa.dst va,b:=h (f s.b)}:=by
  intro vi f hf va h hh;rw [hput va vi];congr 1;rcases hf with rfl | ⟨hai',y,rfl⟩ <;> rcases hh with rfl | ⟨haa,x,rfl⟩ <;> try rfl
  simp only;exact List.set_comm _ _ (hidn haa)
 have maskF: ∀(f:List ad→List ad),(f=id∨(asks oi.op=true∧ ∃y,f=fun bs=>bs.set (cv ops.toList i base) y))→dA ops base a (f s.b)=dA ops base a s.b:=fun f hf=>by
  rcases hf with rfl | ⟨h,y,rfl⟩
  ·rfl
  ·exact hmi h s.b y
 rcases gx ala h1 with ⟨hw,hs1⟩ | ⟨hw,va,⟨hd,hro,hs1⟩ | ⟨x,hask,hde,hd,hs1⟩⟩ | hh | hh
 case' inr.inr.inl=>exact absurd hh hSa
 case' inr.inr.inr=>exact absurd hh hPa
 ·obtain ⟨vi,f,k1,k2,k3⟩:=goI _ _ hs1 rfl (fun _=>rfl);refine ⟨_,k1,?_⟩;unfold bc;simp only;rw [(ha0 vi [] 0).2,hw];simp only;rw [k2];exact congrArg some (fin vi f k3 (.aT []) id (.inl rfl)).symm
 ·obtain ⟨vi,f,k1,k2,k3⟩:=goI _ _ hs1 rfl (fun _=>rfl);refine ⟨_,k1,?_⟩;unfold bc;simp only;rw [(ha0 vi [] 0).2,hw,ala];simp only;rw [(ha0 vi _ _).1,maskF f k3,hd];simp only [et hoi hne' hai hia q3,hro];rw [k2];exact congrArg some (fin vi f k3 va id (.inl rfl)).symm
 ·obtain ⟨vi,f,k1,k2,k3⟩:=goI _ _ hs1 (hma hask s.b x) (fun _=>by rw [List.getElem?_set,if_neg (hidn hask)]);refine ⟨_,k1,?_⟩;unfold bc;simp only;rw [(ha0 vi [] 0).2,hw,ala];simp only;rw [(ha0 vi _ _).1,maskF f k3,hd]
  have hde':(f s.b)[cv ops.toList a base]?=some .dead:=by
   rcases k3 with rfl | ⟨hai',y,rfl⟩
   ·exact hde
   ·simp only;rw [List.getElem?_set,if_neg (fun e=>hidn hask e.symm)];exact hde
  simp only [hask,hde'];rw [k2];exact congrArg some (fin vi f k3 va (fun bs=>bs.set (cv ops.toList a base) x) (.inr ⟨hask,x,rfl⟩)).symm
def steps (c:ax) (cf:aL) (ops:Array Oper) (base:Nat):List Nat→St→Option St
 | [],s=>some s
 | i::r,s=>match ops[i]? with
  | some o=>match bc c cf ops base i o s with
   | some s'=>steps c cf ops base r s'
   | none=>none
  | none=>none
theorem lD: ∀(l:List Oper) (k:Nat) (s:St),(∀j,l[j]?=ops[k+j]?)→FP c cf ops base l k s=steps c cf ops base (List.range' k l.length) s
 | [],k,s,_=>rfl
 | o::r,k,s,h=>by
  have h0:ops[k]?=some o:=by simpa using (h 0).symm
  simp only [FP,List.length_cons,List.range'_succ,steps,h0];cases hs:bc c cf ops base k o s with
  | none=>rfl
  | some s'=>simp only;exact lD r (k+1) s' (fun j=>by have:=h (j+1);simpa [Nat.add_assoc,Nat.add_comm 1 j] using this)
theorem uT {i:Nat} {oi:Oper} (hoi:ops[i]?=some oi): ∀(A B:List Nat) (s s':St),(∀a∈A,a<i∧ordered (fM ops) a i=false∧ordered (fM ops) i a=false∧ ∀oa,ops[a]?=some oa→oa.apart ops oi=true)→
  steps c cf ops base (A++i::B) s=some s'→ ∃s1,bc c cf ops base i oi s=some s1∧steps c cf ops base (A++B) s1=some s'
 | [],B,s,s',_,h=>by
  simp only [List.nil_append,steps,hoi] at h;split at h
  ·rename_i s1 hs1;exact ⟨s1,hs1,h⟩
  ·cases h
 | a::A,B,s,s',hA,h=>by
  simp only [List.cons_append,steps] at h;split at h
  ·rename_i oa hoa;split at h
   ·rename_i s1 hs1;obtain ⟨s2,h2,h3⟩:=uT hoi A B s1 s' (fun x hx=>hA x (List.mem_cons_of_mem _ hx)) h;obtain ⟨q1,q2,q3,q4⟩:=hA a List.mem_cons_self;obtain ⟨s1',k1,k2⟩:=comm hoa hoi q1 (q4 oa hoa) q2 q3 hs1 h2;exact ⟨s1',k1,by simp only [List.cons_append,steps,hoa,k2];exact h3⟩
   ·cases h
  ·cases h
variable {P:Program} [Kn]
theorem AQ (hc:bI c P) (hcf:o5 P cf) (hov:Az P c) (hdr:rB ops=true) {Q:Exit→Act→World→Prop} {s':St} {g0:Gh} {w0:World} {ds:List Deferred} {ro:Option Nat}
  (hQ: ∀a' w',EM ds g0 w0 s' a' w'→Q .normal a' w'):
  ∀(fuel:Nat) (L:List Nat) (listed:Array Bool) (s:St) (g:Gh) (w:World) (a:Act),L.length=fuel→L.Pairwise (· < ·)→listed.size=ops.size→(∀j,j∈L↔j<ops.size∧listed.getD j true=false)→
   (∀j x,j<ops.size→listed.getD j true=true→ordered (fM ops) x j=true→listed.getD x true=true)→
   steps c cf ops base L s=some s'→Mem g s.b w→fx g w s.t a→a.defers=ds→Le g0 w0 g w→Fr g0 w0 g w→wpAnyIn (FW ro) 0 P .any ops Q fuel listed a w:=by
 simp only [rB,Bool.and_eq_true] at hdr;obtain ⟨hback,hpairs⟩:=hdr;intro fuel
 induction fuel with
 | zero=>intro L listed s g w a hlen hsort hsize hmem hcl h hm ht hd hl hf;have hL:L= []:=List.eq_nil_of_length_eq_zero hlen;subst hL;cases h;refine ⟨?_,hQ a w ⟨hd,g,hm,ht,hl,hf⟩⟩;unfold Region.ready;rw [List.filter_eq_nil_iff];intro j hj hr;rw [List.mem_range] at hj;simp only [Bool.and_eq_true,Bool.not_eq_true'] at hr;exact absurd ((hmem j).2 ⟨hj,hr.1⟩) (by simp)
 | succ fuel ih=>
  intro L listed s g w a hlen hsort hsize hmem hcl h hm ht hd hl hf;refine ⟨fun hr=> ?_,fun i hi=> ?_⟩
  ·exfalso;cases L with
   | nil=>simp at hlen
   | cons i0 L=>
    obtain ⟨h1,h2⟩:=(hmem i0).1 List.mem_cons_self
    have:i0∈Region.ready .any ops listed:=by
     unfold Region.ready;rw [List.mem_filter,List.mem_range];refine ⟨h1,?_⟩;have ho:ops[i0]?=some ops[i0]:=by simp [h1]
     simp only [h2,ho,Option.map_some,Option.getD_some,Bool.not_false,Bool.true_and,Array.all_eq_true_iff_forall_mem];intro e he;cases hb:Region.binds .any e with
     | false=>rfl
     | true=>
      have hlt:=gw ops.toList 0 i0 ops[i0] hback (by simp [h1]) e he hb;simp only [Nat.zero_add] at hlt
      have hlis:listed.getD e.on true=true:=by
       cases hx:listed.getD e.on true with
       | true=>rfl
       | false=>
        have hin:=(hmem e.on).2 ⟨by omega,hx⟩;rcases List.mem_cons.1 hin with rfl | hin
        ·omega
        ·have:=List.rel_of_pairwise_cons hsort hin;omega
      have hsz:e.on<listed.size:=by omega
      simp [hsz] at hlis⊢;exact hlis
    rw [hr] at this;cases this
  ·unfold Region.ready at hi;rw [List.mem_filter,List.mem_range] at hi;obtain ⟨hisz,hi⟩:=hi;simp only [Bool.and_eq_true,Bool.not_eq_true'] at hi;obtain ⟨hun,hrd⟩:=hi;have hoi:ops[i]?=some ops[i]:=by simp [hisz]
   rw [hoi] at hrd;simp only [Option.map_some,Option.getD_some,Array.all_eq_true_iff_forall_mem] at hrd
   have hall: ∀x,ordered (fM ops) x i=true→listed.getD x true=true:=fun x hx=>by
    obtain ⟨e,he,hb,h3⟩:=lC hback hoi hx;have h4:=hrd e he;rw [hb] at h4;have hlt:=gw ops.toList 0 i ops[i] hback (by simp [hisz]) e he hb;simp only [Nat.zero_add] at hlt;have hsz:e.on<listed.size:=by omega
    have h5:listed.getD e.on true=true:=by simp [hsz] at h4⊢;exact h4
    rcases h3 with rfl | h3
    ·exact h5
    ·exact hcl e.on x (by omega) h5 h3
   obtain ⟨A,B,rfl⟩:=List.append_of_mem ((hmem i).2 ⟨hisz,hun⟩)
   have hA: ∀x∈A,x<i∧ordered (fM ops) x i=false∧ordered (fM ops) i x=false∧ ∀ox,ops[x]?=some ox→ox.apart ops ops[i]=true:=fun x hx=>by
    have hlt:x<i:=(List.pairwise_append.1 hsort).2.2 x hx i List.mem_cons_self;obtain ⟨hxs,hxu⟩:=(hmem x).1 (List.mem_append_left _ hx)
    have h1:ordered (fM ops) x i=false:=by
     cases hh:ordered (fM ops) x i with
     | false=>rfl
     | true=>rw [hall x hh] at hxu;cases hxu
    have h2:ordered (fM ops) i x=false:=by
     cases hh:ordered (fM ops) i x with
     | false=>rfl
     | true=>have:=C6 hback x i hxs hh;omega
    refine ⟨hlt,h1,h2,fun ox hox=> ?_⟩;have:=AE ops.toList 0 x i ox ops[i] hpairs (by simpa using hox) hlt (by simp [hisz]);simp only [Nat.zero_add,h1,Bool.false_eq_true,false_or] at this;exact this
   obtain ⟨s1,h1,h2⟩:=uT hoi A B s s' hA h
   have next: ∀(g':Gh) (w':World) (a':Act),Mem g' s1.b w'→fx g' w' s1.t a'→a'.defers=ds→Le g0 w0 g' w'→Fr g0 w0 g' w'→wpAnyIn (FW ro) 0 P .any ops Q fuel (listed.setIfInBounds i true) a' w':=fun g' w' a' hm' ht' hd' hl' hf'=>by
    refine ih (A++B) (listed.setIfInBounds i true) s1 g' w' a' (by simp at hlen⊢;omega) ?_ (by simp [hsize]) (fun j=> ?_) (fun j x hj hlj hx=> ?_) h2 hm' ht' hd' hl' hf'
    ·exact hsort.sublist (List.Sublist.append_left (List.sublist_cons_self i B) A)
    ·have hj:=hmem j
     have hnd:i∉A∧i∉B:=by
      obtain ⟨p1,p2,p3⟩:=List.pairwise_append.1 hsort;refine ⟨fun hx=> ?_,fun hx=> ?_⟩
      ·have:=p3 i hx i List.mem_cons_self;omega
      ·have:=List.rel_of_pairwise_cons p2 hx;omega
     by_cases e:j=i
     ·subst e;have hjs:j<listed.size:=by omega
      simp [hnd.1,hnd.2,hjs]
     ·rw [List.mem_append,List.mem_cons] at hj
      have hg:(listed.setIfInBounds i true).getD j true=listed.getD j true:=by simp [Array.getD_eq_getD_getElem?,Array.getElem?_setIfInBounds_ne (Ne.symm e)]
      rw [hg,List.mem_append,←hj];constructor
      ·rintro (hx | hx)
       ·exact .inl hx
       ·exact .inr (.inr hx)
      ·rintro (hx | rfl | hx)
       ·exact .inl hx
       ·exact absurd rfl e
       ·exact .inr hx
    ·have hset: ∀y,listed.getD y true=true→(listed.setIfInBounds i true).getD y true=true:=fun y hy=>by
      by_cases e:y=i
      ·subst e;have hys:y<listed.size:=by omega
       simp [hys]
      ·simp only [Array.getD_eq_getD_getElem?] at hy⊢;rw [Array.getElem?_setIfInBounds_ne (Ne.symm e)];exact hy
     by_cases e:j=i
     ·subst e;exact hset x (hall x hx)
     ·have hg:listed.getD j true=true:=by
       simp only [Array.getD_eq_getD_getElem?] at hlj⊢
       rwa [Array.getElem?_setIfInBounds_ne (Ne.symm e)] at hlj
      exact hset x (hcl j x hj hg hx)
   unfold wpOpIn;rw [hoi];simp only;unfold bc at h1;split at h1
   ·rename_i hw;rw [je ht hw,if_pos rfl];split at h1
    ·split at h1
     ·rename_i v e hop;split at h1
      ·rename_i bs' he;cases h1;exact nE hc hcf hov hm ht hop he (fun v' w' g' k1 k2 k3 k4=>next g' w' _ k1 ((ht.mono k2).put _ k4) (by rw [put_defers];exact hd) (hl.trans k2) (hf.trans k3)) ro
      ·cases h1
     ·cases h1
    ·split at h1
     ·rename_i v hop;split at h1
      case h_2=>cases h1
      cases h1;have hop':=uU (dU _ s.b) (e:= .none) trivial hop;exact nE hc (qb hcf _) hov hm ht hop' rfl (fun v' w' g' k1 k2 k3 k4=>next g' w' _ k1 ((ht.mono k2).put _ k4) (by rw [put_defers];exact hd) (hl.trans k2) (hf.trans k3)) ro
     ·rename_i v x hop;split at h1
      ·rename_i hask hdead;cases h1;have hop':=uU (dU _ s.b) (e:= .new x) trivial hop;exact nE hc (qb hcf _) hov hm ht hop' (bs':=s.b.set (cv ops.toList i base) x) (by simp only [cY.on,hdead]) (fun v' w' g' k1 k2 k3 k4=>next g' w' _ k1 ((ht.mono k2).put _ k4) (by rw [put_defers];exact hd) (hl.trans k2) (hf.trans k3)) ro
      ·cases h1
     ·rename_i v k x hop;split at h1
      ·rename_i hcalm;cases h1;rw [Bool.and_eq_true,Bool.and_eq_true,Bool.and_eq_true] at hcalm
       have hop':bV c (e9 cf (bY c ops i ops[i].op)) ops[i].op s.t s.b (cv ops.toList i base)=some (v,.ig k x):=by
        have hx:=hcalm.1.1.2;cases x with
        | var ty cs=>exact FY hx (dU _ s.b) hop
        | sl sh sz es=>exact HS hx (dU _ s.b) hop
        | dead=>cases hx
        | loop st=>cases hx
        | mp es clock=>cases hx
        | gone=>cases hx
        | iter o=>cases hx
       exact nE hc (qb hcf _) hov hm ht hop' (bs':=s.b.set k x) rfl (fun v' w' g' k1 k2 k3 k4=>next g' w' _ k1 ((ht.mono k2).put _ k4) (by rw [put_defers];exact hd) (hl.trans k2) (hf.trans k3)) ro
      ·cases h1
     ·rename_i v x hop;split at h1
      ·rename_i hcalm;cases h1;rw [Bool.and_eq_true] at hcalm
       have hcv:eC ops[i].op=true:=by have:=hcalm.1;simp only [bY,Bool.and_eq_true] at this;exact AH this.1.1
       have hop':=Kl (dU _ s.b) (mE _ s.b) hcv hop;exact nE hc (qb hcf _) hov hm ht hop' (bs':=s.b++ [x]) rfl (fun v' w' g' k1 k2 k3 k4=>next g' w' _ k1 ((ht.mono k2).put _ k4) (by rw [put_defers];exact hd) (hl.trans k2) (hf.trans k3)) ro
      ·cases h1
     ·cases h1
   ·rename_i hw;cases h1;rw [je ht hw,if_neg (by simp)];refine ⟨fun _ _=>trivial,?_⟩;exact next g w _ hm (ht.put _ (.aT [] #[] rfl (fun i c v h=>by simp at h))) (by rw [put_defers];exact hd) hl hf
   ·cases h1
end
end Go.Am
