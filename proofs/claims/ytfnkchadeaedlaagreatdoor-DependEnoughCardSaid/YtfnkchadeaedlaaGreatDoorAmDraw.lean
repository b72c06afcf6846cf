/-
 Regions that draw their order: whatever order the tape picks, the abstract machine's lexical run describes the end.
-/
import Derived.Test.YtfnkchadeaedlaaGreatDoorAmMono
set_option linter.all false
namespace Go.Am
theorem Cl {m:List Nat} {o:Oper} {a:Nat} (h:(yi m o).testBit a=true): ∃e∈o.after,Region.binds .any e=true∧(a=e.on∨(m.getD e.on 0).testBit a=true):=by
 have key: ∀(l:List Edge) (s:Nat),(l.foldl (fun s e=>match Region.binds .any e with | true=>s ||| (2^e.on ||| m.getD e.on 0) | false=>s) s).testBit a=true→
   s.testBit a=true∨ ∃e∈l,Region.binds .any e=true∧(a=e.on∨(m.getD e.on 0).testBit a=true):=by
  intro l
  induction l with
  | nil=>intro s h;exact .inl h
  | cons e l ih=>
   intro s h;rw [List.foldl_cons] at h;rcases ih _ h with h1 | ⟨e',he',h2⟩
   ·split at h1
    ·rename_i hb;simp only [Nat.testBit_or,Bool.or_eq_true] at h1;rcases h1 with h1 | h1 | h1
     ·exact .inl h1
     ·refine .inr ⟨e,List.mem_cons_self,hb,.inl ?_⟩;rw [Nat.testBit_two_pow] at h1;exact (by simpa using h1:e.on=a).symm
     ·exact .inr ⟨e,List.mem_cons_self,hb,.inr h1⟩
    ·exact .inl h1
   ·exact .inr ⟨e',List.mem_cons_of_mem _ he',h2⟩
 rcases key o.after.toList 0 h with h1 | ⟨e,he,h2⟩
 ·simp at h1
 ·exact ⟨e,by simpa using he,h2⟩
theorem uo: ∀(l:List Oper) (m:List Nat) (j:Nat),j<m.length→(zI l m).getD j 0=m.getD j 0
 | [],m,j,_=>rfl
 | o::r,m,j,h=>by
  simp only [zI];rw [uo r _ j (by simp;omega)];simp only [List.getD_eq_getElem?_getD,List.getElem?_append_left h]
theorem D1: ∀(l:List Oper) (m:List Nat) (k:Nat) (o:Oper),l[k]?=some o→ ∃m',(zI l m).getD (m.length+k) 0=yi m' o∧ ∀j,j<m.length+k→(zI l m).getD j 0=m'.getD j 0
 | [],m,k,o,h=>by simp at h
 | p::r,m,0,o,h=>by
  simp at h;subst h;refine ⟨m,?_,fun j hj=>uo (p::r) m j hj⟩;simp only [zI,Nat.add_zero];rw [uo r _ m.length (by simp)];simp [List.getD_eq_getElem?_getD]
 | p::r,m,k+1,o,h=>by
  simp at h;obtain ⟨m',h1,h2⟩:=D1 r (m++ [yi m p]) k o h;simp only [zI];simp only [List.length_append,List.length_cons,List.length_nil] at h1 h2;exact ⟨m',by rw [←h1];congr 1;omega,fun j hj=>h2 j (by omega)⟩
theorem gk: ∀(l:List Oper) (k i:Nat) (o:Oper),cG l k=true→l[i]?=some o→ ∀e∈o.after,Region.binds .any e=true→e.on<k+i
 | [],k,i,o,_,h=>by simp at h
 | p::r,k,0,o,hb,h=>by
  simp at h;subst h;simp only [cG,Bool.and_eq_true,List.all_eq_true] at hb;intro e he hbe;have:=hb.1 e (by simpa using he);simpa [hbe] using this
 | p::r,k,i+1,o,hb,h=>by
  simp at h;simp only [cG,Bool.and_eq_true] at hb;intro e he hbe;have:=gk r (k+1) i o hb.2 h e he hbe;omega
theorem lh {ops:Array Oper} (hb:cG ops.toList 0=true) {a i:Nat} {o:Oper} (ho:ops[i]?=some o) (h:ordered (fC ops) a i=true): ∃e∈o.after,Region.binds .any e=true∧(a=e.on∨ordered (fC ops) a e.on=true):=by
 have ho':ops.toList[i]?=some o:=by simpa using ho
 obtain ⟨m',h1,h2⟩:=D1 ops.toList [] i o ho';simp only [List.length_nil,Nat.zero_add] at h1 h2;unfold ordered fC at h;rw [h1] at h;obtain ⟨e,he,hbe,h3⟩:=Cl h;refine ⟨e,he,hbe,h3.imp id (fun h3=> ?_)⟩;have hlt:=gk ops.toList 0 i o hb ho' e he hbe;unfold ordered fC;rw [h2 e.on (by omega)];exact h3
theorem Cm {ops:Array Oper} (hb:cG ops.toList 0=true): ∀(i a:Nat),i<ops.size→ordered (fC ops) a i=true→a<i:=by
 intro i
 induction i using Nat.strongRecOn with
 | _ i ih=>
  intro a hi h;have ho:ops[i]?=some ops[i]:=by simp [hi]
  obtain ⟨e,he,hbe,h3⟩:=lh hb ho h;have hlt:=gk ops.toList 0 i ops[i] hb (by simp) e he hbe;rcases h3 with h3 | h3
  ·omega
  ·have:=ih e.on (by omega) a (by omega) h3;omega
theorem uq {ops:Array Oper} {b:List Nat} {o:Oper} {i:Nat}: ∀(l:List Oper) (j k:Nat) (p:Oper),pI ops b o i l j=true→l[k]?=some p→ordered b i (j+k)=true∨o.apart ops p=true
 | [],j,k,p,_,h=>by simp at h
 | q::r,j,0,p,hb,h=>by
  simp at h;subst h;simp only [pI,Bool.and_eq_true,Bool.or_eq_true] at hb;exact hb.1
 | q::r,j,k+1,p,hb,h=>by
  simp at h;simp only [pI,Bool.and_eq_true] at hb;have:=uq r (j+1) k p hb.2 h
  rwa [show j+1+k=j+(k+1) by omega] at this
theorem zT {ops:Array Oper} {b:List Nat}: ∀(l:List Oper) (i k m:Nat) (o p:Oper),me ops b l i=true→l[k]?=some o→k<m→l[m]?=some p→ordered b (i+k) (i+m)=true∨o.apart ops p=true
 | [],i,k,m,o,p,_,h,_,_=>by simp at h
 | q::r,i,0,m,o,p,hb,h,hlt,hp=>by
  simp at h;subst h;simp only [me,Bool.and_eq_true] at hb;cases m with
  | zero=>omega
  | succ m=>
   simp at hp;have:=uq r (i+1) m p hb.1.2 hp
   rwa [show i+1+m=i+(m+1) by omega] at this
 | q::r,i,k+1,m,o,p,hb,h,hlt,hp=>by
  simp at h;simp only [me,Bool.and_eq_true] at hb;cases m with
  | zero=>omega
  | succ m=>
   simp at hp;have:=zT r (i+1) k m o p hb.2 h (by omega) hp
   rwa [show i+1+k=i+(k+1) by omega,show i+1+m=i+(m+1) by omega] at this
theorem ur {ops:Array Oper} {i j:Nat} (hj:j<ops.size) (hne:j≠i) (h1:ordered (fC ops) i j=false) (h2:ordered (fC ops) j i=false) (ha:alone ops i=true):np ops j=true:=by
 have key: ∀n,j<n→yj ops (fC ops) i n=true→np ops j=true:=by
  intro n
  induction n with
  | zero=>intro h;omega
  | succ n ih=>
   intro h hh;simp only [yj,Bool.and_eq_true] at hh;by_cases e:j=n
   ·subst e;have:(j==i)=false:=by simpa using hne
    simpa [this,h1,h2] using hh.1
   ·exact ih (by omega) hh.2
 exact key _ hj ha
theorem Jl (id:Nat) (op:Op):id≤next id op:=by unfold next;split <;> omega
theorem Fe {id:Nat} {op:Op} (h:asks op=true):next id op=id+1:=by unfold next;rw [h]
theorem D2: ∀(l:List Oper) (i base:Nat),base≤b8 l i base
 | _,0,base=>by cases ‹List Oper› <;> exact Nat.le_refl _
 | [],i+1,base=>Nat.le_refl _
 | o::r,i+1,base=>Nat.le_trans (Jl base o.op) (D2 r i _)
theorem D3: ∀(l:List Oper) (a i base:Nat) (o:Oper),l[a]?=some o→asks o.op=true→a<i→b8 l a base<b8 l i base
 | [],a,i,base,o,h,_,_=>by simp at h
 | p::r,0,i,base,o,h,ha,hlt=>by
  simp at h;subst h;cases i with
  | zero=>omega
  | succ i=>simp only [b8];have:=D2 r i (next base p.op);rw [Fe ha] at this⊢;omega
 | p::r,a+1,i,base,o,h,ha,hlt=>by
  simp at h;cases i with
  | zero=>omega
  | succ i=>exact D3 r a i _ o h ha (by omega)
theorem uu {b:List Nat} {i:Nat}: ∀(l:List Oper) (j id a:Nat) (o:Oper),l[a]?=some o→asks o.op=true→ordered b (j+a) i=false→b8 l a id∈cR b i l j id
 | [],j,id,a,o,h,_,_=>by simp at h
 | p::r,j,id,0,o,h,ha,ho=>by
  simp at h;subst h;simp only [Nat.add_zero] at ho;simp [cR,ha,ho,b8]
 | p::r,j,id,a+1,o,h,ha,ho=>by
  simp at h;have ih:=uu r (j+1) (next id p.op) a o h ha (by rwa [show j+1+a=j+(a+1) by omega]);simp only [cR,b8];split
  ·exact List.mem_cons_of_mem _ ih
  ·exact ih
theorem mo: ∀(l:List Nat) (bs:List ab),(aR l bs).length=bs.length
 | [],bs=>rfl
 | k::r,bs=>by simp only [aR];rw [mo r];simp
theorem bR: ∀(l:List Nat) (bs:List ab) (j:Nat),(aR l bs)[j]?=if j∈l∧j<bs.length then some .dead else bs[j]?
 | [],bs,j=>by simp [aR]
 | k::r,bs,j=>by
  simp only [aR];rw [bR r];simp only [List.length_set,List.mem_cons,List.getElem?_set];by_cases h1:j∈r
  ·simp [h1];split <;> simp_all
  ·by_cases h2:k=j
   ·subst h2;by_cases h3:k<bs.length <;> simp [h1,h3]
   ·have: ¬ j=k:=fun e=>h2 e.symm;simp [h1,h2,this]
theorem so {l:List Nat} {k:Nat} (h:k∈l) (bs:List ab) (x:ab):aR l (bs.set k x)=aR l bs:=by
 apply List.ext_getElem?;intro j;rw [bR,bR,List.length_set,List.getElem?_set];by_cases e:k=j
 ·subst e;by_cases h3:k<bs.length <;> simp [h,h3]
 ·simp [e]
theorem dK (l:List Nat) (bs:List ab):Sub (aR l bs) bs:=fun k hk=>by
 simp only [ab.at,List.getD_eq_getElem?_getD] at hk⊢;rw [bR] at hk⊢;by_cases h:k∈l∧k<bs.length
 ·rw [if_pos h] at hk;simp at hk
 ·rw [if_neg h]
theorem G8 [Kn] {P:Program} {cf:aG} (h:oP P cf):oP P (pK cf) where
 fn:=fun f xs bs r bs' hr=>by
  unfold pK at hr;split at hr
  ·rename_i f' heq;cases heq;split at hr
   ·rename_i v hf;cases hr;exact h.fn _ _ _ _ _ hf
   ·rename_i v x l hf;obtain ⟨h1,h2⟩:=h.fn _ _ _ _ _ hf;refine ⟨h1,fun g w vs hm hx=>(h2 g w vs hm hx).mono fun e w' ⟨u,g',he,hm',hl,hfr,hr'⟩=> ?_⟩
    have hho:handOver ([]:List ab).length ⟨start 0 [],x::l⟩ v=some (r,bs'):=by unfold handOver;exact hr
    obtain ⟨g'',k1,k2,k3,k4⟩:=pO hm (s:=⟨start 0 [],x::l⟩) hm' hl hfr hr' hho;exact ⟨u,g'',he,k1,k2,k3,k4⟩
   ·cases hr
  ·exact h.fn _ _ _ _ _ hr
 fB:=fun k s env xs bs r bs' hr=>by
  unfold pK at hr;exact h.fB _ _ _ _ _ _ _ hr
theorem pP [Kn] {P:Program} {cf:aG} (h:oP P cf): ∀b,oP P (eQ cf b)
 | true=>h
 | false=>G8 h
theorem Jm {c:ax} {cf:aG} {op:Op} {t:Env} {bs bs':List ab} (hs:Sub bs bs') (hl:bs.length=bs'.length) (hv:eo op=true) {id:Nat} {v:AV} {x:ab} (h:bN c cf op t bs id=some (v,.app x)):bN c cf op t bs' id=some (v,.app x):=by
 unfold bN at h⊢;split at h
 ·split at h
  ·split at h
   ·split at h
    ·split at h <;> cases h
    ·unfold oc at h⊢;split at h
     ·split at h <;> cases h
     ·unfold pH at h⊢;split at h
      ·split at h <;> cases h
      unfold wG at h⊢;split at h
      ·rename_i l hl2;rw [jI hs hl2];simp only;split at h
       ·split at h
        ·split at h
         ·split at h
          ·unfold cP at h;split at h <;> cases h
          ·cases h
         ·cases h
        ·split at h
         ·split at h
          ·unfold cP at h;split at h <;> cases h
          ·cases h
         ·rename_i hcf;split at h
          ·rename_i hfr;split at h
           ·cases h
           ·rename_i hno;rw [←hl];exact h
          ·split at h <;> cases h
         ·cases h
       ·split at h <;> cases h
      ·cases h
   ·split at h <;> cases h
   ·cases h
  ·rename_i k hk;exfalso;unfold eo at hv;simp only at hv
   first
   | (cases hv;done)
   | (split at hv
      ·rename_i f hf;exact hk f hf
      ·cases hv)
 ·rename_i hk;exfalso;unfold eo at hv;split at hv
  ·rename_i k;exact hk k rfl
  ·cases hv
section
variable {c:ax} {cf:aG} {ops:Array Oper} {base:Nat}
theorem gl {i:Nat} {o:Oper} {s s':St} (hal:alone ops i=false) (h:aT c cf ops base i o s=some s'):
  (bF ops s.t o.guard=some false∧s'={t:=bo s.t o.dst (.aO []),b:=s.b})∨
  (bF ops s.t o.guard=some true∧ ∃v,(bN c (eQ cf (bQ c ops i o.op)) o.op s.t (dp ops base i s.b) (b8 ops.toList i base)=some (v,.none)∧bY c ops i o.op s.t=true∧s'={t:=bo s.t o.dst v,b:=s.b})∨
   ∃x,asks o.op=true∧s.b[b8 ops.toList i base]?=some .dead∧bN c (eQ cf (bQ c ops i o.op)) o.op s.t (dp ops base i s.b) (b8 ops.toList i base)=some (v,.new x)∧s'={t:=bo s.t o.dst v,b:=s.b.set (b8 ops.toList i base) x})∨
  (bF ops s.t o.guard=some true∧ ∃v k x,bN c (eQ cf (bQ c ops i o.op)) o.op s.t (dp ops base i s.b) (b8 ops.toList i base)=some (v,.gZ k x)∧((bG ops i o.op=true∧sf o.op x=true)∧bY c ops i o.op s.t=true)∧((gE ops i).all fun p=>eZ k (s.t.get .any p))=true∧s'={t:=bo s.t o.dst v,b:=s.b.set k x})∨
  (bF ops s.t o.guard=some true∧ ∃v x,bN c (eQ cf (bQ c ops i o.op)) o.op s.t (dp ops base i s.b) (b8 ops.toList i base)=some (v,.app x)∧bQ c ops i o.op=true∧((jE ops i).all fun p=>iU s.b.length (s.t.get .any p))=true∧s'={t:=bo s.t o.dst v,b:=s.b++ [x]}):=by
 unfold aT at h;split at h
 ·rename_i hw;rw [hal] at h;simp only at h;split at h
  ·rename_i v hd;split at h
   ·rename_i hro;cases h;exact .inr (.inl ⟨hw,v,.inl ⟨hd,hro,rfl⟩⟩)
   ·cases h
  ·rename_i v x hd;split at h
   ·rename_i ha hdead;cases h;exact .inr (.inl ⟨hw,v,.inr ⟨x,ha,hdead,hd,rfl⟩⟩)
   ·cases h
  ·rename_i v k x hd;split at h
   ·rename_i hcalm;cases h;rw [Bool.and_eq_true,Bool.and_eq_true,Bool.and_eq_true] at hcalm;exact .inr (.inr (.inl ⟨hw,v,k,x,hd,hcalm.1,hcalm.2,rfl⟩))
   ·cases h
  ·rename_i v x hd;split at h
   ·rename_i hcalm;cases h;rw [Bool.and_eq_true] at hcalm;exact .inr (.inr (.inr ⟨hw,v,x,hd,hcalm.1,hcalm.2,rfl⟩))
   ·cases h
  ·cases h
 ·rename_i hw;cases h;exact .inl ⟨hw,rfl⟩
 ·cases h
theorem uv {b:List Nat} {i p:Nat}: ∀(l:List Oper) (j:Nat),p∈mf ops b i l j→ ∃k o,l[k]?=some o∧eY ops (j+k) o.op=some p∧(j+k==i || ordered b i (j+k) || ordered b (j+k) i)=false
 | [],_,h=>by cases h
 | o::r,j,h=>by
  simp only [mf] at h;split at h
  ·rename_i q h1 h2;rcases List.mem_cons.1 h with rfl | h
   ·exact ⟨0,o,rfl,h2,h1⟩
   ·obtain ⟨k,o',k1,k2,k3⟩:=uv r (j+1) h;exact ⟨k+1,o',k1,by rw [show j+(k+1)=j+1+k by omega];exact k2,by rw [show j+(k+1)=j+1+k by omega];exact k3⟩
  ·obtain ⟨k,o',k1,k2,k3⟩:=uv r (j+1) h;exact ⟨k+1,o',k1,by rw [show j+(k+1)=j+1+k by omega];exact k2,by rw [show j+(k+1)=j+1+k by omega];exact k3⟩
theorem zU {b:List Nat} {i p:Nat}: ∀(l:List Oper) (j k:Nat) (o:Oper),l[k]?=some o→eY ops (j+k) o.op=some p→(j+k==i || ordered b i (j+k) || ordered b (j+k) i)=false→p∈mf ops b i l j
 | [],_,k,_,h,_,_=>by simp at h
 | x::r,j,0,o,h,h2,h3=>by
  simp only [List.getElem?_cons_zero,Option.some.injEq] at h;subst h;simp only [Nat.add_zero] at h2 h3;simp only [mf,h3,h2];exact List.mem_cons_self
 | x::r,j,k+1,o,h,h2,h3=>by
  have:=zU r (j+1) k o (by simpa using h) (by rw [show j+1+k=j+(k+1) by omega];exact h2) (by rw [show j+1+k=j+(k+1) by omega];exact h3);simp only [mf];split
  ·exact List.mem_cons_of_mem _ this
  ·exact this
theorem oS {b:List Nat} {i:Nat} {op:Op}: ∀(l:List Oper) (j k:Nat) (o:Oper),pJ ops b i op l j=true→l[k]?=some o→(j+k==i || ordered b i (j+k) || ordered b (j+k) i || gS ops (j+k) op o.op)=true
 | [],_,k,_,_,h=>by simp at h
 | x::r,j,0,o,h,h2=>by
  simp only [List.getElem?_cons_zero,Option.some.injEq] at h2;subst h2;simp only [pJ,Bool.and_eq_true] at h;exact h.1
 | x::r,j,k+1,o,h,h2=>by
  simp only [pJ,Bool.and_eq_true] at h;have:=oS r (j+1) k o h.2 (by simpa using h2);rw [show j+(k+1)=j+1+k by omega];exact this
theorem ky {op:Op} {j q:Nat} (h:eY ops j op=some q): ∃p,cS op=some p∧fN ops j p=some q:=by
 unfold eY at h;split at h
 ·rename_i p hp;exact ⟨p,hp,h⟩
 ·cases h
theorem uw {op:Op} {p:Nat} (k2:cS op=some p):blind op=false∧isLen op=false:=by
 unfold cS at k2;split at k2
 ·exact ⟨rfl,rfl⟩
 ·exact ⟨rfl,rfl⟩
 ·cases k2
theorem wN {i:Nat} {op:Op} (h:bG ops i op=true) {p:Nat} (hp:p∈gE ops i):(qZ op).contains p=false:=by simp only [bG,Bool.and_eq_true] at h;obtain ⟨k,o,k1,k2,k3⟩:=uv ops.toList 0 hp;have h1:=oS ops.toList 0 k o h.1.2 k1;rw [k3,Bool.false_or] at h1;obtain ⟨p0,hp0,_⟩:=ky k2;obtain ⟨hb,hl⟩:=uw hp0;unfold gS at h1;rw [hb,hl,k2] at h1;simpa using h1
theorem ux {j q:Nat}: ∀(l:List Oper) (n k:Nat) (o:Oper),lg ops j q l n=true→l[k]?=some o→(o.dst !=some q || n+k==j || ordered (fC ops) j (n+k) || ordered (fC ops) (n+k) j)=true
 | [],_,k,_,_,h=>by simp at h
 | x::r,n,0,o,h,h2=>by
  simp only [List.getElem?_cons_zero,Option.some.injEq] at h2;subst h2;simp only [lg,Bool.and_eq_true] at h;exact h.1
 | x::r,n,k+1,o,h,h2=>by
  simp only [lg,Bool.and_eq_true] at h;have:=ux r (n+1) k o h.2 (by simpa using h2);rw [show n+(k+1)=n+1+k by omega];exact this
theorem wO {j q:Nat} (h:lg ops j q ops.toList 0=true) {a:Nat} {oa:Oper} (hoa:ops[a]?=some oa) (hne:a≠j) (h1:ordered (fC ops) j a=false) (h2:ordered (fC ops) a j=false):oa.dst≠some q:=by
 intro hd;have:=ux ops.toList 0 a oa h (by simpa using hoa);rw [Nat.zero_add,h1,h2,hd] at this;have hb:(a==j)=false:=by simpa using hne
 rw [hb] at this;simp at this
theorem iF {i a:Nat} {op:Op} {oa:Oper} (h:bG ops i op=true) (ha:ops[a]?=some oa) (hne:a≠i) (ho1:ordered (fC ops) i a=false) (ho2:ordered (fC ops) a i=false) (t:Env) (v:AV) (k:Nat):((gE ops i).all fun p=>eZ k ((bo t oa.dst v).get .any p))=(gE ops i).all fun p=>eZ k (t.get .any p):=by
 simp only [bG,Bool.and_eq_true] at h;have h2:=h.2;rw [List.all_eq_true] at h2;rw [Bool.eq_iff_iff,List.all_eq_true,List.all_eq_true]
 have key: ∀p∈gE ops i,(bo t oa.dst v).get .any p=t.get .any p:=fun p hp=>by
  have h3:=h2 p hp;have h4:=wO h3 ha hne ho1 ho2;cases hd:oa.dst with
  | none=>rfl
  | some d=>have hne:d≠p:=fun e=>h4 (by rw [hd,e]);simp only [bo];exact Tr.bc _ _ _ hne
 exact ⟨fun hh p hp=>by rw [←key p hp];exact hh p hp,fun hh p hp=>by rw [key p hp];exact hh p hp⟩
theorem jJ {ms:List Nat} {bs:List ab} {k j:Nat} (x:ab) (h:j≠k):ab.at (aR ms (bs.set k x)) j=ab.at (aR ms bs) j:=by simp only [ab.at,List.getD_eq_getElem?_getD];rw [bR,bR,List.length_set,List.getElem?_set_ne (Ne.symm h)]
theorem sq {ms:List Nat} {bs:List ab} {k:Nat} {ty:TypeId} {cs:List AV} (h: ∀sh sz es,ab.at bs k≠ .sl sh sz es) (sh:Hd) (sz:Nat) (es:List AV):ab.at (aR ms (bs.set k (.var ty cs))) k≠ .sl sh sz es∧ab.at (aR ms bs) k≠ .sl sh sz es:=by
 have h':=h sh sz es;simp only [ab.at,List.getD_eq_getElem?_getD] at h'⊢;rw [bR,bR,List.length_set];constructor
 ·split
  ·simp
  ·by_cases hk:k<bs.length
   ·simp [hk]
   ·simp [hk]
 ·split
  ·simp
  ·exact h'
theorem Ff {op:Op} (h:cp op=true) {t:Env} {bs:List ab} {id:Nat} {v:AV} {e:cQ} (hd:bN c cf op t bs id=some (v,e)): ∀k ty cs,e= .gZ k (.var ty cs)→ ∃ty' cs',ab.at bs k= .var ty' cs':=by
 cases op <;> simp only [cp,Bool.false_eq_true] at h;intro k ty cs he;subst he;simp only [bN,fj] at hd;unfold mb at hd;split at hd
 ·split at hd
  ·split at hd
   ·split at hd
    ·rename_i ty' cs' hb;split at hd
     ·cases hd;exact ⟨_,_,hb⟩
     ·cases hd
    ·cases hd
   ·split at hd
    ·split at hd
     ·split at hd
      ·split at hd
       ·obtain ⟨_,hd⟩:=j6 hd;cases hd
       rw [Option.map_eq_some_iff] at hd;obtain ⟨_,_,hd⟩:=hd;cases hd
      ·cases hd
     ·cases hd
    ·cases hd
   ·cases hd
  ·cases hd
 ·cases hd
theorem Fg {op:Op} (h:cp op=true) {t:Env} {bs bs':List ab} (hs:Sub bs bs') {id:Nat} {v:AV} {k:Nat} {ty:TypeId} {cs:List AV} (hd:bN c cf op t bs id=some (v,.gZ k (.var ty cs))):bN c cf op t bs' id=some (v,.gZ k (.var ty cs)):=by
 cases op <;> simp only [cp,Bool.false_eq_true] at h;simp only [bN,fj] at hd⊢;unfold mb at hd⊢;split at hd
 ·split at hd
  ·rename_i hcond;rw [if_pos hcond];split at hd
   ·rename_i k' off;split at hd
    ·rename_i ty' cs' hb;rw [hs.var hb];exact hd
    ·cases hd
   ·split at hd
    ·split at hd
     ·split at hd
      ·split at hd
       ·obtain ⟨_,hd⟩:=j6 hd;cases hd
       rw [Option.map_eq_some_iff] at hd;obtain ⟨_,_,hd⟩:=hd;cases hd
      ·cases hd
     ·cases hd
    ·cases hd
   ·cases hd
  ·cases hd
 ·cases hd
theorem G9 {op:Op} (h:eT op=true) {t:Env} {bs bs':List ab} (hs:Sub bs bs') {id:Nat} {r:AV×cQ} (hd:bN c cf op t bs id=some r):bN c cf op t bs' id=some r:=by
 obtain ⟨v,e⟩:=r;unfold eT at h;split at h
 ·simp only [bN,fj,ea] at hd⊢;split at hd
  ·exact Cn hs hd
  ·cases hd
 ·simp only [bN,fj] at hd⊢;split at hd
  ·exact uy hs hd
  ·cases hd
 ·cases h
theorem Fh {d:TypeDesc} {x:AV} {ms:List Nat} {bs:List ab} {k:Nat} {ty:TypeId} {cs:List AV} (h: ∀sh sz es,ab.at bs k≠ .sl sh sz es):oI d x (aR ms (bs.set k (.var ty cs)))=oI d x (aR ms bs):=by
 have he:elems (aR ms (bs.set k (.var ty cs))) x=elems (aR ms bs) x:=by
  unfold elems;cases x with
  | az k' n=>
   simp only;by_cases hk:k'=k
   ·subst hk;have h2:=sq (ms:=ms) (ty:=ty) (cs:=cs) h;split
    ·rename_i sh sz es hb;exact absurd hb (h2 sh sz es).1
    ·split
     ·rename_i sh sz es hb;exact absurd hb (h2 sh sz es).2
     ·rfl
   ·rw [jJ _ hk]
  | fE k' n lo hi=>
   simp only;by_cases hk:k'=k
   ·subst hk;have h2:=sq (ms:=ms) (ty:=ty) (cs:=cs) h;split
    ·rename_i sh sz es hb;exact absurd hb (h2 sh sz es).1
    ·split
     ·rename_i sh sz es hb;exact absurd hb (h2 sh sz es).2
     ·rfl
   ·rw [jJ _ hk]
  | _=>rfl
 unfold oI;rw [he]
theorem Co {d:TypeDesc} {x:AV} {lo hi:Option AV} {bs bs':List ab} (h1: ∀k n,x≠ .az k n) (h2: ∀k n lo hi,x≠ .fE k n lo hi):dn c d x lo hi bs'=dn c d x lo hi bs:=by
 unfold dn;split
 ·rfl
 ·rfl
 ·exact absurd rfl (h1 _ _)
 ·exact absurd rfl (h2 _ _ _ _)
 ·rfl
theorem zV {d:TypeDesc} {x:AV} {lo hi:Option AV} {bs:List ab} (h1: ∀k n,x≠ .az k n) (h2: ∀k n lo hi,x≠ .fE k n lo hi) {v:AV} {k:Nat} {y:ab} (h:dn c d x lo hi bs=some (v,.gZ k y)):False:=by
 unfold dn at h;split at h
 ·split at h
  ·rw [Option.map_eq_some_iff] at h;obtain ⟨l,_,h⟩:=h;cases h
  ·cases h
 ·split at h
  ·split at h
   ·rw [Option.map_eq_some_iff] at h;obtain ⟨l,_,h⟩:=h;cases h
   ·cases h
  ·cases h
 ·exact absurd rfl (h1 _ _)
 ·exact absurd rfl (h2 _ _ _ _)
 ·cases h
theorem wP {op o:Op} {mj:Nat} (hm:gS ops mj op o=true) (hb:blind o=false) {t:Env} {ms:List Nat} {bs:List ab} {k:Nat} {x:ab} (hx:sf op x=true) (hv:cp op=true→ ∃ty' cs',ab.at bs k= .var ty' cs') (hc: ∀p,cS o=some p→eZ k (t.get .any p)=true) (id:Nat):
  bN c cf o t (aR ms (bs.set k x)) id=bN c cf o t (aR ms bs) id:=by
 unfold gS at hm;rw [hb,Bool.false_or,Bool.or_eq_true] at hm;rcases hm with hm | hm
 ·rw [Bool.and_eq_true] at hm;obtain ⟨hm,hst⟩:=hm
  have hns: ∀sh sz es,ab.at bs k≠ .sl sh sz es:=by obtain ⟨ty',cs',hv⟩:=hv hst;intro sh sz es e;rw [hv] at e;cases e
  obtain ⟨ty,cs,rfl⟩: ∃ty cs,x= .var ty cs:=by
   cases x with
   | var ty cs=>exact ⟨ty,cs,rfl⟩
   | sl sh sz es=>cases op <;> simp only [cp,Bool.false_eq_true] at hst;cases hx
   | dead=>cases hx
   | loop st=>cases hx
   | mp es clock=>cases hx
   | gone=>cases hx
   | iter o=>cases hx
  unfold isLen at hm;split at hm
  ·simp only [bN,fj,ea];split
   ·split
    ·exact Fh hns
    ·rfl
   ·rfl
  ·cases hm
 ·cases hl0:eY ops mj o with
  | none=>rw [hl0] at hm;cases hm
  | some q0=>
   obtain ⟨p,hl,_⟩:=ky hl0;have hcp:=hc p hl;unfold cS at hl;split at hl
   ·cases hl;simp only [bN,fj,ev];unfold ma;split
    ·split
     ·rename_i k' off hp;rw [hp] at hcp;have:k'≠k:=by simpa [eZ,wH] using hcp
      rw [jJ _ this]
     ·rename_i k' n j off hp;rw [hp] at hcp;have:k'≠k:=by simpa [eZ,wH] using hcp
      rw [jJ _ this]
     ·rfl
     ·rfl
    ·rfl
   ·cases hl;rename_i ty lo hi;simp only [bN,fj]
    have hq:(∀k n,ev t (.tmp p)≠ .az k n)∧ ∀k n lo hi,ev t (.tmp p)≠ .fE k n lo hi:=by
     simp only [ev];constructor
     ·intro k n h;rw [h] at hcp;cases hcp
     ·intro k n lo hi h;rw [h] at hcp;cases hcp
    generalize ev t (.tmp p)=y at hq;split
    ·exact Co hq.1 hq.2
    ·rfl
   ·cases hl
theorem Cp {op o:Op} {mj:Nat} (hm:gS ops mj op o=true) (hb:blind o=false) {t:Env} {bs:List ab} {k:Nat} (hc: ∀p,cS o=some p→eZ k (t.get .any p)=true) {cf:aG} {id:Nat} {v:AV} {k':Nat} {y:ab} (h:bN c cf o t bs id=some (v,.gZ k' y)):(cp o || eT o)=false:=by
 unfold gS at hm;rw [hb,Bool.false_or,Bool.or_eq_true] at hm;rcases hm with hm | hm
 ·rw [Bool.and_eq_true] at hm;have hm:=hm.1;unfold isLen at hm;split at hm
  ·rfl
  ·cases hm
 ·cases hl0:eY ops mj o with
  | none=>rw [hl0] at hm;cases hm
  | some q0=>
   obtain ⟨p,hl,_⟩:=ky hl0;have hcp:=hc p hl;unfold cS at hl;split at hl
   ·rfl
   ·cases hl;rename_i ty lo hi;exfalso;simp only [bN,fj] at h
    have hq:(∀k n,ev t (.tmp p)≠ .az k n)∧ ∀k n lo hi,ev t (.tmp p)≠ .fE k n lo hi:=by
     simp only [ev];constructor
     ·intro k n h;rw [h] at hcp;cases hcp
     ·intro k n lo hi h;rw [h] at hcp;cases hcp
    generalize ev t (.tmp p)=y at hq h;split at h
    ·exact zV hq.1 hq.2 h
    ·cases h
   ·cases hl
theorem wQ {op o:Op} {mj:Nat} (hm:gS ops mj op o=true) (hb:blind o=false):asks o=false∧eo o=false:=by
 unfold gS at hm;rw [hb,Bool.false_or,Bool.or_eq_true] at hm;rcases hm with hm | hm
 ·rw [Bool.and_eq_true] at hm;have hm:=hm.1;unfold isLen at hm;split at hm
  ·exact ⟨rfl,rfl⟩
  ·cases hm
 ·cases hl0:eY ops mj o with
  | none=>rw [hl0] at hm;cases hm
  | some q0=>
   obtain ⟨p,hl,_⟩:=ky hl0;unfold cS at hl;split at hl
   ·exact ⟨rfl,rfl⟩
   ·exact ⟨rfl,rfl⟩
   ·cases hl
theorem nu {c:ax} {o:Op} (h:eo o=false):yk c o=false:=by
 cases o with
 | call k=>
  obtain ⟨ce,as,ts⟩:=k;cases ce with
  | value f=>simp [eo] at h
  | _=>rfl
 | _=>rfl
theorem zW {c:ax} {o:Op} (h:yk c o=true):eo o=true:=by
 cases hc:eo o with
 | true=>rfl
 | false=>rw [nu hc] at h;cases h
theorem zX {c:ax} {ops:Array Oper}: ∀(l:List Oper) (j k:Nat) (o:Oper),l[k]?=some o→alone ops (j+k)=false→bQ c ops (j+k) o.op=true→pL c ops l j=true
 | [],_,k,_,h,_,_=>by simp at h
 | x::r,j,0,o,h,h2,h3=>by
  simp only [List.getElem?_cons_zero,Option.some.injEq] at h;subst h;simp only [Nat.add_zero] at h2 h3;simp [pL,h2,h3]
 | x::r,j,k+1,o,h,h2,h3=>by
  have:=zX r (j+1) k o (by simpa using h) (by rw [show j+1+k=j+(k+1) by omega];exact h2) (by rw [show j+1+k=j+(k+1) by omega];exact h3);simp [pL,this]
theorem D4 {c:ax} {ops:Array Oper} {a:Nat} {oa:Oper} (hoa:ops[a]?=some oa) (h2:alone ops a=false) (h3:bQ c ops a oa.op=true):ue c ops=true:=
 zX ops.toList 0 a oa (by simpa using hoa) (by simpa using h2) (by simpa using h3)
theorem wR {ops:Array Oper}: ∀(l:List Oper) (j k:Nat) (o:Oper),l[k]?=some o→alone ops (j+k)=false→bG ops (j+k) o.op=true→mg ops l j=true
 | [],_,k,_,h,_,_=>by simp at h
 | x::r,j,0,o,h,h2,h3=>by
  simp only [List.getElem?_cons_zero,Option.some.injEq] at h;subst h;simp only [Nat.add_zero] at h2 h3;simp [mg,h2,h3]
 | x::r,j,k+1,o,h,h2,h3=>by
  have:=wR r (j+1) k o (by simpa using h) (by rw [show j+1+k=j+(k+1) by omega];exact h2) (by rw [show j+1+k=j+(k+1) by omega];exact h3);simp [mg,this]
theorem zY {ops:Array Oper} {a:Nat} {oa:Oper} (hoa:ops[a]?=some oa) (h2:alone ops a=false) (h3:bG ops a oa.op=true):nq ops=true:=
 wR ops.toList 0 a oa (by simpa using hoa) (by simpa using h2) (by simpa using h3)
theorem Ha {c:ax} {ops:Array Oper} {op:Op} {j:Nat} {t:Env} (h:ue c ops=false) (h2:nq ops=false):bY c ops j op t=true:=by
 unfold bY;split
 ·rfl
 ·split
  ·rfl
  ·rw [h,h2];rfl
theorem zZ {op:Op} {p:Nat} (h:eL op=some p):gj op=some p:=by unfold gj;rw [h]
theorem Hb {op:Op} {p:Nat} (h:cS op=some p):gj op=some p:=by
 have h0:=h;unfold cS at h;split at h
 ·cases h;rfl
 ·cases h;rfl
 ·cases h
theorem wS {c:ax} {ops:Array Oper} {op:Op} {t:Env} {j p q k:Nat} (hg:nq ops=true) (h:bY c ops j op t=true) (hp:cS op=some p) (hq:fN ops j p=some q) (hc:eZ k (t.get .any q)=true):eZ k (t.get .any p)=true:=by unfold bY at h;rw [Hb hp] at h;simp only [hq,hg,Bool.not_true,Bool.false_or,Bool.and_eq_true,beq_iff_eq] at h;unfold eZ at hc⊢;rw [h.2];exact hc
theorem Aa {b:List Nat} {i p:Nat}: ∀(l:List Oper) (j k:Nat) (o:Oper),l[k]?=some o→mh ops (j+k) o.op=some p→(j+k==i || ordered b i (j+k) || ordered b (j+k) i)=false→p∈q8 ops b i l j
 | [],_,k,_,h,_,_=>by simp at h
 | x::r,j,0,o,h,h2,h3=>by
  simp only [List.getElem?_cons_zero,Option.some.injEq] at h;subst h;simp only [Nat.add_zero] at h2 h3;simp only [q8,h3,h2];exact List.mem_cons_self
 | x::r,j,k+1,o,h,h2,h3=>by
  have:=Aa r (j+1) k o (by simpa using h) (by rw [show j+1+k=j+(k+1) by omega];exact h2) (by rw [show j+1+k=j+(k+1) by omega];exact h3);simp only [q8];split
  ·exact List.mem_cons_of_mem _ this
  ·exact this
theorem sr {b:List Nat} {i:Nat}: ∀(l:List Oper) (j k:Nat) (o:Oper),mi ops b i l j=true→l[k]?=some o→(j+k==i || ordered b i (j+k) || ordered b (j+k) i || blind o.op || (mh ops (j+k) o.op).isSome)=true
 | [],_,k,_,_,h=>by simp at h
 | x::r,j,0,o,h,h2=>by
  simp only [List.getElem?_cons_zero,Option.some.injEq] at h2;subst h2;simp only [mi,Bool.and_eq_true] at h;exact h.1
 | x::r,j,k+1,o,h,h2=>by
  simp only [mi,Bool.and_eq_true] at h;have:=sr r (j+1) k o h.2 (by simpa using h2);rw [show j+(k+1)=j+1+k by omega];exact this
theorem kz {i a:Nat} {op:Op} {oa:Oper} (h:bQ c ops i op=true) (ha:ops[a]?=some oa) (t:Env) (v:AV) (n:Nat):((jE ops i).all fun p=>iU n ((bo t oa.dst v).get .any p))=(jE ops i).all fun p=>iU n (t.get .any p):=by
 simp only [bQ,Bool.and_eq_true] at h;have h2:=h.2;rw [List.all_eq_true] at h2
 have hmem:oa∈ops.toList:=by obtain ⟨hlt,e⟩:=Array.getElem?_eq_some_iff.1 ha;rw [←e];simp
 rw [Bool.eq_iff_iff,List.all_eq_true,List.all_eq_true]
 have key: ∀p∈jE ops i,(bo t oa.dst v).get .any p=t.get .any p:=fun p hp=>by
  have h3:=h2 p hp;rw [List.all_eq_true] at h3;have h4:=h3 oa hmem;cases hd:oa.dst with
  | none=>rfl
  | some d=>rw [hd] at h4;simp only [bo];refine Tr.bc _ _ _ ?_;intro e;subst e;simp at h4
 constructor
 ·intro hh p hp;rw [←key p hp];exact hh p hp
 ·intro hh p hp;rw [key p hp];exact hh p hp
theorem Cq {j p q:Nat} (h:fN ops j p=some q) {a:Nat} {oa:Oper} (hoa:ops[a]?=some oa) (hne:a≠j) (h1:ordered (fC ops) j a=false) (h2:ordered (fC ops) a j=false):oa.dst≠some q:=by
 have hmem:oa∈ops.toList:=by obtain ⟨hlt,e⟩:=Array.getElem?_eq_some_iff.1 hoa;rw [←e];simp
 unfold fN at h;split at h
 ·rename_i hf;cases h;intro hd;have:=List.filter_eq_nil_iff.1 hf oa hmem;rw [hd] at this;simp at this
 ·split at h
  ·split at h
   ·rename_i ha;cases h;exact wO ha hoa hne h1 h2
   ·cases h
  ·cases h
 ·cases h
theorem Ab {a b:AV} (h:(zJ a==zJ b)=true) (n:Nat):iU n a=iU n b:=by
 rw [beq_iff_eq] at h;have key: ∀x:AV,iU n x=match zJ x with | some k=>decide (k<n) | none=>true:=fun x=>by cases x <;> rfl
 rw [key,key,h]
theorem Cr {o:Oper} {p:Nat} (h:eL o.op=some p):p∈o.looksAt ops:=by
 simp only [Oper.looksAt,List.mem_append,List.mem_filterMap];refine .inl ⟨.tmp p,?_,rfl⟩;unfold eL at h;split at h
 ·rename_i ho;cases h;rw [ho];simp [Op.operands]
 ·rename_i args ts ho;split at h
  ·rename_i q hq;cases h;rw [ho];simp only [Op.operands,Call.operands];simp [hq]
  ·cases h
 ·cases h
theorem Fi {o:Oper} {p:Nat} (h:gj o.op=some p):p∈o.looksAt ops:=by
 unfold gj at h;split at h
 ·rename_i q hq;cases h;exact Cr hq
 ·simp only [Oper.looksAt,List.mem_append,List.mem_filterMap];refine .inl ⟨.tmp p,?_,rfl⟩;unfold cS at h;split at h
  ·rename_i ho;cases h;rw [ho];simp [Op.operands]
  ·rename_i ho;cases h;rw [ho];simp [Op.operands]
  ·cases h
theorem eb {a j:Nat} {oa o:Oper} (hoa:ops[a]?=some oa) (hne:a≠j) (ho1:ordered (fC ops) j a=false) (ho2:ordered (fC ops) a j=false) (h: ∀d,oa.dst=some d→d∉o.looksAt ops) (t:Env) (v:AV):bY c ops j o.op (bo t oa.dst v)=bY c ops j o.op t:=by
 unfold bY;split
 ·rfl
 ·rename_i p hp;split
  ·rfl
  ·rename_i q hq;cases hd:oa.dst with
   | none=>rfl
   | some d=>have h1:d≠p:=fun e=>h d hd (e▸Fi hp);have h2:d≠q:=fun e=>Cq hq hoa hne ho1 ho2 (by rw [hd,e]);simp only [bo];rw [Tr.bc _ _ _ h1,Tr.bc _ _ _ h2]
theorem Cs {op:Op} {j:Nat} (h:blind op=true) (t:Env):bY c ops j op t=true:=by
 have:gj op=none:=by cases op <;> simp only [blind,Bool.false_eq_true] at h <;> rfl
 unfold bY;rw [this]
theorem jK {ms:List Nat} {bs:List ab} {j:Nat} (x:ab) (h:j<bs.length):ab.at (aR ms (bs++ [x])) j=ab.at (aR ms bs) j:=by
 simp only [ab.at,List.getD_eq_getElem?_getD];rw [bR,bR,List.getElem?_append_left h];simp only [List.length_append,List.length_singleton];by_cases hj:j∈ms
 ·rw [if_pos ⟨hj,by omega⟩,if_pos ⟨hj,h⟩]
 ·rw [if_neg (fun e=>hj e.1),if_neg (fun e=>hj e.1)]
theorem Cu {d:TypeDesc} {x:AV} {b b':List ab} (h:elems b x=elems b' x):oI d x b=oI d x b':=by unfold oI;rw [h]
theorem wT {o:Op} {p:Nat} (hm:eL o=some p) {t:Env} {ms:List Nat} {bs:List ab} {x:ab} (hc:iU bs.length (t.get .any p)=true) (id:Nat):
  bN c cf o t (aR ms (bs++ [x])) id=bN c cf o t (aR ms bs) id:=by
 unfold eL at hm;split at hm
 ·cases hm;simp only [bN,fj,ev];unfold ma;split
  ·split
   ·rename_i k' off hp;rw [hp] at hc;rw [jK x (by simpa [iU] using hc)]
   ·rename_i k' n j off hp;rw [hp] at hc;rw [jK x (by simpa [iU] using hc)]
   ·rfl
   ·rfl
  ·rfl
 ·rename_i args ts;split at hm
  ·rename_i q hargs;cases hm
   have he:elems (aR ms (bs++ [x])) (t.get .any p)=elems (aR ms bs) (t.get .any p):=by
    unfold elems;cases hv:t.get .any p with
    | az k' n=>rw [hv] at hc;simp only;rw [jK x (by simpa [iU] using hc)]
    | fE k' n lo hi=>rw [hv] at hc;simp only;rw [jK x (by simpa [iU] using hc)]
    | _=>rfl
   simp only [bN,fj,ea];rw [show lR t args.toList= [t.get .any p] by rw [hargs];rfl];rcases hts:ts.toList with _ | ⟨t',_ | ⟨t2,r⟩⟩
   ·rfl
   ·simp only;split
    ·exact Cu he
    ·rfl
   ·rfl
  ·cases hm
 ·cases hm
theorem wU {o:Op} {p:Nat} (hm:eL o=some p):asks o=false∧(cp o || eT o)=false∧eo o=false:=by
 unfold eL at hm;split at hm
 ·exact ⟨rfl,rfl,rfl⟩
 ·exact ⟨rfl,rfl,rfl⟩
 ·cases hm
theorem Hc {op:Op} (h:blind op=true) (t:Env) (bs:List ab) (id:Nat):bN c cf op t bs id=bN c cf op t [] 0:=by cases op <;> simp only [blind,Bool.false_eq_true] at h <;> rfl
theorem Fj {op:Op} (h:blind op=true) {t:Env} {bs:List ab} {id:Nat} {v:AV} {e:cQ} (hd:bN c cf op t bs id=some (v,e)):e= .none:=by
 cases op <;> simp only [blind,Bool.false_eq_true] at h <;> simp only [bN,fj] at hd
 ·cases hd;rfl
 ·cases hd;rfl
 ·unfold ua at hd;split at hd <;> cases hd <;> rfl
 ·unfold qW at hd;split at hd
  ·split at hd
   ·split at hd
    ·rw [Option.map_eq_some_iff] at hd;obtain ⟨_,_,hd⟩:=hd;cases hd;rfl
    ·split at hd
     ·rw [Option.map_eq_some_iff] at hd;obtain ⟨_,_,hd⟩:=hd;cases hd;rfl
     ·cases hd
    ·cases hd
   ·cases hd
  ·cases hd
 ·unfold gi at hd;split at hd <;> cases hd <;> rfl
 ·rw [Option.map_eq_some_iff] at hd;obtain ⟨_,_,hd⟩:=hd;cases hd;rfl
 ·rw [Option.map_eq_some_iff] at hd;obtain ⟨_,_,hd⟩:=hd;cases hd;rfl
 ·unfold oJ at hd;split at hd
  ·split at hd
   ·split at hd
    ·rw [Option.map_eq_some_iff] at hd;obtain ⟨_,_,hd⟩:=hd;cases hd;rfl
    ·cases hd
   ·cases hd
  ·cases hd
 ·unfold oK at hd;split at hd
  ·split at hd
   ·split at hd
    ·split at hd
     ·cases hd;rfl
     ·cases hd
    ·cases hd
   ·split at hd
    ·split at hd
     ·rw [Option.map_eq_some_iff] at hd;obtain ⟨_,_,hd⟩:=hd;cases hd;rfl
     ·cases hd
    ·cases hd
   ·cases hd
  ·cases hd
 ·unfold iT at hd;split at hd
  ·rw [Option.map_eq_some_iff] at hd;obtain ⟨_,_,hd⟩:=hd;cases hd;rfl
  ·cases hd
theorem Cv {op:Op} (h:blind op=true) (t:Env) (bs:List ab) (id:Nat):bN c (pK cf) op t bs id=bN c cf op t bs id:=by cases op <;> simp only [blind,Bool.false_eq_true] at h <;> rfl
theorem Ac {op:Op} (h:blind op=true) (b:Bool) (t:Env) (bs:List ab) (id:Nat):bN c (eQ cf b) op t bs id=bN c cf op t bs id:=by
 cases b with
 | true=>rfl
 | false=>exact Cv h t bs id
theorem gF {i:Nat} {o:Oper} {s:St} (hb:blind o.op=true):aT c cf ops base i o s=match bF ops s.t o.guard with
  | some true=>(match bN c cf o.op s.t [] 0 with
   | some (v,_)=>some {t:=bo s.t o.dst v,b:=s.b}
   | none=>none)
  | some false=>some {t:=bo s.t o.dst (.aO []),b:=s.b}
  | none=>none:=by
 unfold aT;cases hw:bF ops s.t o.guard with
 | none=>rfl
 | some x=>
  cases x with
  | false=>rfl
  | true=>
   simp only [Hc hb,Ac hb];cases hd:bN c cf o.op s.t [] 0 with
   | none=>cases alone ops i <;> rfl
   | some p=>
    obtain ⟨v,e⟩:=p;obtain rfl:=Fj hb hd;cases alone ops i
    ·simp only [Cs hb]
    ·rfl
theorem ss {a:Nat} {oa:Oper} {s s1:St} (h:aT c cf ops base a oa s=some s1): ∃va bs1,s1={t:=bo s.t oa.dst va,b:=bs1}∧
  ∀t':Env,bF ops t' oa.guard=bF ops s.t oa.guard→(∀(cf:aG) bs id,bN c cf oa.op t' bs id=bN c cf oa.op s.t bs id)→(∀k,bG ops a oa.op=true→((gE ops a).all fun p=>eZ k (t'.get .any p))=((gE ops a).all fun p=>eZ k (s.t.get .any p)))→(∀n,bQ c ops a oa.op=true→((jE ops a).all fun p=>iU n (t'.get .any p))=((jE ops a).all fun p=>iU n (s.t.get .any p)))→(bY c ops a oa.op t'=bY c ops a oa.op s.t)→aT c cf ops base a oa {t:=t',b:=s.b}=some {t:=bo t' oa.dst va,b:=bs1}:=by
 unfold aT at h;split at h
 ·rename_i hw;cases hal:alone ops a with
  | true=>
   rw [hal] at h;simp only at h;split at h
   ·rename_i v e hd;split at h
    ·rename_i bs' he;cases h;refine ⟨v,bs',rfl,fun t' k1 k2 k3 k4 k5=> ?_⟩;unfold aT;simp only [k1,hw,hal,k2,hd,he]
    ·cases h
   ·cases h
  | false=>
   rw [hal] at h;simp only at h;split at h
   ·rename_i v hd;split at h
    ·rename_i hro;cases h;refine ⟨v,_,rfl,fun t' k1 k2 k3 k4 k5=> ?_⟩;unfold aT;simp only [k1,hw,hal,k2,hd,k5,hro]
    ·cases h
   ·rename_i v x hd;split at h
    ·rename_i ha hdead;cases h;refine ⟨v,_,rfl,fun t' k1 k2 k3 k4 k5=> ?_⟩;unfold aT;simp only [k1,hw,hal,k2,hd,ha,hdead]
    ·cases h
   ·rename_i v k x hd;split at h
    ·rename_i hcalm;cases h;refine ⟨v,_,rfl,fun t' k1 k2 k3 k4 k5=> ?_⟩
     have hs:bG ops a oa.op=true:=by rw [Bool.and_eq_true,Bool.and_eq_true,Bool.and_eq_true] at hcalm;exact hcalm.1.1.1
     unfold aT;simp only [k1,hw,hal,k2,hd,k3 k hs,k5,hcalm]
    ·cases h
   ·rename_i v x hd;split at h
    ·rename_i hcalm;cases h;refine ⟨v,_,rfl,fun t' k1 k2 k3 k4 k5=> ?_⟩;have hs:bQ c ops a oa.op=true:=(Bool.and_eq_true _ _▸hcalm:_∧_).1;unfold aT;simp only [k1,hw,hal,k2,hd,k4 _ hs,hcalm]
    ·cases h
   ·cases h
 ·rename_i hw;cases h;refine ⟨.aO [],_,rfl,fun t' k1 k2 k3 k4 k5=> ?_⟩;unfold aT;simp only [k1,hw]
 ·cases h
theorem comm {a i:Nat} {oa oi:Oper} (hoa:ops[a]?=some oa) (hoi:ops[i]?=some oi) (hlt:a<i) (hap:oa.apart ops oi=true) (hai:ordered (fC ops) a i=false) (hia:ordered (fC ops) i a=false) {s s1 s2:St}
  (h1:aT c cf ops base a oa s=some s1) (h2:aT c cf ops base i oi s1=some s2): ∃s1',aT c cf ops base i oi s=some s1'∧aT c cf ops base a oa s1'=some s2:=by
 have hasz:a<ops.size:=by
  rcases Nat.lt_or_ge a ops.size with h | h
  ·exact h
  ·rw [Array.getElem?_eq_none h] at hoa;cases hoa
 have hisz:i<ops.size:=by
  rcases Nat.lt_or_ge i ops.size with h | h
  ·exact h
  ·rw [Array.getElem?_eq_none h] at hoi;cases hoi
 have hne:a≠i:=by omega
 have hne':i≠a:=by omega
 obtain ⟨q1,q2,q3⟩:=Oper.apart_spec hap;have hput:=fun (v v':AV)=>Fk s.t v v' q2;have hi0:=fun v bs id=>pQ (c:=c) (cf:=eQ cf (bQ c ops i oi.op)) (ops:=ops) (x:=oa) (y:=oi) q1 s.t v bs id;have ha0:=fun v bs id=>pQ (c:=c) (cf:=eQ cf (bQ c ops a oa.op)) (ops:=ops) (x:=oi) (y:=oa) q3 s.t v bs id;have hi1:=fun (cf:aG) v bs id=>pQ (c:=c) (cf:=cf) (ops:=ops) (x:=oa) (y:=oi) q1 s.t v bs id;have ha1:=fun (cf:aG) v bs id=>pQ (c:=c) (cf:=cf) (ops:=ops) (x:=oi) (y:=oa) q3 s.t v bs id
 /- one of them looks at no box -/
 by_cases hbi:blind oi.op=true
 ·obtain ⟨va,bs1,rfl,sh⟩:=ss h1;rw [gF hbi] at h2;simp only [(hi0 va [] 0).2,(hi1 cf va [] 0).1] at h2;rw [gF hbi];split at h2
  ·rename_i hw;split at h2
   ·rename_i vi e hd;cases h2;refine ⟨{t:=bo s.t oi.dst vi,b:=s.b},rfl,?_⟩;rw [sh _ (ha0 vi [] 0).2 (fun cf bs id=>(ha1 cf vi bs id).1) (fun k hs=>iF hs hoi hne' hai hia _ _ k) (fun n hs=>kz hs hoi _ _ n) (eb hoi hne' hai hia q3 _ _),hput va vi]
   ·cases h2
  ·rename_i hw;cases h2;refine ⟨{t:=bo s.t oi.dst (.aO []),b:=s.b},rfl,?_⟩;rw [sh _ (ha0 (.aO []) [] 0).2 (fun cf bs id=>(ha1 cf (.aO []) bs id).1) (fun k hs=>iF hs hoi hne' hai hia _ _ k) (fun n hs=>kz hs hoi _ _ n) (eb hoi hne' hai hia q3 _ _),hput va (.aO [])]
  ·cases h2
 by_cases hba:blind oa.op=true
 ·rw [gF hba] at h1
  have fin: ∀va,s1={t:=bo s.t oa.dst va,b:=s.b}→(∀vi bs2,aT c cf ops base a oa {t:=bo s.t oi.dst vi,b:=bs2}=some {t:=bo (bo s.t oi.dst vi) oa.dst va,b:=bs2})→ ∃s1',aT c cf ops base i oi s=some s1'∧aT c cf ops base a oa s1'=some s2:=by intro va hs1 hgo;subst hs1;obtain ⟨vi,bs2,rfl,sh⟩:=ss h2;refine ⟨_,sh s.t (hi0 va [] 0).2.symm (fun cf bs id=>(hi1 cf va bs id).1.symm) (fun k hs=>(iF hs hoa hne hia hai _ _ k).symm) (fun n hs=>(kz hs hoa _ _ n).symm) (eb hoa hne hia hai q1 _ _).symm,?_⟩;rw [hgo,hput va vi]
  split at h1
  ·rename_i hw;split at h1
   ·rename_i va e hd;cases h1;refine fin va rfl fun vi bs2=> ?_;rw [gF hba];simp only [(ha0 vi [] 0).2,(ha1 cf vi [] 0).1,hw,hd]
   ·cases h1
  ·rename_i hw;cases h1;refine fin (.aO []) rfl fun vi bs2=> ?_;rw [gF hba];simp only [(ha0 vi [] 0).2,hw]
  ·cases h1
 have ala:alone ops a=false:=by
  cases hh:alone ops a with
  | false=>rfl
  | true=>have:=ur (i:=a) (j:=i) hisz (by omega) hai hia hh;simp only [np,hoi] at this;exact absurd this hbi
 have ali:alone ops i=false:=by
  cases hh:alone ops i with
  | false=>rfl
  | true=>have:=ur (i:=i) (j:=a) hasz (by omega) hia hai hh;simp only [np,hoa] at this;exact absurd this hba
 /- a store beside what looks on: the one's step turns box k; the other one's is the same ahead of it and behind it -/
 have mateAt: ∀{x y:Nat} {ox oy:Oper},ops[x]?=some ox→ops[y]?=some oy→y≠x→ordered (fC ops) x y=false→ordered (fC ops) y x=false→bG ops x ox.op=true→blind oy.op=false→
   gS ops y ox.op oy.op=true∧ ∀p,cS oy.op=some p→ ∃q,fN ops y p=some q∧q∈gE ops x:=by
  intro x y ox oy _ hy hne h1 h2 hs hb;have hs':=hs;simp only [bG,Bool.and_eq_true] at hs';have hm:=oS ops.toList 0 y oy hs'.1.2 (by simpa using hy);have hneb:(0+y==x)=false:=by simpa using hne
  rw [hneb,Nat.zero_add,h1,h2] at hm;have hm':gS ops y ox.op oy.op=true:=by simpa using hm
  refine ⟨hm',fun p hp=> ?_⟩;obtain ⟨hb1,hl1⟩:=uw hp;have hm2:=hm';unfold gS at hm2;rw [hb1,hl1] at hm2;simp only [Bool.false_and,Bool.or_self,Bool.false_or] at hm2;cases hr:eY ops y oy.op with
  | none=>rw [hr] at hm2;cases hm2
  | some q=>obtain ⟨p',hp',hq⟩:=ky hr;rw [hp] at hp';cases hp';refine ⟨q,hq,zU ops.toList 0 y oy (by simpa using hy) (by rw [Nat.zero_add];exact hr) ?_⟩;rw [hneb,Nat.zero_add,h1,h2];rfl
 have storeAt: ∀{x:Nat} {ox:Oper} {t:Env} {bs:List ab} {v:AV} {k:Nat} {y:ab},sf ox.op y=true→bN c (eQ cf (bQ c ops x ox.op)) ox.op t (dp ops base x bs) (b8 ops.toList x base)=some (v,.gZ k y)→cp ox.op=true→ ∃ty' cs',ab.at bs k= .var ty' cs':=by
  intro x ox t bs v k y hy hd hst
  obtain ⟨ty,cs,rfl⟩: ∃ty cs,y= .var ty cs:=by
   cases y with
   | var ty cs=>exact ⟨ty,cs,rfl⟩
   | sl sh sz es=>exfalso;cases ho:ox.op <;> rw [ho] at hst hy <;> simp only [cp,Bool.false_eq_true] at hst;cases hy
   | dead=>cases hy
   | loop st=>cases hy
   | mp es clock=>cases hy
   | gone=>cases hy
   | iter o=>cases hy
  obtain ⟨ty',cs',hv⟩:=Ff hst hd k ty cs rfl;exact ⟨ty',cs',(dK _ bs).var hv⟩
 have hbi':blind oi.op=false:=by simpa using hbi
 have hba':blind oa.op=false:=by simpa using hba
 by_cases hSa:bF ops s.t oa.guard=some true∧ ∃v k y,bN c (eQ cf (bQ c ops a oa.op)) oa.op s.t (dp ops base a s.b) (b8 ops.toList a base)=some (v,.gZ k y)∧((bG ops a oa.op=true∧sf oa.op y=true)∧bY c ops a oa.op s.t=true)∧((gE ops a).all fun p=>eZ k (s.t.get .any p))=true∧s1={t:=bo s.t oa.dst v,b:=s.b.set k y}
 ·obtain ⟨hwa,va,k,y,hda,⟨⟨hsa,hya⟩,hra⟩,hca,rfl⟩:=hSa;have hga:=zY hoa ala hsa;obtain ⟨hmate,hnear⟩:=mateAt hoa hoi (by omega) hai hia hsa hbi';obtain ⟨hask,hncl⟩:=wQ hmate hbi';have hvar:=storeAt hya hda
  have hcp:bY c ops i oi.op s.t=true→ ∀p,cS oi.op=some p→eZ k (s.t.get .any p)=true:=fun hr p hp=>by
   obtain ⟨q,hq,hqn⟩:=hnear p hp;rw [List.all_eq_true] at hca;exact wS hga hr hp hq (hca q hqn)
  have goA: ∀v,aT c cf ops base a oa {t:=bo s.t oi.dst v,b:=s.b}=some {t:=bo (bo s.t oi.dst v) oa.dst va,b:=s.b.set k y}:=fun v=>by
   unfold aT;simp only [(ha0 v [] 0).2,hwa,ala,(ha0 v _ _).1,hda,hsa,hya,eb hoi hne' hai hia q3,hra,iF hsa hoi hne' hai hia,hca,Bool.and_self]
  rcases gl ali h2 with ⟨hw,rfl⟩ | ⟨hw,v,⟨hd,hro,rfl⟩ | ⟨x,hk,_⟩⟩ | ⟨hw,v,k',y',hd,⟨⟨hs',_⟩,hrr⟩,_⟩ | ⟨_,_,_,_,hap',_⟩
  ·simp only [(hi0 va [] 0).2] at hw;refine ⟨{t:=bo s.t oi.dst (.aO []),b:=s.b},by unfold aT;rw [hw],?_⟩;rw [goA,hput]
  ·simp only [(hi0 va [] 0).2] at hw;simp only [(hi0 va _ _).1] at hd;unfold dp at hd;rw [eb hoa hne hia hai q1] at hro;rw [wP hmate hbi' hya hvar (hcp hro)] at hd;refine ⟨{t:=bo s.t oi.dst v,b:=s.b},by unfold aT dp;simp only [hw,ali,hd,hro],?_⟩;rw [goA,hput]
  ·rw [hask] at hk;cases hk
  ·simp only [bG,Bool.and_eq_true] at hs';simp only [(hi0 va [] 0).2] at hw;simp only [(hi0 va _ _).1] at hd;rw [eb hoa hne hia hai q1] at hrr;rw [Cp hmate hbi' (hcp hrr) hd] at hs';exact absurd hs'.1.1 (by simp)
  ·simp only [bQ,nu hncl,Bool.false_and,Bool.false_eq_true] at hap'
 by_cases hSi:bF ops s1.t oi.guard=some true∧ ∃v k y,bN c (eQ cf (bQ c ops i oi.op)) oi.op s1.t (dp ops base i s1.b) (b8 ops.toList i base)=some (v,.gZ k y)∧((bG ops i oi.op=true∧sf oi.op y=true)∧bY c ops i oi.op s1.t=true)∧((gE ops i).all fun p=>eZ k (s1.t.get .any p))=true∧s2={t:=bo s1.t oi.dst v,b:=s1.b.set k y}
 ·obtain ⟨hwi,vi,k,y,hdi,⟨⟨hsi,hyi⟩,hri⟩,hci,rfl⟩:=hSi;have hgi:=zY hoi ali hsi;obtain ⟨hmate,hnear⟩:=mateAt hoi hoa (by omega) hia hai hsi hba';obtain ⟨hask,hncl⟩:=wQ hmate hba';have hvar:=storeAt hyi hdi
  have main: ∀va,s1={t:=bo s.t oa.dst va,b:=s.b}→aT c cf ops base i oi s=some {t:=bo s.t oi.dst vi,b:=s.b.set k y}:=by intro va e;subst e;simp only [(hi0 va [] 0).2] at hwi;simp only [(hi0 va _ _).1] at hdi;rw [iF hsi hoa hne hia hai] at hci;rw [eb hoa hne hia hai q1] at hri;unfold aT;simp only [hwi,ali,hdi,hsi,hyi,hri,hci,Bool.and_self]
  rcases gl ala h1 with ⟨hw,rfl⟩ | ⟨hw,v,⟨hd,hro,rfl⟩ | ⟨x,hk,_⟩⟩ | hh | ⟨_,_,_,_,hap',_⟩
  rotate_right
  ·simp only [bQ,nu hncl,Bool.false_and,Bool.false_eq_true] at hap'
  ·refine ⟨_,main _ rfl,?_⟩;unfold aT;simp only [(ha0 vi [] 0).2,hw];rw [hput]
  ·refine ⟨_,main _ rfl,?_⟩
   have hcp': ∀p,cS oa.op=some p→eZ k (s.t.get .any p)=true:=fun p hp=>by
    obtain ⟨q,hq,hqn⟩:=hnear p hp;rw [iF hsi hoa hne hia hai,List.all_eq_true] at hci;exact wS hgi hro hp hq (hci q hqn)
   have hd':=wP (c:=c) (cf:=eQ cf (bQ c ops a oa.op)) (x:=y) (ms:=cR (fC ops) a ops.toList 0 base) hmate hba' hyi hvar hcp' (b8 ops.toList a base);unfold dp at hd;rw [hd] at hd';unfold aT dp;simp only [(ha0 vi [] 0).2,hw,ala,(ha0 vi _ _).1,hd',eb hoi hne' hai hia q3,hro];rw [hput]
  ·rw [hask] at hk;cases hk
  ·exact absurd hh hSa
 /- a call's new box beside what looks on -/
 have peekAt: ∀{x y:Nat} {ox oy:Oper},ops[x]?=some ox→ops[y]?=some oy→y≠x→ordered (fC ops) x y=false→ordered (fC ops) y x=false→bQ c ops x ox.op=true→blind oy.op=false→
   ∃p q,eL oy.op=some p∧fN ops y p=some q∧q∈jE ops x:=by
  intro x y ox oy _ hy hne h1 h2 hs hb;have hs':=hs;simp only [bQ,Bool.and_eq_true] at hs';have hm:=sr ops.toList 0 y oy hs'.1.2 (by simpa using hy);have hneb:(0+y==x)=false:=by simpa using hne
  rw [hneb,Nat.zero_add,h1,h2,hb] at hm;simp only [Bool.or_self,Bool.false_or] at hm;obtain ⟨q,hq⟩:=Option.isSome_iff_exists.1 hm;have hq':=hq;unfold mh at hq';split at hq'
  case h_2=>cases hq'
  rename_i p hp;refine ⟨p,q,hp,hq',Aa ops.toList 0 y oy (by simpa using hy) (by rw [Nat.zero_add];exact hq) ?_⟩;rw [hneb,Nat.zero_add,h1,h2];rfl
 by_cases hPa:bF ops s.t oa.guard=some true∧ ∃v x,bN c (eQ cf (bQ c ops a oa.op)) oa.op s.t (dp ops base a s.b) (b8 ops.toList a base)=some (v,.app x)∧bQ c ops a oa.op=true∧((jE ops a).all fun p=>iU s.b.length (s.t.get .any p))=true∧s1={t:=bo s.t oa.dst v,b:=s.b++ [x]}
 ·obtain ⟨hwa,va,x,hda,hsa,hca,rfl⟩:=hPa;obtain ⟨p,q,hp,hq,hpm⟩:=peekAt hoa hoi (by omega) hai hia hsa hbi';obtain ⟨hask,hnst,hncl⟩:=wU hp
  have hcq:iU s.b.length (s.t.get .any q)=true:=by rw [List.all_eq_true] at hca;exact hca q hpm
  have hany:=D4 hoa ala hsa
  have hcp:bY c ops i oi.op s.t=true→iU s.b.length (s.t.get .any p)=true:=fun h=>by
   unfold bY at h;rw [zZ hp] at h;simp only [hq,hany,Bool.not_true,Bool.false_or,Bool.and_eq_true] at h;have h:=h.1;rw [Ab h];exact hcq
  have goA: ∀v,aT c cf ops base a oa {t:=bo s.t oi.dst v,b:=s.b}=some {t:=bo (bo s.t oi.dst v) oa.dst va,b:=s.b++ [x]}:=fun v=>by
   unfold aT;rw [hsa] at hda;simp only [(ha0 v [] 0).2,hwa,ala,hsa,(ha1 (eQ cf true) v _ _).1,hda,kz hsa hoi,hca,Bool.and_self]
  rcases gl ali h2 with ⟨hw,rfl⟩ | ⟨hw,v,⟨hd,hro,rfl⟩ | ⟨y,hk,_⟩⟩ | ⟨hw,v,k',y',hd,⟨⟨hs',_⟩,hrr⟩,_⟩ | ⟨_,_,_,_,hap',_⟩
  ·simp only [(hi0 va [] 0).2] at hw;refine ⟨{t:=bo s.t oi.dst (.aO []),b:=s.b},by unfold aT;rw [hw],?_⟩;rw [goA,hput]
  ·simp only [(hi0 va [] 0).2] at hw;simp only [(hi0 va _ _).1] at hd;unfold dp at hd;rw [eb hoa hne hia hai q1] at hro;rw [wT hp (hcp hro)] at hd;refine ⟨{t:=bo s.t oi.dst v,b:=s.b},by unfold aT dp;simp only [hw,ali,hd,hro],?_⟩;rw [goA,hput]
  ·rw [hask] at hk;cases hk
  ·simp only [bG,Bool.and_eq_true] at hs';rw [hnst] at hs';exact absurd hs'.1.1 (by simp)
  ·simp only [bQ,nu hncl,Bool.false_and,Bool.false_eq_true] at hap'
 by_cases hPi:bF ops s1.t oi.guard=some true∧ ∃v x,bN c (eQ cf (bQ c ops i oi.op)) oi.op s1.t (dp ops base i s1.b) (b8 ops.toList i base)=some (v,.app x)∧bQ c ops i oi.op=true∧((jE ops i).all fun p=>iU s1.b.length (s1.t.get .any p))=true∧s2={t:=bo s1.t oi.dst v,b:=s1.b++ [x]}
 ·obtain ⟨hwi,vi,x,hdi,hsi,hci,rfl⟩:=hPi;obtain ⟨p,q,hp,hq,hpm⟩:=peekAt hoi hoa (by omega) hia hai hsi hba';obtain ⟨hask,hnst,hncl⟩:=wU hp
  have main: ∀va,s1={t:=bo s.t oa.dst va,b:=s.b}→aT c cf ops base i oi s=some {t:=bo s.t oi.dst vi,b:=s.b++ [x]}∧iU s.b.length (s.t.get .any q)=true:=by
   intro va e;subst e;simp only [(hi0 va [] 0).2] at hwi;simp only [(hi0 va _ _).1] at hdi;rw [kz hsi hoa] at hci;refine ⟨?_,?_⟩
   ·unfold aT;rw [hsi] at hdi;simp only [hwi,ali,hsi,hdi,hci,Bool.and_self]
   ·rw [List.all_eq_true] at hci;exact hci q hpm
  rcases gl ala h1 with ⟨hw,rfl⟩ | ⟨hw,v,⟨hd,hro,rfl⟩ | ⟨y,hk,_⟩⟩ | hh | ⟨_,_,_,_,hap',_⟩
  ·refine ⟨_,(main _ rfl).1,?_⟩;unfold aT;simp only [(ha0 vi [] 0).2,hw];rw [hput]
  ·obtain ⟨m1,m2⟩:=main _ rfl;refine ⟨_,m1,?_⟩
   have m2:iU s.b.length (s.t.get .any p)=true:=by have h:=hro;unfold bY at h;rw [zZ hp] at h;simp only [hq,D4 hoi ali hsi,Bool.not_true,Bool.false_or,Bool.and_eq_true] at h;have h:=h.1;rw [Ab h];exact m2
   have hd':=wT (c:=c) (cf:=eQ cf (bQ c ops a oa.op)) (x:=x) (ms:=cR (fC ops) a ops.toList 0 base) hp m2 (b8 ops.toList a base);unfold dp at hd;rw [hd] at hd';unfold aT dp;simp only [(ha0 vi [] 0).2,hw,ala,(ha0 vi _ _).1,hd',eb hoi hne' hai hia q3,hro];rw [hput]
  ·rw [hask] at hk;cases hk
  ·exact absurd hh hSa
  ·simp only [bQ,nu hncl,Bool.false_and,Bool.false_eq_true] at hap'
 have hidn:asks oa.op=true→b8 ops.toList a base≠b8 ops.toList i base:=fun h=>Nat.ne_of_lt (D3 ops.toList a i base oa (by simpa using hoa) h hlt);have hma:asks oa.op=true→ ∀bs x,dp ops base i (bs.set (b8 ops.toList a base) x)=dp ops base i bs:=fun h bs x=>so (uu ops.toList 0 base a oa (by simpa using hoa) h (by simpa using hai)) bs x;have hmi:asks oi.op=true→ ∀bs x,dp ops base a (bs.set (b8 ops.toList i base) x)=dp ops base a bs:=fun h bs x=>so (uu ops.toList 0 base i oi (by simpa using hoi) h (by simpa using hia)) bs x
 /- the second operation, taken first -/
 have goI: ∀(va:AV) (bs1:List ab),s1={t:=bo s.t oa.dst va,b:=bs1}→dp ops base i bs1=dp ops base i s.b→(asks oi.op=true→bs1[b8 ops.toList i base]?=s.b[b8 ops.toList i base]?)→
   ∃(vi:AV) (f:List ab→List ab),aT c cf ops base i oi s=some {t:=bo s.t oi.dst vi,b:=f s.b}∧s2={t:=bo (bo s.t oa.dst va) oi.dst vi,b:=f bs1}∧
    (f=id∨(asks oi.op=true∧ ∃y,f=fun bs=>bs.set (b8 ops.toList i base) y)):=by
  intro va bs1 hs1 hmask hdead;subst hs1;rcases gl ali h2 with ⟨hw,rfl⟩ | ⟨hw,v,⟨hd,hro,rfl⟩ | ⟨x,hask,hde,hd,rfl⟩⟩ | hh | hh
  case' inr.inr.inl=>exact absurd hh hSi
  case' inr.inr.inr=>exact absurd hh hPi
  ·simp only at hw;rw [(hi0 va [] 0).2] at hw;exact ⟨.aO [],id,by unfold aT;rw [hw];rfl,rfl,.inl rfl⟩
  ·simp only at hw hd;rw [(hi0 va [] 0).2] at hw;rw [(hi0 va _ _).1,hmask] at hd;have hro':bY c ops i oi.op s.t=true:=by rw [←eb hoa hne hia hai q1];exact hro
   exact ⟨v,id,by unfold aT;rw [hw,ali];simp only [hd,hro'];rfl,rfl,.inl rfl⟩
  ·simp only at hw hd hde;rw [(hi0 va [] 0).2] at hw;rw [(hi0 va _ _).1,hmask] at hd;rw [hdead hask] at hde;exact ⟨v,fun bs=>bs.set (b8 ops.toList i base) x,by unfold aT;rw [hw,ali];simp only [hd,hask,hde],rfl,.inr ⟨hask,x,rfl⟩⟩
 /- the first operation, taken second -/
 have fin: ∀(vi:AV) (f:List ab→List ab),(f=id∨(asks oi.op=true∧ ∃y,f=fun bs=>bs.set (b8 ops.toList i base) y))→ ∀(va:AV) (h:List ab→List ab),(h=id∨(asks oa.op=true∧ ∃x,h=fun bs=>bs.set (b8 ops.toList a base) x))→
   ({t:=bo (bo s.t oa.dst va) oi.dst vi,b:=f (h s.b)}:St)={t:=bo (bo s.t oi.dst vi) oa.dst va,b:=h (f s.b)}:=by
  intro vi f hf va h hh;rw [hput va vi];congr 1;rcases hf with rfl | ⟨hai',y,rfl⟩ <;> rcases hh with rfl | ⟨haa,x,rfl⟩ <;> try rfl
  simp only;exact List.set_comm _ _ (hidn haa)
 have maskF: ∀(f:List ab→List ab),(f=id∨(asks oi.op=true∧ ∃y,f=fun bs=>bs.set (b8 ops.toList i base) y))→dp ops base a (f s.b)=dp ops base a s.b:=fun f hf=>by
  rcases hf with rfl | ⟨h,y,rfl⟩
  ·rfl
  ·exact hmi h s.b y
 rcases gl ala h1 with ⟨hw,hs1⟩ | ⟨hw,va,⟨hd,hro,hs1⟩ | ⟨x,hask,hde,hd,hs1⟩⟩ | hh | hh
 case' inr.inr.inl=>exact absurd hh hSa
 case' inr.inr.inr=>exact absurd hh hPa
 ·obtain ⟨vi,f,k1,k2,k3⟩:=goI _ _ hs1 rfl (fun _=>rfl);refine ⟨_,k1,?_⟩;unfold aT;simp only;rw [(ha0 vi [] 0).2,hw];simp only;rw [k2];exact congrArg some (fin vi f k3 (.aO []) id (.inl rfl)).symm
 ·obtain ⟨vi,f,k1,k2,k3⟩:=goI _ _ hs1 rfl (fun _=>rfl);refine ⟨_,k1,?_⟩;unfold aT;simp only;rw [(ha0 vi [] 0).2,hw,ala];simp only;rw [(ha0 vi _ _).1,maskF f k3,hd];simp only [eb hoi hne' hai hia q3,hro];rw [k2];exact congrArg some (fin vi f k3 va id (.inl rfl)).symm
 ·obtain ⟨vi,f,k1,k2,k3⟩:=goI _ _ hs1 (hma hask s.b x) (fun _=>by rw [List.getElem?_set,if_neg (hidn hask)]);refine ⟨_,k1,?_⟩;unfold aT;simp only;rw [(ha0 vi [] 0).2,hw,ala];simp only;rw [(ha0 vi _ _).1,maskF f k3,hd]
  have hde':(f s.b)[b8 ops.toList a base]?=some .dead:=by
   rcases k3 with rfl | ⟨hai',y,rfl⟩
   ·exact hde
   ·simp only;rw [List.getElem?_set,if_neg (fun e=>hidn hask e.symm)];exact hde
  simp only [hask,hde'];rw [k2];exact congrArg some (fin vi f k3 va (fun bs=>bs.set (b8 ops.toList a base) x) (.inr ⟨hask,x,rfl⟩)).symm
def steps (c:ax) (cf:aG) (ops:Array Oper) (base:Nat):List Nat→St→Option St
 | [],s=>some s
 | i::r,s=>match ops[i]? with
  | some o=>match aT c cf ops base i o s with
   | some s'=>steps c cf ops base r s'
   | none=>none
  | none=>none
theorem lj: ∀(l:List Oper) (k:Nat) (s:St),(∀j,l[j]?=ops[k+j]?)→E7 c cf ops base l k s=steps c cf ops base (List.range' k l.length) s
 | [],k,s,_=>rfl
 | o::r,k,s,h=>by
  have h0:ops[k]?=some o:=by simpa using (h 0).symm
  simp only [E7,List.length_cons,List.range'_succ,steps,h0];cases hs:aT c cf ops base k o s with
  | none=>rfl
  | some s'=>simp only;exact lj r (k+1) s' (fun j=>by have:=h (j+1);simpa [Nat.add_assoc,Nat.add_comm 1 j] using this)
theorem uz {i:Nat} {oi:Oper} (hoi:ops[i]?=some oi): ∀(A B:List Nat) (s s':St),(∀a∈A,a<i∧ordered (fC ops) a i=false∧ordered (fC ops) i a=false∧ ∀oa,ops[a]?=some oa→oa.apart ops oi=true)→
  steps c cf ops base (A++i::B) s=some s'→ ∃s1,aT c cf ops base i oi s=some s1∧steps c cf ops base (A++B) s1=some s'
 | [],B,s,s',_,h=>by
  simp only [List.nil_append,steps,hoi] at h;split at h
  ·rename_i s1 hs1;exact ⟨s1,hs1,h⟩
  ·cases h
 | a::A,B,s,s',hA,h=>by
  simp only [List.cons_append,steps] at h;split at h
  ·rename_i oa hoa;split at h
   ·rename_i s1 hs1;obtain ⟨s2,h2,h3⟩:=uz hoi A B s1 s' (fun x hx=>hA x (List.mem_cons_of_mem _ hx)) h;obtain ⟨q1,q2,q3,q4⟩:=hA a List.mem_cons_self;obtain ⟨s1',k1,k2⟩:=comm hoa hoi q1 (q4 oa hoa) q2 q3 hs1 h2;exact ⟨s1',k1,by simp only [List.cons_append,steps,hoa,k2];exact h3⟩
   ·cases h
  ·cases h
variable {P:Program} [Kn]
theorem Ad (hc:bC c P) (hcf:oP P cf) (hov:zR P c) (hdr:qY ops=true) {Q:Exit→Act→World→Prop} {s':St} {g0:Gh} {w0:World} {ds:List Deferred} {ro:Option Nat}
  (hQ: ∀a' w',D5 ds g0 w0 s' a' w'→Q .normal a' w'):
  ∀(fuel:Nat) (L:List Nat) (listed:Array Bool) (s:St) (g:Gh) (w:World) (a:Act),L.length=fuel→L.Pairwise (· < ·)→listed.size=ops.size→(∀j,j∈L↔j<ops.size∧listed.getD j true=false)→
   (∀j x,j<ops.size→listed.getD j true=true→ordered (fC ops) x j=true→listed.getD x true=true)→
   steps c cf ops base L s=some s'→Mem g s.b w→fk g w s.t a→a.defers=ds→Le g0 w0 g w→Fr g0 w0 g w→wpAnyIn (FW ro) 0 P .any ops Q fuel listed a w:=by
 simp only [qY,Bool.and_eq_true] at hdr;obtain ⟨hback,hpairs⟩:=hdr;intro fuel
 induction fuel with
 | zero=>intro L listed s g w a hlen hsort hsize hmem hcl h hm ht hd hl hf;have hL:L= []:=List.eq_nil_of_length_eq_zero hlen;subst hL;cases h;refine ⟨?_,hQ a w ⟨hd,g,hm,ht,hl,hf⟩⟩;unfold Region.ready;rw [List.filter_eq_nil_iff];intro j hj hr;rw [List.mem_range] at hj;simp only [Bool.and_eq_true,Bool.not_eq_true'] at hr;exact absurd ((hmem j).2 ⟨hj,hr.1⟩) (by simp)
 | succ fuel ih=>
  intro L listed s g w a hlen hsort hsize hmem hcl h hm ht hd hl hf;refine ⟨fun hr=> ?_,fun i hi=> ?_⟩
  ·exfalso;cases L with
   | nil=>simp at hlen
   | cons i0 L=>
    obtain ⟨h1,h2⟩:=(hmem i0).1 List.mem_cons_self
    have:i0∈Region.ready .any ops listed:=by
     unfold Region.ready;rw [List.mem_filter,List.mem_range];refine ⟨h1,?_⟩;have ho:ops[i0]?=some ops[i0]:=by simp [h1]
     simp only [h2,ho,Option.map_some,Option.getD_some,Bool.not_false,Bool.true_and,Array.all_eq_true_iff_forall_mem];intro e he;cases hb:Region.binds .any e with
     | false=>rfl
     | true=>
      have hlt:=gk ops.toList 0 i0 ops[i0] hback (by simp [h1]) e he hb;simp only [Nat.zero_add] at hlt
      have hlis:listed.getD e.on true=true:=by
       cases hx:listed.getD e.on true with
       | true=>rfl
       | false=>
        have hin:=(hmem e.on).2 ⟨by omega,hx⟩;rcases List.mem_cons.1 hin with rfl | hin
        ·omega
        ·have:=List.rel_of_pairwise_cons hsort hin;omega
      have hsz:e.on<listed.size:=by omega
      simp [hsz] at hlis⊢;exact hlis
    rw [hr] at this;cases this
  ·unfold Region.ready at hi;rw [List.mem_filter,List.mem_range] at hi;obtain ⟨hisz,hi⟩:=hi;simp only [Bool.and_eq_true,Bool.not_eq_true'] at hi;obtain ⟨hun,hrd⟩:=hi;have hoi:ops[i]?=some ops[i]:=by simp [hisz]
   rw [hoi] at hrd;simp only [Option.map_some,Option.getD_some,Array.all_eq_true_iff_forall_mem] at hrd
   have hall: ∀x,ordered (fC ops) x i=true→listed.getD x true=true:=fun x hx=>by
    obtain ⟨e,he,hb,h3⟩:=lh hback hoi hx;have h4:=hrd e he;rw [hb] at h4;have hlt:=gk ops.toList 0 i ops[i] hback (by simp [hisz]) e he hb;simp only [Nat.zero_add] at hlt;have hsz:e.on<listed.size:=by omega
    have h5:listed.getD e.on true=true:=by simp [hsz] at h4⊢;exact h4
    rcases h3 with rfl | h3
    ·exact h5
    ·exact hcl e.on x (by omega) h5 h3
   obtain ⟨A,B,rfl⟩:=List.append_of_mem ((hmem i).2 ⟨hisz,hun⟩)
   have hA: ∀x∈A,x<i∧ordered (fC ops) x i=false∧ordered (fC ops) i x=false∧ ∀ox,ops[x]?=some ox→ox.apart ops ops[i]=true:=fun x hx=>by
    have hlt:x<i:=(List.pairwise_append.1 hsort).2.2 x hx i List.mem_cons_self;obtain ⟨hxs,hxu⟩:=(hmem x).1 (List.mem_append_left _ hx)
    have h1:ordered (fC ops) x i=false:=by
     cases hh:ordered (fC ops) x i with
     | false=>rfl
     | true=>rw [hall x hh] at hxu;cases hxu
    have h2:ordered (fC ops) i x=false:=by
     cases hh:ordered (fC ops) i x with
     | false=>rfl
     | true=>have:=Cm hback x i hxs hh;omega
    refine ⟨hlt,h1,h2,fun ox hox=> ?_⟩;have:=zT ops.toList 0 x i ox ops[i] hpairs (by simpa using hox) hlt (by simp [hisz]);simp only [Nat.zero_add,h1,Bool.false_eq_true,false_or] at this;exact this
   obtain ⟨s1,h1,h2⟩:=uz hoi A B s s' hA h
   have next: ∀(g':Gh) (w':World) (a':Act),Mem g' s1.b w'→fk g' w' s1.t a'→a'.defers=ds→Le g0 w0 g' w'→Fr g0 w0 g' w'→wpAnyIn (FW ro) 0 P .any ops Q fuel (listed.setIfInBounds i true) a' w':=fun g' w' a' hm' ht' hd' hl' hf'=>by
    refine ih (A++B) (listed.setIfInBounds i true) s1 g' w' a' (by simp at hlen⊢;omega) ?_ (by simp [hsize]) (fun j=> ?_) (fun j x hj hlj hx=> ?_) h2 hm' ht' hd' hl' hf'
    ·exact hsort.sublist (List.Sublist.append_left (List.sublist_cons_self i B) A)
    ·have hj:=hmem j
     have hnd:i∉A∧i∉B:=by
      obtain ⟨p1,p2,p3⟩:=List.pairwise_append.1 hsort;refine ⟨fun hx=> ?_,fun hx=> ?_⟩
      ·have:=p3 i hx i List.mem_cons_self;omega
      ·have:=List.rel_of_pairwise_cons p2 hx;omega
     by_cases e:j=i
     ·subst e;have hjs:j<listed.size:=by omega
      simp [hnd.1,hnd.2,hjs]
     ·rw [List.mem_append,List.mem_cons] at hj
      have hg:(listed.setIfInBounds i true).getD j true=listed.getD j true:=by simp [Array.getD_eq_getD_getElem?,Array.getElem?_setIfInBounds_ne (Ne.symm e)]
      rw [hg,List.mem_append,←hj];constructor
      ·rintro (hx | hx)
       ·exact .inl hx
       ·exact .inr (.inr hx)
      ·rintro (hx | rfl | hx)
       ·exact .inl hx
       ·exact absurd rfl e
       ·exact .inr hx
    ·have hset: ∀y,listed.getD y true=true→(listed.setIfInBounds i true).getD y true=true:=fun y hy=>by
      by_cases e:y=i
      ·subst e;have hys:y<listed.size:=by omega
       simp [hys]
      ·simp only [Array.getD_eq_getD_getElem?] at hy⊢;rw [Array.getElem?_setIfInBounds_ne (Ne.symm e)];exact hy
     by_cases e:j=i
     ·subst e;exact hset x (hall x hx)
     ·have hg:listed.getD j true=true:=by
       simp only [Array.getD_eq_getD_getElem?] at hlj⊢
       rwa [Array.getElem?_setIfInBounds_ne (Ne.symm e)] at hlj
      exact hset x (hcl j x hj hg hx)
   unfold wpOpIn;rw [hoi];simp only;unfold aT at h1;split at h1
   ·rename_i hw;rw [iW ht hw,if_pos rfl];split at h1
    ·split at h1
     ·rename_i v e hop;split at h1
      ·rename_i bs' he;cases h1;exact nv hc hcf hov hm ht hop he (fun v' w' g' k1 k2 k3 k4=>next g' w' _ k1 ((ht.mono k2).put _ k4) (by rw [put_defers];exact hd) (hl.trans k2) (hf.trans k3)) ro
      ·cases h1
     ·cases h1
    ·split at h1
     ·rename_i v hop;split at h1
      case h_2=>cases h1
      cases h1;have hop':=uA (dK _ s.b) (e:= .none) trivial hop;exact nv hc (pP hcf _) hov hm ht hop' rfl (fun v' w' g' k1 k2 k3 k4=>next g' w' _ k1 ((ht.mono k2).put _ k4) (by rw [put_defers];exact hd) (hl.trans k2) (hf.trans k3)) ro
     ·rename_i v x hop;split at h1
      ·rename_i hask hdead;cases h1;have hop':=uA (dK _ s.b) (e:= .new x) trivial hop;exact nv hc (pP hcf _) hov hm ht hop' (bs':=s.b.set (b8 ops.toList i base) x) (by simp only [cQ.on,hdead]) (fun v' w' g' k1 k2 k3 k4=>next g' w' _ k1 ((ht.mono k2).put _ k4) (by rw [put_defers];exact hd) (hl.trans k2) (hf.trans k3)) ro
      ·cases h1
     ·rename_i v k x hop;split at h1
      ·rename_i hcalm;cases h1;rw [Bool.and_eq_true,Bool.and_eq_true,Bool.and_eq_true] at hcalm
       have hop':bN c (eQ cf (bQ c ops i ops[i].op)) ops[i].op s.t s.b (b8 ops.toList i base)=some (v,.gZ k x):=by
        have hx:=hcalm.1.1.2;cases x with
        | var ty cs=>exact Fg hx (dK _ s.b) hop
        | sl sh sz es=>exact G9 hx (dK _ s.b) hop
        | dead=>cases hx
        | loop st=>cases hx
        | mp es clock=>cases hx
        | gone=>cases hx
        | iter o=>cases hx
       exact nv hc (pP hcf _) hov hm ht hop' (bs':=s.b.set k x) rfl (fun v' w' g' k1 k2 k3 k4=>next g' w' _ k1 ((ht.mono k2).put _ k4) (by rw [put_defers];exact hd) (hl.trans k2) (hf.trans k3)) ro
      ·cases h1
     ·rename_i v x hop;split at h1
      ·rename_i hcalm;cases h1;rw [Bool.and_eq_true] at hcalm
       have hcv:eo ops[i].op=true:=by have:=hcalm.1;simp only [bQ,Bool.and_eq_true] at this;exact zW this.1.1
       have hop':=Jm (dK _ s.b) (mo _ s.b) hcv hop;exact nv hc (pP hcf _) hov hm ht hop' (bs':=s.b++ [x]) rfl (fun v' w' g' k1 k2 k3 k4=>next g' w' _ k1 ((ht.mono k2).put _ k4) (by rw [put_defers];exact hd) (hl.trans k2) (hf.trans k3)) ro
      ·cases h1
     ·cases h1
   ·rename_i hw;cases h1;rw [iW ht hw,if_neg (by simp)];refine ⟨fun _ _=>trivial,?_⟩;exact next g w _ hm (ht.put _ (.aO [] #[] rfl (fun i c v h=>by simp at h))) (by rw [put_defers];exact hd) hl hf
   ·cases h1
end
end Go.Am
