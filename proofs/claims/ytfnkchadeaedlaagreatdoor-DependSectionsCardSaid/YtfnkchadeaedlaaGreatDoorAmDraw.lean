/-
 Regions that draw their order: whatever order the tape picks, the abstract machine's lexical run describes the end.
-/
import Derived.Test.YtfnkchadeaedlaaGreatDoorAmMono
set_option linter.all false
namespace Go.Am
theorem BQ {m:List Nat} {o:Oper} {a:Nat} (h:(xJ m o).testBit a=true): ∃e∈o.after,Region.binds .any e=true∧(a=e.on∨(m.getD e.on 0).testBit a=true):=by
 have key: ∀(l:List Edge) (s:Nat),(l.foldl (fun s e=>match Region.binds .any e with | true=>s ||| (2^e.on ||| m.getD e.on 0) | false=>s) s).testBit a=true→
   s.testBit a=true∨ ∃e∈l,Region.binds .any e=true∧(a=e.on∨(m.getD e.on 0).testBit a=true):=by
  intro l
  induction l with
  | nil=>intro s h;exact .inl h
  | cons e l ih=>
   intro s h;rw [List.foldl_cons] at h;rcases ih _ h with h1 | ⟨e',he',h2⟩
   ·split at h1
    ·rename_i hb;simp only [Nat.testBit_or,Bool.or_eq_true] at h1;rcases h1 with h1 | h1 | h1
     ·exact .inl h1
     ·refine .inr ⟨e,List.mem_cons_self,hb,.inl ?_⟩;rw [Nat.testBit_two_pow] at h1;exact (by simpa using h1:e.on=a).symm
     ·exact .inr ⟨e,List.mem_cons_self,hb,.inr h1⟩
    ·exact .inl h1
   ·exact .inr ⟨e',List.mem_cons_of_mem _ he',h2⟩
 rcases key o.after.toList 0 h with h1 | ⟨e,he,h2⟩
 ·simp at h1
 ·exact ⟨e,by simpa using he,h2⟩
theorem tG: ∀(l:List Oper) (m:List Nat) (j:Nat),j<m.length→(y8 l m).getD j 0=m.getD j 0
 | [],m,j,_=>rfl
 | o::r,m,j,h=>by
  simp only [y8];rw [tG r _ j (by simp;omega)];simp only [List.getD_eq_getElem?_getD,List.getElem?_append_left h]
theorem Dk: ∀(l:List Oper) (m:List Nat) (k:Nat) (o:Oper),l[k]?=some o→ ∃m',(y8 l m).getD (m.length+k) 0=xJ m' o∧ ∀j,j<m.length+k→(y8 l m).getD j 0=m'.getD j 0
 | [],m,k,o,h=>by simp at h
 | p::r,m,0,o,h=>by
  simp at h;subst h;refine ⟨m,?_,fun j hj=>tG (p::r) m j hj⟩;simp only [y8,Nat.add_zero];rw [tG r _ m.length (by simp)];simp [List.getD_eq_getElem?_getD]
 | p::r,m,k+1,o,h=>by
  simp at h;obtain ⟨m',h1,h2⟩:=Dk r (m++ [xJ m p]) k o h;simp only [y8];simp only [List.length_append,List.length_cons,List.length_nil] at h1 h2;exact ⟨m',by rw [←h1];congr 1;omega,fun j hj=>h2 j (by omega)⟩
theorem fP: ∀(l:List Oper) (k i:Nat) (o:Oper),cB l k=true→l[i]?=some o→ ∀e∈o.after,Region.binds .any e=true→e.on<k+i
 | [],k,i,o,_,h=>by simp at h
 | p::r,k,0,o,hb,h=>by
  simp at h;subst h;simp only [cB,Bool.and_eq_true,List.all_eq_true] at hb;intro e he hbe;have:=hb.1 e (by simpa using he);simpa [hbe] using this
 | p::r,k,i+1,o,hb,h=>by
  simp at h;simp only [cB,Bool.and_eq_true] at hb;intro e he hbe;have:=fP r (k+1) i o hb.2 h e he hbe;omega
theorem kQ {ops:Array Oper} (hb:cB ops.toList 0=true) {a i:Nat} {o:Oper} (ho:ops[i]?=some o) (h:ordered (fh ops) a i=true): ∃e∈o.after,Region.binds .any e=true∧(a=e.on∨ordered (fh ops) a e.on=true):=by
 have ho':ops.toList[i]?=some o:=by simpa using ho
 obtain ⟨m',h1,h2⟩:=Dk ops.toList [] i o ho';simp only [List.length_nil,Nat.zero_add] at h1 h2;unfold ordered fh at h;rw [h1] at h;obtain ⟨e,he,hbe,h3⟩:=BQ h;refine ⟨e,he,hbe,h3.imp id (fun h3=> ?_)⟩;have hlt:=fP ops.toList 0 i o hb ho' e he hbe;unfold ordered fh;rw [h2 e.on (by omega)];exact h3
theorem BR {ops:Array Oper} (hb:cB ops.toList 0=true): ∀(i a:Nat),i<ops.size→ordered (fh ops) a i=true→a<i:=by
 intro i
 induction i using Nat.strongRecOn with
 | _ i ih=>
  intro a hi h;have ho:ops[i]?=some ops[i]:=by simp [hi]
  obtain ⟨e,he,hbe,h3⟩:=kQ hb ho h;have hlt:=fP ops.toList 0 i ops[i] hb (by simp) e he hbe;rcases h3 with h3 | h3
  ·omega
  ·have:=ih e.on (by omega) a (by omega) h3;omega
theorem tH {ops:Array Oper} {b:List Nat} {o:Oper} {i:Nat}: ∀(l:List Oper) (j k:Nat) (p:Oper),o8 ops b o i l j=true→l[k]?=some p→ordered b i (j+k)=true∨o.apart ops p=true
 | [],j,k,p,_,h=>by simp at h
 | q::r,j,0,p,hb,h=>by
  simp at h;subst h;simp only [o8,Bool.and_eq_true,Bool.or_eq_true] at hb;exact hb.1
 | q::r,j,k+1,p,hb,h=>by
  simp at h;simp only [o8,Bool.and_eq_true] at hb;have:=tH r (j+1) k p hb.2 h
  rwa [show j+1+k=j+(k+1) by omega] at this
theorem zk {ops:Array Oper} {b:List Nat}: ∀(l:List Oper) (i k m:Nat) (o p:Oper),lS ops b l i=true→l[k]?=some o→k<m→l[m]?=some p→ordered b (i+k) (i+m)=true∨o.apart ops p=true
 | [],i,k,m,o,p,_,h,_,_=>by simp at h
 | q::r,i,0,m,o,p,hb,h,hlt,hp=>by
  simp at h;subst h;simp only [lS,Bool.and_eq_true] at hb;cases m with
  | zero=>omega
  | succ m=>
   simp at hp;have:=tH r (i+1) m p hb.1.2 hp
   rwa [show i+1+m=i+(m+1) by omega] at this
 | q::r,i,k+1,m,o,p,hb,h,hlt,hp=>by
  simp at h;simp only [lS,Bool.and_eq_true] at hb;cases m with
  | zero=>omega
  | succ m=>
   simp at hp;have:=zk r (i+1) k m o p hb.2 h (by omega) hp
   rwa [show i+1+k=i+(k+1) by omega,show i+1+m=i+(m+1) by omega] at this
theorem tI {ops:Array Oper} {i j:Nat} (hj:j<ops.size) (hne:j≠i) (h1:ordered (fh ops) i j=false) (h2:ordered (fh ops) j i=false) (ha:alone ops i=true):mN ops j=true:=by
 have key: ∀n,j<n→xK ops (fh ops) i n=true→mN ops j=true:=by
  intro n
  induction n with
  | zero=>intro h;omega
  | succ n ih=>
   intro h hh;simp only [xK,Bool.and_eq_true] at hh;by_cases e:j=n
   ·subst e;have:(j==i)=false:=by simpa using hne
    simpa [this,h1,h2] using hh.1
   ·exact ih (by omega) hh.2
 exact key _ hj ha
theorem Ih (id:Nat) (op:Op):id≤next id op:=by unfold next;split <;> omega
theorem Em {id:Nat} {op:Op} (h:asks op=true):next id op=id+1:=by unfold next;rw [h]
theorem Dl: ∀(l:List Oper) (i base:Nat),base≤b8 l i base
 | _,0,base=>by cases ‹List Oper› <;> exact Nat.le_refl _
 | [],i+1,base=>Nat.le_refl _
 | o::r,i+1,base=>Nat.le_trans (Ih base o.op) (Dl r i _)
theorem Dm: ∀(l:List Oper) (a i base:Nat) (o:Oper),l[a]?=some o→asks o.op=true→a<i→b8 l a base<b8 l i base
 | [],a,i,base,o,h,_,_=>by simp at h
 | p::r,0,i,base,o,h,ha,hlt=>by
  simp at h;subst h;cases i with
  | zero=>omega
  | succ i=>simp only [b8];have:=Dl r i (next base p.op);rw [Em ha] at this⊢;omega
 | p::r,a+1,i,base,o,h,ha,hlt=>by
  simp at h;cases i with
  | zero=>omega
  | succ i=>exact Dm r a i _ o h ha (by omega)
theorem tJ {b:List Nat} {i:Nat}: ∀(l:List Oper) (j id a:Nat) (o:Oper),l[a]?=some o→asks o.op=true→ordered b (j+a) i=false→b8 l a id∈cK b i l j id
 | [],j,id,a,o,h,_,_=>by simp at h
 | p::r,j,id,0,o,h,ha,ho=>by
  simp at h;subst h;simp only [Nat.add_zero] at ho;simp [cK,ha,ho,b8]
 | p::r,j,id,a+1,o,h,ha,ho=>by
  simp at h;have ih:=tJ r (j+1) (next id p.op) a o h ha (by rwa [show j+1+a=j+(a+1) by omega]);simp only [cK,b8];split
  ·exact List.mem_cons_of_mem _ ih
  ·exact ih
theorem lZ: ∀(l:List Nat) (bs:List ad),(aP l bs).length=bs.length
 | [],bs=>rfl
 | k::r,bs=>by simp only [aP];rw [lZ r];simp
theorem bP: ∀(l:List Nat) (bs:List ad) (j:Nat),(aP l bs)[j]?=if j∈l∧j<bs.length then some .dead else bs[j]?
 | [],bs,j=>by simp [aP]
 | k::r,bs,j=>by
  simp only [aP];rw [bP r];simp only [List.length_set,List.mem_cons,List.getElem?_set];by_cases h1:j∈r
  ·simp [h1];split <;> simp_all
  ·by_cases h2:k=j
   ·subst h2;by_cases h3:k<bs.length <;> simp [h1,h3]
   ·have: ¬ j=k:=fun e=>h2 e.symm;simp [h1,h2,this]
theorem rJ {l:List Nat} {k:Nat} (h:k∈l) (bs:List ad) (x:ad):aP l (bs.set k x)=aP l bs:=by
 apply List.ext_getElem?;intro j;rw [bP,bP,List.length_set,List.getElem?_set];by_cases e:k=j
 ·subst e;by_cases h3:k<bs.length <;> simp [h,h3]
 ·simp [e]
theorem dz (l:List Nat) (bs:List ad):Sub (aP l bs) bs:=fun k hk=>by
 simp only [ad.at,List.getD_eq_getElem?_getD] at hk⊢;rw [bP] at hk⊢;by_cases h:k∈l∧k<bs.length
 ·rw [if_pos h] at hk;simp at hk
 ·rw [if_neg h]
theorem Ge [Kn] {P:Program} {cf:aG} (h:oq P cf):oq P (pd cf) where
 fn:=fun f xs bs r bs' hr=>by
  unfold pd at hr;split at hr
  ·rename_i f' heq;cases heq;split at hr
   ·rename_i v hf;cases hr;exact h.fn _ _ _ _ _ hf
   ·rename_i v x l hf;obtain ⟨h1,h2⟩:=h.fn _ _ _ _ _ hf;refine ⟨h1,fun g w vs hm hx=>(h2 g w vs hm hx).mono fun e w' ⟨u,g',he,hm',hl,hfr,hr'⟩=> ?_⟩
    have hho:handOver ([]:List ad).length ⟨start 0 [],x::l⟩ v=some (r,bs'):=by unfold handOver;exact hr
    obtain ⟨g'',k1,k2,k3,k4⟩:=ph hm (s:=⟨start 0 [],x::l⟩) hm' hl hfr hr' hho;exact ⟨u,g'',he,k1,k2,k3,k4⟩
   ·cases hr
  ·exact h.fn _ _ _ _ _ hr
 fg:=fun k s env xs bs r bs' hr=>by
  unfold pd at hr;exact h.fg _ _ _ _ _ _ _ hr
theorem pj [Kn] {P:Program} {cf:aG} (h:oq P cf): ∀b,oq P (eE cf b)
 | true=>h
 | false=>Ge h
theorem Ii {c:ax} {cf:aG} {op:Op} {t:Env} {bs bs':List ad} (hs:Sub bs bs') (hl:bs.length=bs'.length) (hv:dY op=true) {id:Nat} {v:AV} {x:ad} (h:bJ c cf op t bs id=some (v,.app x)):bJ c cf op t bs' id=some (v,.app x):=by
 unfold bJ at h⊢;split at h
 ·split at h
  ·split at h
   ·split at h
    ·split at h <;> cases h
    ·unfold nD at h⊢;split at h
     ·split at h <;> cases h
     ·unfold o7 at h⊢;split at h
      ·split at h <;> cases h
      unfold wa at h⊢;split at h
      ·rename_i l hl2;rw [jq hs hl2];simp only;split at h
       ·split at h
        ·split at h
         ·split at h
          ·unfold cH at h;split at h <;> cases h
          ·cases h
         ·cases h
        ·split at h
         ·split at h
          ·unfold cH at h;split at h <;> cases h
          ·cases h
         ·rename_i hcf;split at h
          ·rename_i hfr;split at h
           ·cases h
           ·rename_i hno;rw [←hl];exact h
          ·split at h <;> cases h
         ·cases h
       ·split at h <;> cases h
      ·cases h
   ·split at h <;> cases h
   ·cases h
  ·rename_i k hk;exfalso;unfold dY at hv;simp only at hv
   first
   | (cases hv;done)
   | (split at hv
      ·rename_i f hf;exact hk f hf
      ·cases hv)
 ·rename_i hk;exfalso;unfold dY at hv;split at hv
  ·rename_i k;exact hk k rfl
  ·cases hv
section
variable {c:ax} {cf:aG} {ops:Array Oper} {base:Nat}
theorem fQ {i:Nat} {o:Oper} {s s':St} (hal:alone ops i=false) (h:aR c cf ops base i o s=some s'):
  (bw ops s.t o.guard=some false∧s'={t:=bd s.t o.dst (.aI []),b:=s.b})∨
  (bw ops s.t o.guard=some true∧ ∃v,(bJ c (eE cf (bO c ops i o.op)) o.op s.t (dc ops base i s.b) (b8 ops.toList i base)=some (v,.none)∧bX c ops i o.op s.t=true∧s'={t:=bd s.t o.dst v,b:=s.b})∨
   ∃x,asks o.op=true∧s.b[b8 ops.toList i base]?=some .dead∧bJ c (eE cf (bO c ops i o.op)) o.op s.t (dc ops base i s.b) (b8 ops.toList i base)=some (v,.new x)∧s'={t:=bd s.t o.dst v,b:=s.b.set (b8 ops.toList i base) x})∨
  (bw ops s.t o.guard=some true∧ ∃v k x,bJ c (eE cf (bO c ops i o.op)) o.op s.t (dc ops base i s.b) (b8 ops.toList i base)=some (v,.gL k x)∧((bA ops i o.op=true∧rF o.op x=true)∧bX c ops i o.op s.t=true)∧((gn ops i).all fun p=>eN k (s.t.get .any p))=true∧s'={t:=bd s.t o.dst v,b:=s.b.set k x})∨
  (bw ops s.t o.guard=some true∧ ∃v x,bJ c (eE cf (bO c ops i o.op)) o.op s.t (dc ops base i s.b) (b8 ops.toList i base)=some (v,.app x)∧bO c ops i o.op=true∧((jk ops i).all fun p=>iC s.b.length (s.t.get .any p))=true∧s'={t:=bd s.t o.dst v,b:=s.b++ [x]}):=by
 unfold aR at h;split at h
 ·rename_i hw;rw [hal] at h;simp only at h;split at h
  ·rename_i v hd;split at h
   ·rename_i hro;cases h;exact .inr (.inl ⟨hw,v,.inl ⟨hd,hro,rfl⟩⟩)
   ·cases h
  ·rename_i v x hd;split at h
   ·rename_i ha hdead;cases h;exact .inr (.inl ⟨hw,v,.inr ⟨x,ha,hdead,hd,rfl⟩⟩)
   ·cases h
  ·rename_i v k x hd;split at h
   ·rename_i hcalm;cases h;rw [Bool.and_eq_true,Bool.and_eq_true,Bool.and_eq_true] at hcalm;exact .inr (.inr (.inl ⟨hw,v,k,x,hd,hcalm.1,hcalm.2,rfl⟩))
   ·cases h
  ·rename_i v x hd;split at h
   ·rename_i hcalm;cases h;rw [Bool.and_eq_true] at hcalm;exact .inr (.inr (.inr ⟨hw,v,x,hd,hcalm.1,hcalm.2,rfl⟩))
   ·cases h
  ·cases h
 ·rename_i hw;cases h;exact .inl ⟨hw,rfl⟩
 ·cases h
theorem tK {b:List Nat} {i p:Nat}: ∀(l:List Oper) (j:Nat),p∈lT ops b i l j→ ∃k o,l[k]?=some o∧eM ops (j+k) o.op=some p∧(j+k==i || ordered b i (j+k) || ordered b (j+k) i)=false
 | [],_,h=>by cases h
 | o::r,j,h=>by
  simp only [lT] at h;split at h
  ·rename_i q h1 h2;rcases List.mem_cons.1 h with rfl | h
   ·exact ⟨0,o,rfl,h2,h1⟩
   ·obtain ⟨k,o',k1,k2,k3⟩:=tK r (j+1) h;exact ⟨k+1,o',k1,by rw [show j+(k+1)=j+1+k by omega];exact k2,by rw [show j+(k+1)=j+1+k by omega];exact k3⟩
  ·obtain ⟨k,o',k1,k2,k3⟩:=tK r (j+1) h;exact ⟨k+1,o',k1,by rw [show j+(k+1)=j+1+k by omega];exact k2,by rw [show j+(k+1)=j+1+k by omega];exact k3⟩
theorem zl {b:List Nat} {i p:Nat}: ∀(l:List Oper) (j k:Nat) (o:Oper),l[k]?=some o→eM ops (j+k) o.op=some p→(j+k==i || ordered b i (j+k) || ordered b (j+k) i)=false→p∈lT ops b i l j
 | [],_,k,_,h,_,_=>by simp at h
 | x::r,j,0,o,h,h2,h3=>by
  simp only [List.getElem?_cons_zero,Option.some.injEq] at h;subst h;simp only [Nat.add_zero] at h2 h3;simp only [lT,h3,h2];exact List.mem_cons_self
 | x::r,j,k+1,o,h,h2,h3=>by
  have:=zl r (j+1) k o (by simpa using h) (by rw [show j+1+k=j+(k+1) by omega];exact h2) (by rw [show j+1+k=j+(k+1) by omega];exact h3);simp only [lT];split
  ·exact List.mem_cons_of_mem _ this
  ·exact this
theorem ow {b:List Nat} {i:Nat} {op:Op}: ∀(l:List Oper) (j k:Nat) (o:Oper),o9 ops b i op l j=true→l[k]?=some o→(j+k==i || ordered b i (j+k) || ordered b (j+k) i || gD ops (j+k) op o.op)=true
 | [],_,k,_,_,h=>by simp at h
 | x::r,j,0,o,h,h2=>by
  simp only [List.getElem?_cons_zero,Option.some.injEq] at h2;subst h2;simp only [o9,Bool.and_eq_true] at h;exact h.1
 | x::r,j,k+1,o,h,h2=>by
  simp only [o9,Bool.and_eq_true] at h;have:=ow r (j+1) k o h.2 (by simpa using h2);rw [show j+(k+1)=j+1+k by omega];exact this
theorem j7 {op:Op} {j q:Nat} (h:eM ops j op=some q): ∃p,cL op=some p∧fv ops j p=some q:=by
 unfold eM at h;split at h
 ·rename_i p hp;exact ⟨p,hp,h⟩
 ·cases h
theorem tL {op:Op} {p:Nat} (k2:cL op=some p):blind op=false∧isLen op=false:=by
 unfold cL at k2;split at k2
 ·exact ⟨rfl,rfl⟩
 ·exact ⟨rfl,rfl⟩
 ·cases k2
theorem wj {i:Nat} {op:Op} (h:bA ops i op=true) {p:Nat} (hp:p∈gn ops i):(qD op).contains p=false:=by simp only [bA,Bool.and_eq_true] at h;obtain ⟨k,o,k1,k2,k3⟩:=tK ops.toList 0 hp;have h1:=ow ops.toList 0 k o h.1.2 k1;rw [k3,Bool.false_or] at h1;obtain ⟨p0,hp0,_⟩:=j7 k2;obtain ⟨hb,hl⟩:=tL hp0;unfold gD at h1;rw [hb,hl,k2] at h1;simpa using h1
theorem tM {j q:Nat}: ∀(l:List Oper) (n k:Nat) (o:Oper),kP ops j q l n=true→l[k]?=some o→(o.dst !=some q || n+k==j || ordered (fh ops) j (n+k) || ordered (fh ops) (n+k) j)=true
 | [],_,k,_,_,h=>by simp at h
 | x::r,n,0,o,h,h2=>by
  simp only [List.getElem?_cons_zero,Option.some.injEq] at h2;subst h2;simp only [kP,Bool.and_eq_true] at h;exact h.1
 | x::r,n,k+1,o,h,h2=>by
  simp only [kP,Bool.and_eq_true] at h;have:=tM r (n+1) k o h.2 (by simpa using h2);rw [show n+(k+1)=n+1+k by omega];exact this
theorem wk {j q:Nat} (h:kP ops j q ops.toList 0=true) {a:Nat} {oa:Oper} (hoa:ops[a]?=some oa) (hne:a≠j) (h1:ordered (fh ops) j a=false) (h2:ordered (fh ops) a j=false):oa.dst≠some q:=by
 intro hd;have:=tM ops.toList 0 a oa h (by simpa using hoa);rw [Nat.zero_add,h1,h2,hd] at this;have hb:(a==j)=false:=by simpa using hne
 rw [hb] at this;simp at this
theorem gZ {i a:Nat} {op:Op} {oa:Oper} (h:bA ops i op=true) (ha:ops[a]?=some oa) (hne:a≠i) (ho1:ordered (fh ops) i a=false) (ho2:ordered (fh ops) a i=false) (t:Env) (v:AV) (k:Nat):((gn ops i).all fun p=>eN k ((bd t oa.dst v).get .any p))=(gn ops i).all fun p=>eN k (t.get .any p):=by
 simp only [bA,Bool.and_eq_true] at h;have h2:=h.2;rw [List.all_eq_true] at h2;rw [Bool.eq_iff_iff,List.all_eq_true,List.all_eq_true]
 have key: ∀p∈gn ops i,(bd t oa.dst v).get .any p=t.get .any p:=fun p hp=>by
  have h3:=h2 p hp;have h4:=wk h3 ha hne ho1 ho2;cases hd:oa.dst with
  | none=>rfl
  | some d=>have hne:d≠p:=fun e=>h4 (by rw [hd,e]);simp only [bd];exact Tr.aW _ _ _ hne
 exact ⟨fun hh p hp=>by rw [←key p hp];exact hh p hp,fun hh p hp=>by rw [key p hp];exact hh p hp⟩
theorem jr {ms:List Nat} {bs:List ad} {k j:Nat} (x:ad) (h:j≠k):ad.at (aP ms (bs.set k x)) j=ad.at (aP ms bs) j:=by simp only [ad.at,List.getD_eq_getElem?_getD];rw [bP,bP,List.length_set,List.getElem?_set_ne (Ne.symm h)]
theorem rK {ms:List Nat} {bs:List ad} {k:Nat} {ty:TypeId} {cs:List AV} (h: ∀sh sz es,ad.at bs k≠ .sl sh sz es) (sh:Hd) (sz:Nat) (es:List AV):ad.at (aP ms (bs.set k (.var ty cs))) k≠ .sl sh sz es∧ad.at (aP ms bs) k≠ .sl sh sz es:=by
 have h':=h sh sz es;simp only [ad.at,List.getD_eq_getElem?_getD] at h'⊢;rw [bP,bP,List.length_set];constructor
 ·split
  ·simp
  ·by_cases hk:k<bs.length
   ·simp [hk]
   ·simp [hk]
 ·split
  ·simp
  ·exact h'
theorem En {op:Op} (h:cn op=true) {t:Env} {bs:List ad} {id:Nat} {v:AV} {e:cJ} (hd:bJ c cf op t bs id=some (v,e)): ∀k ty cs,e= .gL k (.var ty cs)→ ∃ty' cs',ad.at bs k= .var ty' cs':=by
 cases op <;> simp only [cn,Bool.false_eq_true] at h;intro k ty cs he;subst he;simp only [bJ,eU] at hd;unfold lQ at hd;split at hd
 ·split at hd
  ·split at hd
   ·split at hd
    ·rename_i ty' cs' hb;split at hd
     ·cases hd;exact ⟨_,_,hb⟩
     ·cases hd
    ·cases hd
   ·split at hd
    ·split at hd
     ·split at hd
      ·split at hd
       ·obtain ⟨_,hd⟩:=jI hd;cases hd
       rw [Option.map_eq_some_iff] at hd;obtain ⟨_,_,hd⟩:=hd;cases hd
      ·cases hd
     ·cases hd
    ·cases hd
   ·cases hd
  ·cases hd
 ·cases hd
theorem Eo {op:Op} (h:cn op=true) {t:Env} {bs bs':List ad} (hs:Sub bs bs') {id:Nat} {v:AV} {k:Nat} {ty:TypeId} {cs:List AV} (hd:bJ c cf op t bs id=some (v,.gL k (.var ty cs))):bJ c cf op t bs' id=some (v,.gL k (.var ty cs)):=by
 cases op <;> simp only [cn,Bool.false_eq_true] at h;simp only [bJ,eU] at hd⊢;unfold lQ at hd⊢;split at hd
 ·split at hd
  ·rename_i hcond;rw [if_pos hcond];split at hd
   ·rename_i k' off;split at hd
    ·rename_i ty' cs' hb;rw [hs.var hb];exact hd
    ·cases hd
   ·split at hd
    ·split at hd
     ·split at hd
      ·split at hd
       ·obtain ⟨_,hd⟩:=jI hd;cases hd
       rw [Option.map_eq_some_iff] at hd;obtain ⟨_,_,hd⟩:=hd;cases hd
      ·cases hd
     ·cases hd
    ·cases hd
   ·cases hd
  ·cases hd
 ·cases hd
theorem Gf {op:Op} (h:eG op=true) {t:Env} {bs bs':List ad} (hs:Sub bs bs') {id:Nat} {r:AV×cJ} (hd:bJ c cf op t bs id=some r):bJ c cf op t bs' id=some r:=by
 obtain ⟨v,e⟩:=r;unfold eG at h;split at h
 ·simp only [bJ,eU,dQ] at hd⊢;split at hd
  ·exact BS hs hd
  ·cases hd
 ·simp only [bJ,eU] at hd⊢;split at hd
  ·exact tN hs hd
  ·cases hd
 ·cases h
theorem Ep {d:TypeDesc} {x:AV} {ms:List Nat} {bs:List ad} {k:Nat} {ty:TypeId} {cs:List AV} (h: ∀sh sz es,ad.at bs k≠ .sl sh sz es):oc d x (aP ms (bs.set k (.var ty cs)))=oc d x (aP ms bs):=by
 have he:elems (aP ms (bs.set k (.var ty cs))) x=elems (aP ms bs) x:=by
  unfold elems;cases x with
  | az k' n=>
   simp only;by_cases hk:k'=k
   ·subst hk;have h2:=rK (ms:=ms) (ty:=ty) (cs:=cs) h;split
    ·rename_i sh sz es hb;exact absurd hb (h2 sh sz es).1
    ·split
     ·rename_i sh sz es hb;exact absurd hb (h2 sh sz es).2
     ·rfl
   ·rw [jr _ hk]
  | fi k' n lo hi=>
   simp only;by_cases hk:k'=k
   ·subst hk;have h2:=rK (ms:=ms) (ty:=ty) (cs:=cs) h;split
    ·rename_i sh sz es hb;exact absurd hb (h2 sh sz es).1
    ·split
     ·rename_i sh sz es hb;exact absurd hb (h2 sh sz es).2
     ·rfl
   ·rw [jr _ hk]
  | _=>rfl
 unfold oc;rw [he]
theorem BT {d:TypeDesc} {x:AV} {lo hi:Option AV} {bs bs':List ad} (h1: ∀k n,x≠ .az k n) (h2: ∀k n lo hi,x≠ .fi k n lo hi):db c d x lo hi bs'=db c d x lo hi bs:=by
 unfold db;split
 ·rfl
 ·rfl
 ·exact absurd rfl (h1 _ _)
 ·exact absurd rfl (h2 _ _ _ _)
 ·rfl
theorem zm {d:TypeDesc} {x:AV} {lo hi:Option AV} {bs:List ad} (h1: ∀k n,x≠ .az k n) (h2: ∀k n lo hi,x≠ .fi k n lo hi) {v:AV} {k:Nat} {y:ad} (h:db c d x lo hi bs=some (v,.gL k y)):False:=by
 unfold db at h;split at h
 ·split at h
  ·rw [Option.map_eq_some_iff] at h;obtain ⟨l,_,h⟩:=h;cases h
  ·cases h
 ·split at h
  ·split at h
   ·rw [Option.map_eq_some_iff] at h;obtain ⟨l,_,h⟩:=h;cases h
   ·cases h
  ·cases h
 ·exact absurd rfl (h1 _ _)
 ·exact absurd rfl (h2 _ _ _ _)
 ·cases h
theorem wm {op o:Op} {mj:Nat} (hm:gD ops mj op o=true) (hb:blind o=false) {t:Env} {ms:List Nat} {bs:List ad} {k:Nat} {x:ad} (hx:rF op x=true) (hv:cn op=true→ ∃ty' cs',ad.at bs k= .var ty' cs') (hc: ∀p,cL o=some p→eN k (t.get .any p)=true) (id:Nat):
  bJ c cf o t (aP ms (bs.set k x)) id=bJ c cf o t (aP ms bs) id:=by
 unfold gD at hm;rw [hb,Bool.false_or,Bool.or_eq_true] at hm;rcases hm with hm | hm
 ·rw [Bool.and_eq_true] at hm;obtain ⟨hm,hst⟩:=hm
  have hns: ∀sh sz es,ad.at bs k≠ .sl sh sz es:=by obtain ⟨ty',cs',hv⟩:=hv hst;intro sh sz es e;rw [hv] at e;cases e
  obtain ⟨ty,cs,rfl⟩: ∃ty cs,x= .var ty cs:=by
   cases x with
   | var ty cs=>exact ⟨ty,cs,rfl⟩
   | sl sh sz es=>cases op <;> simp only [cn,Bool.false_eq_true] at hst;cases hx
   | dead=>cases hx
   | loop st=>cases hx
   | mp es clock=>cases hx
   | gone=>cases hx
   | iter o=>cases hx
  unfold isLen at hm;split at hm
  ·simp only [bJ,eU,dQ];split
   ·split
    ·exact Ep hns
    ·rfl
   ·rfl
  ·cases hm
 ·cases hl0:eM ops mj o with
  | none=>rw [hl0] at hm;cases hm
  | some q0=>
   obtain ⟨p,hl,_⟩:=j7 hl0;have hcp:=hc p hl;unfold cL at hl;split at hl
   ·cases hl;simp only [bJ,eU,ev];unfold lP;split
    ·split
     ·rename_i k' off hp;rw [hp] at hcp;have:k'≠k:=by simpa [eN,wb] using hcp
      rw [jr _ this]
     ·rename_i k' n j off hp;rw [hp] at hcp;have:k'≠k:=by simpa [eN,wb] using hcp
      rw [jr _ this]
     ·rfl
     ·rfl
    ·rfl
   ·cases hl;rename_i ty lo hi;simp only [bJ,eU]
    have hq:(∀k n,ev t (.tmp p)≠ .az k n)∧ ∀k n lo hi,ev t (.tmp p)≠ .fi k n lo hi:=by
     simp only [ev];constructor
     ·intro k n h;rw [h] at hcp;cases hcp
     ·intro k n lo hi h;rw [h] at hcp;cases hcp
    generalize ev t (.tmp p)=y at hq;split
    ·exact BT hq.1 hq.2
    ·rfl
   ·cases hl
theorem BU {op o:Op} {mj:Nat} (hm:gD ops mj op o=true) (hb:blind o=false) {t:Env} {bs:List ad} {k:Nat} (hc: ∀p,cL o=some p→eN k (t.get .any p)=true) {cf:aG} {id:Nat} {v:AV} {k':Nat} {y:ad} (h:bJ c cf o t bs id=some (v,.gL k' y)):(cn o || eG o)=false:=by
 unfold gD at hm;rw [hb,Bool.false_or,Bool.or_eq_true] at hm;rcases hm with hm | hm
 ·rw [Bool.and_eq_true] at hm;have hm:=hm.1;unfold isLen at hm;split at hm
  ·rfl
  ·cases hm
 ·cases hl0:eM ops mj o with
  | none=>rw [hl0] at hm;cases hm
  | some q0=>
   obtain ⟨p,hl,_⟩:=j7 hl0;have hcp:=hc p hl;unfold cL at hl;split at hl
   ·rfl
   ·cases hl;rename_i ty lo hi;exfalso;simp only [bJ,eU] at h
    have hq:(∀k n,ev t (.tmp p)≠ .az k n)∧ ∀k n lo hi,ev t (.tmp p)≠ .fi k n lo hi:=by
     simp only [ev];constructor
     ·intro k n h;rw [h] at hcp;cases hcp
     ·intro k n lo hi h;rw [h] at hcp;cases hcp
    generalize ev t (.tmp p)=y at hq h;split at h
    ·exact zm hq.1 hq.2 h
    ·cases h
   ·cases hl
theorem wo {op o:Op} {mj:Nat} (hm:gD ops mj op o=true) (hb:blind o=false):asks o=false∧dY o=false:=by
 unfold gD at hm;rw [hb,Bool.false_or,Bool.or_eq_true] at hm;rcases hm with hm | hm
 ·rw [Bool.and_eq_true] at hm;have hm:=hm.1;unfold isLen at hm;split at hm
  ·exact ⟨rfl,rfl⟩
  ·cases hm
 ·cases hl0:eM ops mj o with
  | none=>rw [hl0] at hm;cases hm
  | some q0=>
   obtain ⟨p,hl,_⟩:=j7 hl0;unfold cL at hl;split at hl
   ·exact ⟨rfl,rfl⟩
   ·exact ⟨rfl,rfl⟩
   ·cases hl
theorem mQ {c:ax} {o:Op} (h:dY o=false):xL c o=false:=by
 cases o with
 | call k=>
  obtain ⟨ce,as,ts⟩:=k;cases ce with
  | value f=>simp [dY] at h
  | _=>rfl
 | _=>rfl
theorem zn {c:ax} {o:Op} (h:xL c o=true):dY o=true:=by
 cases hc:dY o with
 | true=>rfl
 | false=>rw [mQ hc] at h;cases h
theorem zo {c:ax} {ops:Array Oper}: ∀(l:List Oper) (j k:Nat) (o:Oper),l[k]?=some o→alone ops (j+k)=false→bO c ops (j+k) o.op=true→pe c ops l j=true
 | [],_,k,_,h,_,_=>by simp at h
 | x::r,j,0,o,h,h2,h3=>by
  simp only [List.getElem?_cons_zero,Option.some.injEq] at h;subst h;simp only [Nat.add_zero] at h2 h3;simp [pe,h2,h3]
 | x::r,j,k+1,o,h,h2,h3=>by
  have:=zo r (j+1) k o (by simpa using h) (by rw [show j+1+k=j+(k+1) by omega];exact h2) (by rw [show j+1+k=j+(k+1) by omega];exact h3);simp [pe,this]
theorem Dn {c:ax} {ops:Array Oper} {a:Nat} {oa:Oper} (hoa:ops[a]?=some oa) (h2:alone ops a=false) (h3:bO c ops a oa.op=true):tx c ops=true:=
 zo ops.toList 0 a oa (by simpa using hoa) (by simpa using h2) (by simpa using h3)
theorem wq {ops:Array Oper}: ∀(l:List Oper) (j k:Nat) (o:Oper),l[k]?=some o→alone ops (j+k)=false→bA ops (j+k) o.op=true→lU ops l j=true
 | [],_,k,_,h,_,_=>by simp at h
 | x::r,j,0,o,h,h2,h3=>by
  simp only [List.getElem?_cons_zero,Option.some.injEq] at h;subst h;simp only [Nat.add_zero] at h2 h3;simp [lU,h2,h3]
 | x::r,j,k+1,o,h,h2,h3=>by
  have:=wq r (j+1) k o (by simpa using h) (by rw [show j+1+k=j+(k+1) by omega];exact h2) (by rw [show j+1+k=j+(k+1) by omega];exact h3);simp [lU,this]
theorem zp {ops:Array Oper} {a:Nat} {oa:Oper} (hoa:ops[a]?=some oa) (h2:alone ops a=false) (h3:bA ops a oa.op=true):mO ops=true:=
 wq ops.toList 0 a oa (by simpa using hoa) (by simpa using h2) (by simpa using h3)
theorem Gg {c:ax} {ops:Array Oper} {op:Op} {j:Nat} {t:Env} (h:tx c ops=false) (h2:mO ops=false):bX c ops j op t=true:=by
 unfold bX;split
 ·rfl
 ·split
  ·rfl
  ·rw [h,h2];rfl
theorem zq {op:Op} {p:Nat} (h:eA op=some p):fO op=some p:=by unfold fO;rw [h]
theorem Gi {op:Op} {p:Nat} (h:cL op=some p):fO op=some p:=by
 have h0:=h;unfold cL at h;split at h
 ·cases h;rfl
 ·cases h;rfl
 ·cases h
theorem wu {c:ax} {ops:Array Oper} {op:Op} {t:Env} {j p q k:Nat} (hg:mO ops=true) (h:bX c ops j op t=true) (hp:cL op=some p) (hq:fv ops j p=some q) (hc:eN k (t.get .any q)=true):eN k (t.get .any p)=true:=by unfold bX at h;rw [Gi hp] at h;simp only [hq,hg,Bool.not_true,Bool.false_or,Bool.and_eq_true,beq_iff_eq] at h;unfold eN at hc⊢;rw [h.2];exact hc
theorem zr {b:List Nat} {i p:Nat}: ∀(l:List Oper) (j k:Nat) (o:Oper),l[k]?=some o→lV ops (j+k) o.op=some p→(j+k==i || ordered b i (j+k) || ordered b (j+k) i)=false→p∈qE ops b i l j
 | [],_,k,_,h,_,_=>by simp at h
 | x::r,j,0,o,h,h2,h3=>by
  simp only [List.getElem?_cons_zero,Option.some.injEq] at h;subst h;simp only [Nat.add_zero] at h2 h3;simp only [qE,h3,h2];exact List.mem_cons_self
 | x::r,j,k+1,o,h,h2,h3=>by
  have:=zr r (j+1) k o (by simpa using h) (by rw [show j+1+k=j+(k+1) by omega];exact h2) (by rw [show j+1+k=j+(k+1) by omega];exact h3);simp only [qE];split
  ·exact List.mem_cons_of_mem _ this
  ·exact this
theorem rL {b:List Nat} {i:Nat}: ∀(l:List Oper) (j k:Nat) (o:Oper),lW ops b i l j=true→l[k]?=some o→(j+k==i || ordered b i (j+k) || ordered b (j+k) i || blind o.op || (lV ops (j+k) o.op).isSome)=true
 | [],_,k,_,_,h=>by simp at h
 | x::r,j,0,o,h,h2=>by
  simp only [List.getElem?_cons_zero,Option.some.injEq] at h2;subst h2;simp only [lW,Bool.and_eq_true] at h;exact h.1
 | x::r,j,k+1,o,h,h2=>by
  simp only [lW,Bool.and_eq_true] at h;have:=rL r (j+1) k o h.2 (by simpa using h2);rw [show j+(k+1)=j+1+k by omega];exact this
theorem j8 {i a:Nat} {op:Op} {oa:Oper} (h:bO c ops i op=true) (ha:ops[a]?=some oa) (t:Env) (v:AV) (n:Nat):((jk ops i).all fun p=>iC n ((bd t oa.dst v).get .any p))=(jk ops i).all fun p=>iC n (t.get .any p):=by
 simp only [bO,Bool.and_eq_true] at h;have h2:=h.2;rw [List.all_eq_true] at h2
 have hmem:oa∈ops.toList:=by obtain ⟨hlt,e⟩:=Array.getElem?_eq_some_iff.1 ha;rw [←e];simp
 rw [Bool.eq_iff_iff,List.all_eq_true,List.all_eq_true]
 have key: ∀p∈jk ops i,(bd t oa.dst v).get .any p=t.get .any p:=fun p hp=>by
  have h3:=h2 p hp;rw [List.all_eq_true] at h3;have h4:=h3 oa hmem;cases hd:oa.dst with
  | none=>rfl
  | some d=>rw [hd] at h4;simp only [bd];refine Tr.aW _ _ _ ?_;intro e;subst e;simp at h4
 constructor
 ·intro hh p hp;rw [←key p hp];exact hh p hp
 ·intro hh p hp;rw [key p hp];exact hh p hp
theorem BV {j p q:Nat} (h:fv ops j p=some q) {a:Nat} {oa:Oper} (hoa:ops[a]?=some oa) (hne:a≠j) (h1:ordered (fh ops) j a=false) (h2:ordered (fh ops) a j=false):oa.dst≠some q:=by
 have hmem:oa∈ops.toList:=by obtain ⟨hlt,e⟩:=Array.getElem?_eq_some_iff.1 hoa;rw [←e];simp
 unfold fv at h;split at h
 ·rename_i hf;cases h;intro hd;have:=List.filter_eq_nil_iff.1 hf oa hmem;rw [hd] at this;simp at this
 ·split at h
  ·split at h
   ·rename_i ha;cases h;exact wk ha hoa hne h1 h2
   ·cases h
  ·cases h
 ·cases h
theorem zs {a b:AV} (h:(y9 a==y9 b)=true) (n:Nat):iC n a=iC n b:=by
 rw [beq_iff_eq] at h;have key: ∀x:AV,iC n x=match y9 x with | some k=>decide (k<n) | none=>true:=fun x=>by cases x <;> rfl
 rw [key,key,h]
theorem BW {o:Oper} {p:Nat} (h:eA o.op=some p):p∈o.looksAt ops:=by
 simp only [Oper.looksAt,List.mem_append,List.mem_filterMap];refine .inl ⟨.tmp p,?_,rfl⟩;unfold eA at h;split at h
 ·rename_i ho;cases h;rw [ho];simp [Op.operands]
 ·rename_i args ts ho;split at h
  ·rename_i q hq;cases h;rw [ho];simp only [Op.operands,Call.operands];simp [hq]
  ·cases h
 ·cases h
theorem Er {o:Oper} {p:Nat} (h:fO o.op=some p):p∈o.looksAt ops:=by
 unfold fO at h;split at h
 ·rename_i q hq;cases h;exact BW hq
 ·simp only [Oper.looksAt,List.mem_append,List.mem_filterMap];refine .inl ⟨.tmp p,?_,rfl⟩;unfold cL at h;split at h
  ·rename_i ho;cases h;rw [ho];simp [Op.operands]
  ·rename_i ho;cases h;rw [ho];simp [Op.operands]
  ·cases h
theorem dR {a j:Nat} {oa o:Oper} (hoa:ops[a]?=some oa) (hne:a≠j) (ho1:ordered (fh ops) j a=false) (ho2:ordered (fh ops) a j=false) (h: ∀d,oa.dst=some d→d∉o.looksAt ops) (t:Env) (v:AV):bX c ops j o.op (bd t oa.dst v)=bX c ops j o.op t:=by
 unfold bX;split
 ·rfl
 ·rename_i p hp;split
  ·rfl
  ·rename_i q hq;cases hd:oa.dst with
   | none=>rfl
   | some d=>have h1:d≠p:=fun e=>h d hd (e▸Er hp);have h2:d≠q:=fun e=>BV hq hoa hne ho1 ho2 (by rw [hd,e]);simp only [bd];rw [Tr.aW _ _ _ h1,Tr.aW _ _ _ h2]
theorem BY {op:Op} {j:Nat} (h:blind op=true) (t:Env):bX c ops j op t=true:=by
 have:fO op=none:=by cases op <;> simp only [blind,Bool.false_eq_true] at h <;> rfl
 unfold bX;rw [this]
theorem js {ms:List Nat} {bs:List ad} {j:Nat} (x:ad) (h:j<bs.length):ad.at (aP ms (bs++ [x])) j=ad.at (aP ms bs) j:=by
 simp only [ad.at,List.getD_eq_getElem?_getD];rw [bP,bP,List.getElem?_append_left h];simp only [List.length_append,List.length_singleton];by_cases hj:j∈ms
 ·rw [if_pos ⟨hj,by omega⟩,if_pos ⟨hj,h⟩]
 ·rw [if_neg (fun e=>hj e.1),if_neg (fun e=>hj e.1)]
theorem BZ {d:TypeDesc} {x:AV} {b b':List ad} (h:elems b x=elems b' x):oc d x b=oc d x b':=by unfold oc;rw [h]
theorem wx {o:Op} {p:Nat} (hm:eA o=some p) {t:Env} {ms:List Nat} {bs:List ad} {x:ad} (hc:iC bs.length (t.get .any p)=true) (id:Nat):
  bJ c cf o t (aP ms (bs++ [x])) id=bJ c cf o t (aP ms bs) id:=by
 unfold eA at hm;split at hm
 ·cases hm;simp only [bJ,eU,ev];unfold lP;split
  ·split
   ·rename_i k' off hp;rw [hp] at hc;rw [js x (by simpa [iC] using hc)]
   ·rename_i k' n j off hp;rw [hp] at hc;rw [js x (by simpa [iC] using hc)]
   ·rfl
   ·rfl
  ·rfl
 ·rename_i args ts;split at hm
  ·rename_i q hargs;cases hm
   have he:elems (aP ms (bs++ [x])) (t.get .any p)=elems (aP ms bs) (t.get .any p):=by
    unfold elems;cases hv:t.get .any p with
    | az k' n=>rw [hv] at hc;simp only;rw [js x (by simpa [iC] using hc)]
    | fi k' n lo hi=>rw [hv] at hc;simp only;rw [js x (by simpa [iC] using hc)]
    | _=>rfl
   simp only [bJ,eU,dQ];rw [show lA t args.toList= [t.get .any p] by rw [hargs];rfl];rcases hts:ts.toList with _ | ⟨t',_ | ⟨t2,r⟩⟩
   ·rfl
   ·simp only;split
    ·exact BZ he
    ·rfl
   ·rfl
  ·cases hm
 ·cases hm
theorem wy {o:Op} {p:Nat} (hm:eA o=some p):asks o=false∧(cn o || eG o)=false∧dY o=false:=by
 unfold eA at hm;split at hm
 ·exact ⟨rfl,rfl,rfl⟩
 ·exact ⟨rfl,rfl,rfl⟩
 ·cases hm
theorem Gj {op:Op} (h:blind op=true) (t:Env) (bs:List ad) (id:Nat):bJ c cf op t bs id=bJ c cf op t [] 0:=by cases op <;> simp only [blind,Bool.false_eq_true] at h <;> rfl
theorem Es {op:Op} (h:blind op=true) {t:Env} {bs:List ad} {id:Nat} {v:AV} {e:cJ} (hd:bJ c cf op t bs id=some (v,e)):e= .none:=by
 cases op <;> simp only [blind,Bool.false_eq_true] at h <;> simp only [bJ,eU] at hd
 ·cases hd;rfl
 ·cases hd;rfl
 ·unfold tr at hd;split at hd <;> cases hd <;> rfl
 ·unfold qA at hd;split at hd
  ·split at hd
   ·split at hd
    ·rw [Option.map_eq_some_iff] at hd;obtain ⟨_,_,hd⟩:=hd;cases hd;rfl
    ·split at hd
     ·rw [Option.map_eq_some_iff] at hd;obtain ⟨_,_,hd⟩:=hd;cases hd;rfl
     ·cases hd
    ·cases hd
   ·cases hd
  ·cases hd
 ·unfold fN at hd;split at hd <;> cases hd <;> rfl
 ·rw [Option.map_eq_some_iff] at hd;obtain ⟨_,_,hd⟩:=hd;cases hd;rfl
 ·rw [Option.map_eq_some_iff] at hd;obtain ⟨_,_,hd⟩:=hd;cases hd;rfl
 ·unfold od at hd;split at hd
  ·split at hd
   ·split at hd
    ·rw [Option.map_eq_some_iff] at hd;obtain ⟨_,_,hd⟩:=hd;cases hd;rfl
    ·cases hd
   ·cases hd
  ·cases hd
 ·unfold oe at hd;split at hd
  ·split at hd
   ·split at hd
    ·split at hd
     ·cases hd;rfl
     ·cases hd
    ·cases hd
   ·split at hd
    ·split at hd
     ·rw [Option.map_eq_some_iff] at hd;obtain ⟨_,_,hd⟩:=hd;cases hd;rfl
     ·cases hd
    ·cases hd
   ·cases hd
  ·cases hd
 ·unfold iB at hd;split at hd
  ·rw [Option.map_eq_some_iff] at hd;obtain ⟨_,_,hd⟩:=hd;cases hd;rfl
  ·cases hd
theorem B1 {op:Op} (h:blind op=true) (t:Env) (bs:List ad) (id:Nat):bJ c (pd cf) op t bs id=bJ c cf op t bs id:=by cases op <;> simp only [blind,Bool.false_eq_true] at h <;> rfl
theorem zt {op:Op} (h:blind op=true) (b:Bool) (t:Env) (bs:List ad) (id:Nat):bJ c (eE cf b) op t bs id=bJ c cf op t bs id:=by
 cases b with
 | true=>rfl
 | false=>exact B1 h t bs id
theorem gp {i:Nat} {o:Oper} {s:St} (hb:blind o.op=true):aR c cf ops base i o s=match bw ops s.t o.guard with
  | some true=>(match bJ c cf o.op s.t [] 0 with
   | some (v,_)=>some {t:=bd s.t o.dst v,b:=s.b}
   | none=>none)
  | some false=>some {t:=bd s.t o.dst (.aI []),b:=s.b}
  | none=>none:=by
 unfold aR;cases hw:bw ops s.t o.guard with
 | none=>rfl
 | some x=>
  cases x with
  | false=>rfl
  | true=>
   simp only [Gj hb,zt hb];cases hd:bJ c cf o.op s.t [] 0 with
   | none=>cases alone ops i <;> rfl
   | some p=>
    obtain ⟨v,e⟩:=p;obtain rfl:=Es hb hd;cases alone ops i
    ·simp only [BY hb]
    ·rfl
theorem rM {a:Nat} {oa:Oper} {s s1:St} (h:aR c cf ops base a oa s=some s1): ∃va bs1,s1={t:=bd s.t oa.dst va,b:=bs1}∧
  ∀t':Env,bw ops t' oa.guard=bw ops s.t oa.guard→(∀(cf:aG) bs id,bJ c cf oa.op t' bs id=bJ c cf oa.op s.t bs id)→(∀k,bA ops a oa.op=true→((gn ops a).all fun p=>eN k (t'.get .any p))=((gn ops a).all fun p=>eN k (s.t.get .any p)))→(∀n,bO c ops a oa.op=true→((jk ops a).all fun p=>iC n (t'.get .any p))=((jk ops a).all fun p=>iC n (s.t.get .any p)))→(bX c ops a oa.op t'=bX c ops a oa.op s.t)→aR c cf ops base a oa {t:=t',b:=s.b}=some {t:=bd t' oa.dst va,b:=bs1}:=by
 unfold aR at h;split at h
 ·rename_i hw;cases hal:alone ops a with
  | true=>
   rw [hal] at h;simp only at h;split at h
   ·rename_i v e hd;split at h
    ·rename_i bs' he;cases h;refine ⟨v,bs',rfl,fun t' k1 k2 k3 k4 k5=> ?_⟩;unfold aR;simp only [k1,hw,hal,k2,hd,he]
    ·cases h
   ·cases h
  | false=>
   rw [hal] at h;simp only at h;split at h
   ·rename_i v hd;split at h
    ·rename_i hro;cases h;refine ⟨v,_,rfl,fun t' k1 k2 k3 k4 k5=> ?_⟩;unfold aR;simp only [k1,hw,hal,k2,hd,k5,hro]
    ·cases h
   ·rename_i v x hd;split at h
    ·rename_i ha hdead;cases h;refine ⟨v,_,rfl,fun t' k1 k2 k3 k4 k5=> ?_⟩;unfold aR;simp only [k1,hw,hal,k2,hd,ha,hdead]
    ·cases h
   ·rename_i v k x hd;split at h
    ·rename_i hcalm;cases h;refine ⟨v,_,rfl,fun t' k1 k2 k3 k4 k5=> ?_⟩
     have hs:bA ops a oa.op=true:=by rw [Bool.and_eq_true,Bool.and_eq_true,Bool.and_eq_true] at hcalm;exact hcalm.1.1.1
     unfold aR;simp only [k1,hw,hal,k2,hd,k3 k hs,k5,hcalm]
    ·cases h
   ·rename_i v x hd;split at h
    ·rename_i hcalm;cases h;refine ⟨v,_,rfl,fun t' k1 k2 k3 k4 k5=> ?_⟩;have hs:bO c ops a oa.op=true:=(Bool.and_eq_true _ _▸hcalm:_∧_).1;unfold aR;simp only [k1,hw,hal,k2,hd,k4 _ hs,hcalm]
    ·cases h
   ·cases h
 ·rename_i hw;cases h;refine ⟨.aI [],_,rfl,fun t' k1 k2 k3 k4 k5=> ?_⟩;unfold aR;simp only [k1,hw]
 ·cases h
theorem comm {a i:Nat} {oa oi:Oper} (hoa:ops[a]?=some oa) (hoi:ops[i]?=some oi) (hlt:a<i) (hap:oa.apart ops oi=true) (hai:ordered (fh ops) a i=false) (hia:ordered (fh ops) i a=false) {s s1 s2:St}
  (h1:aR c cf ops base a oa s=some s1) (h2:aR c cf ops base i oi s1=some s2): ∃s1',aR c cf ops base i oi s=some s1'∧aR c cf ops base a oa s1'=some s2:=by
 have hasz:a<ops.size:=by
  rcases Nat.lt_or_ge a ops.size with h | h
  ·exact h
  ·rw [Array.getElem?_eq_none h] at hoa;cases hoa
 have hisz:i<ops.size:=by
  rcases Nat.lt_or_ge i ops.size with h | h
  ·exact h
  ·rw [Array.getElem?_eq_none h] at hoi;cases hoi
 have hne:a≠i:=by omega
 have hne':i≠a:=by omega
 obtain ⟨q1,q2,q3⟩:=Oper.apart_spec hap;have hput:=fun (v v':AV)=>Et s.t v v' q2;have hi0:=fun v bs id=>pk (c:=c) (cf:=eE cf (bO c ops i oi.op)) (ops:=ops) (x:=oa) (y:=oi) q1 s.t v bs id;have ha0:=fun v bs id=>pk (c:=c) (cf:=eE cf (bO c ops a oa.op)) (ops:=ops) (x:=oi) (y:=oa) q3 s.t v bs id;have hi1:=fun (cf:aG) v bs id=>pk (c:=c) (cf:=cf) (ops:=ops) (x:=oa) (y:=oi) q1 s.t v bs id;have ha1:=fun (cf:aG) v bs id=>pk (c:=c) (cf:=cf) (ops:=ops) (x:=oi) (y:=oa) q3 s.t v bs id
 /- one of them looks at no box -/
 by_cases hbi:blind oi.op=true
 ·obtain ⟨va,bs1,rfl,sh⟩:=rM h1;rw [gp hbi] at h2;simp only [(hi0 va [] 0).2,(hi1 cf va [] 0).1] at h2;rw [gp hbi];split at h2
  ·rename_i hw;split at h2
   ·rename_i vi e hd;cases h2;refine ⟨{t:=bd s.t oi.dst vi,b:=s.b},rfl,?_⟩;rw [sh _ (ha0 vi [] 0).2 (fun cf bs id=>(ha1 cf vi bs id).1) (fun k hs=>gZ hs hoi hne' hai hia _ _ k) (fun n hs=>j8 hs hoi _ _ n) (dR hoi hne' hai hia q3 _ _),hput va vi]
   ·cases h2
  ·rename_i hw;cases h2;refine ⟨{t:=bd s.t oi.dst (.aI []),b:=s.b},rfl,?_⟩;rw [sh _ (ha0 (.aI []) [] 0).2 (fun cf bs id=>(ha1 cf (.aI []) bs id).1) (fun k hs=>gZ hs hoi hne' hai hia _ _ k) (fun n hs=>j8 hs hoi _ _ n) (dR hoi hne' hai hia q3 _ _),hput va (.aI [])]
  ·cases h2
 by_cases hba:blind oa.op=true
 ·rw [gp hba] at h1
  have fin: ∀va,s1={t:=bd s.t oa.dst va,b:=s.b}→(∀vi bs2,aR c cf ops base a oa {t:=bd s.t oi.dst vi,b:=bs2}=some {t:=bd (bd s.t oi.dst vi) oa.dst va,b:=bs2})→ ∃s1',aR c cf ops base i oi s=some s1'∧aR c cf ops base a oa s1'=some s2:=by intro va hs1 hgo;subst hs1;obtain ⟨vi,bs2,rfl,sh⟩:=rM h2;refine ⟨_,sh s.t (hi0 va [] 0).2.symm (fun cf bs id=>(hi1 cf va bs id).1.symm) (fun k hs=>(gZ hs hoa hne hia hai _ _ k).symm) (fun n hs=>(j8 hs hoa _ _ n).symm) (dR hoa hne hia hai q1 _ _).symm,?_⟩;rw [hgo,hput va vi]
  split at h1
  ·rename_i hw;split at h1
   ·rename_i va e hd;cases h1;refine fin va rfl fun vi bs2=> ?_;rw [gp hba];simp only [(ha0 vi [] 0).2,(ha1 cf vi [] 0).1,hw,hd]
   ·cases h1
  ·rename_i hw;cases h1;refine fin (.aI []) rfl fun vi bs2=> ?_;rw [gp hba];simp only [(ha0 vi [] 0).2,hw]
  ·cases h1
 have ala:alone ops a=false:=by
  cases hh:alone ops a with
  | false=>rfl
  | true=>have:=tI (i:=a) (j:=i) hisz (by omega) hai hia hh;simp only [mN,hoi] at this;exact absurd this hbi
 have ali:alone ops i=false:=by
  cases hh:alone ops i with
  | false=>rfl
  | true=>have:=tI (i:=i) (j:=a) hasz (by omega) hia hai hh;simp only [mN,hoa] at this;exact absurd this hba
 /- a store beside what looks on: the one's step turns box k; the other one's is the same ahead of it and behind it -/
 have mateAt: ∀{x y:Nat} {ox oy:Oper},ops[x]?=some ox→ops[y]?=some oy→y≠x→ordered (fh ops) x y=false→ordered (fh ops) y x=false→bA ops x ox.op=true→blind oy.op=false→
   gD ops y ox.op oy.op=true∧ ∀p,cL oy.op=some p→ ∃q,fv ops y p=some q∧q∈gn ops x:=by
  intro x y ox oy _ hy hne h1 h2 hs hb;have hs':=hs;simp only [bA,Bool.and_eq_true] at hs';have hm:=ow ops.toList 0 y oy hs'.1.2 (by simpa using hy);have hneb:(0+y==x)=false:=by simpa using hne
  rw [hneb,Nat.zero_add,h1,h2] at hm;have hm':gD ops y ox.op oy.op=true:=by simpa using hm
  refine ⟨hm',fun p hp=> ?_⟩;obtain ⟨hb1,hl1⟩:=tL hp;have hm2:=hm';unfold gD at hm2;rw [hb1,hl1] at hm2;simp only [Bool.false_and,Bool.or_self,Bool.false_or] at hm2;cases hr:eM ops y oy.op with
  | none=>rw [hr] at hm2;cases hm2
  | some q=>obtain ⟨p',hp',hq⟩:=j7 hr;rw [hp] at hp';cases hp';refine ⟨q,hq,zl ops.toList 0 y oy (by simpa using hy) (by rw [Nat.zero_add];exact hr) ?_⟩;rw [hneb,Nat.zero_add,h1,h2];rfl
 have storeAt: ∀{x:Nat} {ox:Oper} {t:Env} {bs:List ad} {v:AV} {k:Nat} {y:ad},rF ox.op y=true→bJ c (eE cf (bO c ops x ox.op)) ox.op t (dc ops base x bs) (b8 ops.toList x base)=some (v,.gL k y)→cn ox.op=true→ ∃ty' cs',ad.at bs k= .var ty' cs':=by
  intro x ox t bs v k y hy hd hst
  obtain ⟨ty,cs,rfl⟩: ∃ty cs,y= .var ty cs:=by
   cases y with
   | var ty cs=>exact ⟨ty,cs,rfl⟩
   | sl sh sz es=>exfalso;cases ho:ox.op <;> rw [ho] at hst hy <;> simp only [cn,Bool.false_eq_true] at hst;cases hy
   | dead=>cases hy
   | loop st=>cases hy
   | mp es clock=>cases hy
   | gone=>cases hy
   | iter o=>cases hy
  obtain ⟨ty',cs',hv⟩:=En hst hd k ty cs rfl;exact ⟨ty',cs',(dz _ bs).var hv⟩
 have hbi':blind oi.op=false:=by simpa using hbi
 have hba':blind oa.op=false:=by simpa using hba
 by_cases hSa:bw ops s.t oa.guard=some true∧ ∃v k y,bJ c (eE cf (bO c ops a oa.op)) oa.op s.t (dc ops base a s.b) (b8 ops.toList a base)=some (v,.gL k y)∧((bA ops a oa.op=true∧rF oa.op y=true)∧bX c ops a oa.op s.t=true)∧((gn ops a).all fun p=>eN k (s.t.get .any p))=true∧s1={t:=bd s.t oa.dst v,b:=s.b.set k y}
 ·obtain ⟨hwa,va,k,y,hda,⟨⟨hsa,hya⟩,hra⟩,hca,rfl⟩:=hSa;have hga:=zp hoa ala hsa;obtain ⟨hmate,hnear⟩:=mateAt hoa hoi (by omega) hai hia hsa hbi';obtain ⟨hask,hncl⟩:=wo hmate hbi';have hvar:=storeAt hya hda
  have hcp:bX c ops i oi.op s.t=true→ ∀p,cL oi.op=some p→eN k (s.t.get .any p)=true:=fun hr p hp=>by
   obtain ⟨q,hq,hqn⟩:=hnear p hp;rw [List.all_eq_true] at hca;exact wu hga hr hp hq (hca q hqn)
  have goA: ∀v,aR c cf ops base a oa {t:=bd s.t oi.dst v,b:=s.b}=some {t:=bd (bd s.t oi.dst v) oa.dst va,b:=s.b.set k y}:=fun v=>by
   unfold aR;simp only [(ha0 v [] 0).2,hwa,ala,(ha0 v _ _).1,hda,hsa,hya,dR hoi hne' hai hia q3,hra,gZ hsa hoi hne' hai hia,hca,Bool.and_self]
  rcases fQ ali h2 with ⟨hw,rfl⟩ | ⟨hw,v,⟨hd,hro,rfl⟩ | ⟨x,hk,_⟩⟩ | ⟨hw,v,k',y',hd,⟨⟨hs',_⟩,hrr⟩,_⟩ | ⟨_,_,_,_,hap',_⟩
  ·simp only [(hi0 va [] 0).2] at hw;refine ⟨{t:=bd s.t oi.dst (.aI []),b:=s.b},by unfold aR;rw [hw],?_⟩;rw [goA,hput]
  ·simp only [(hi0 va [] 0).2] at hw;simp only [(hi0 va _ _).1] at hd;unfold dc at hd;rw [dR hoa hne hia hai q1] at hro;rw [wm hmate hbi' hya hvar (hcp hro)] at hd;refine ⟨{t:=bd s.t oi.dst v,b:=s.b},by unfold aR dc;simp only [hw,ali,hd,hro],?_⟩;rw [goA,hput]
  ·rw [hask] at hk;cases hk
  ·simp only [bA,Bool.and_eq_true] at hs';simp only [(hi0 va [] 0).2] at hw;simp only [(hi0 va _ _).1] at hd;rw [dR hoa hne hia hai q1] at hrr;rw [BU hmate hbi' (hcp hrr) hd] at hs';exact absurd hs'.1.1 (by simp)
  ·simp only [bO,mQ hncl,Bool.false_and,Bool.false_eq_true] at hap'
 by_cases hSi:bw ops s1.t oi.guard=some true∧ ∃v k y,bJ c (eE cf (bO c ops i oi.op)) oi.op s1.t (dc ops base i s1.b) (b8 ops.toList i base)=some (v,.gL k y)∧((bA ops i oi.op=true∧rF oi.op y=true)∧bX c ops i oi.op s1.t=true)∧((gn ops i).all fun p=>eN k (s1.t.get .any p))=true∧s2={t:=bd s1.t oi.dst v,b:=s1.b.set k y}
 ·obtain ⟨hwi,vi,k,y,hdi,⟨⟨hsi,hyi⟩,hri⟩,hci,rfl⟩:=hSi;have hgi:=zp hoi ali hsi;obtain ⟨hmate,hnear⟩:=mateAt hoi hoa (by omega) hia hai hsi hba';obtain ⟨hask,hncl⟩:=wo hmate hba';have hvar:=storeAt hyi hdi
  have main: ∀va,s1={t:=bd s.t oa.dst va,b:=s.b}→aR c cf ops base i oi s=some {t:=bd s.t oi.dst vi,b:=s.b.set k y}:=by intro va e;subst e;simp only [(hi0 va [] 0).2] at hwi;simp only [(hi0 va _ _).1] at hdi;rw [gZ hsi hoa hne hia hai] at hci;rw [dR hoa hne hia hai q1] at hri;unfold aR;simp only [hwi,ali,hdi,hsi,hyi,hri,hci,Bool.and_self]
  rcases fQ ala h1 with ⟨hw,rfl⟩ | ⟨hw,v,⟨hd,hro,rfl⟩ | ⟨x,hk,_⟩⟩ | hh | ⟨_,_,_,_,hap',_⟩
  rotate_right
  ·simp only [bO,mQ hncl,Bool.false_and,Bool.false_eq_true] at hap'
  ·refine ⟨_,main _ rfl,?_⟩;unfold aR;simp only [(ha0 vi [] 0).2,hw];rw [hput]
  ·refine ⟨_,main _ rfl,?_⟩
   have hcp': ∀p,cL oa.op=some p→eN k (s.t.get .any p)=true:=fun p hp=>by
    obtain ⟨q,hq,hqn⟩:=hnear p hp;rw [gZ hsi hoa hne hia hai,List.all_eq_true] at hci;exact wu hgi hro hp hq (hci q hqn)
   have hd':=wm (c:=c) (cf:=eE cf (bO c ops a oa.op)) (x:=y) (ms:=cK (fh ops) a ops.toList 0 base) hmate hba' hyi hvar hcp' (b8 ops.toList a base);unfold dc at hd;rw [hd] at hd';unfold aR dc;simp only [(ha0 vi [] 0).2,hw,ala,(ha0 vi _ _).1,hd',dR hoi hne' hai hia q3,hro];rw [hput]
  ·rw [hask] at hk;cases hk
  ·exact absurd hh hSa
 /- a call's new box beside what looks on -/
 have peekAt: ∀{x y:Nat} {ox oy:Oper},ops[x]?=some ox→ops[y]?=some oy→y≠x→ordered (fh ops) x y=false→ordered (fh ops) y x=false→bO c ops x ox.op=true→blind oy.op=false→
   ∃p q,eA oy.op=some p∧fv ops y p=some q∧q∈jk ops x:=by
  intro x y ox oy _ hy hne h1 h2 hs hb;have hs':=hs;simp only [bO,Bool.and_eq_true] at hs';have hm:=rL ops.toList 0 y oy hs'.1.2 (by simpa using hy);have hneb:(0+y==x)=false:=by simpa using hne
  rw [hneb,Nat.zero_add,h1,h2,hb] at hm;simp only [Bool.or_self,Bool.false_or] at hm;obtain ⟨q,hq⟩:=Option.isSome_iff_exists.1 hm;have hq':=hq;unfold lV at hq';split at hq'
  case h_2=>cases hq'
  rename_i p hp;refine ⟨p,q,hp,hq',zr ops.toList 0 y oy (by simpa using hy) (by rw [Nat.zero_add];exact hq) ?_⟩;rw [hneb,Nat.zero_add,h1,h2];rfl
 by_cases hPa:bw ops s.t oa.guard=some true∧ ∃v x,bJ c (eE cf (bO c ops a oa.op)) oa.op s.t (dc ops base a s.b) (b8 ops.toList a base)=some (v,.app x)∧bO c ops a oa.op=true∧((jk ops a).all fun p=>iC s.b.length (s.t.get .any p))=true∧s1={t:=bd s.t oa.dst v,b:=s.b++ [x]}
 ·obtain ⟨hwa,va,x,hda,hsa,hca,rfl⟩:=hPa;obtain ⟨p,q,hp,hq,hpm⟩:=peekAt hoa hoi (by omega) hai hia hsa hbi';obtain ⟨hask,hnst,hncl⟩:=wy hp
  have hcq:iC s.b.length (s.t.get .any q)=true:=by rw [List.all_eq_true] at hca;exact hca q hpm
  have hany:=Dn hoa ala hsa
  have hcp:bX c ops i oi.op s.t=true→iC s.b.length (s.t.get .any p)=true:=fun h=>by
   unfold bX at h;rw [zq hp] at h;simp only [hq,hany,Bool.not_true,Bool.false_or,Bool.and_eq_true] at h;have h:=h.1;rw [zs h];exact hcq
  have goA: ∀v,aR c cf ops base a oa {t:=bd s.t oi.dst v,b:=s.b}=some {t:=bd (bd s.t oi.dst v) oa.dst va,b:=s.b++ [x]}:=fun v=>by
   unfold aR;rw [hsa] at hda;simp only [(ha0 v [] 0).2,hwa,ala,hsa,(ha1 (eE cf true) v _ _).1,hda,j8 hsa hoi,hca,Bool.and_self]
  rcases fQ ali h2 with ⟨hw,rfl⟩ | ⟨hw,v,⟨hd,hro,rfl⟩ | ⟨y,hk,_⟩⟩ | ⟨hw,v,k',y',hd,⟨⟨hs',_⟩,hrr⟩,_⟩ | ⟨_,_,_,_,hap',_⟩
  ·simp only [(hi0 va [] 0).2] at hw;refine ⟨{t:=bd s.t oi.dst (.aI []),b:=s.b},by unfold aR;rw [hw],?_⟩;rw [goA,hput]
  ·simp only [(hi0 va [] 0).2] at hw;simp only [(hi0 va _ _).1] at hd;unfold dc at hd;rw [dR hoa hne hia hai q1] at hro;rw [wx hp (hcp hro)] at hd;refine ⟨{t:=bd s.t oi.dst v,b:=s.b},by unfold aR dc;simp only [hw,ali,hd,hro],?_⟩;rw [goA,hput]
  ·rw [hask] at hk;cases hk
  ·simp only [bA,Bool.and_eq_true] at hs';rw [hnst] at hs';exact absurd hs'.1.1 (by simp)
  ·simp only [bO,mQ hncl,Bool.false_and,Bool.false_eq_true] at hap'
 by_cases hPi:bw ops s1.t oi.guard=some true∧ ∃v x,bJ c (eE cf (bO c ops i oi.op)) oi.op s1.t (dc ops base i s1.b) (b8 ops.toList i base)=some (v,.app x)∧bO c ops i oi.op=true∧((jk ops i).all fun p=>iC s1.b.length (s1.t.get .any p))=true∧s2={t:=bd s1.t oi.dst v,b:=s1.b++ [x]}
 ·obtain ⟨hwi,vi,x,hdi,hsi,hci,rfl⟩:=hPi;obtain ⟨p,q,hp,hq,hpm⟩:=peekAt hoi hoa (by omega) hia hai hsi hba';obtain ⟨hask,hnst,hncl⟩:=wy hp
  have main: ∀va,s1={t:=bd s.t oa.dst va,b:=s.b}→aR c cf ops base i oi s=some {t:=bd s.t oi.dst vi,b:=s.b++ [x]}∧iC s.b.length (s.t.get .any q)=true:=by
   intro va e;subst e;simp only [(hi0 va [] 0).2] at hwi;simp only [(hi0 va _ _).1] at hdi;rw [j8 hsi hoa] at hci;refine ⟨?_,?_⟩
   ·unfold aR;rw [hsi] at hdi;simp only [hwi,ali,hsi,hdi,hci,Bool.and_self]
   ·rw [List.all_eq_true] at hci;exact hci q hpm
  rcases fQ ala h1 with ⟨hw,rfl⟩ | ⟨hw,v,⟨hd,hro,rfl⟩ | ⟨y,hk,_⟩⟩ | hh | ⟨_,_,_,_,hap',_⟩
  ·refine ⟨_,(main _ rfl).1,?_⟩;unfold aR;simp only [(ha0 vi [] 0).2,hw];rw [hput]
  ·obtain ⟨m1,m2⟩:=main _ rfl;refine ⟨_,m1,?_⟩
   have m2:iC s.b.length (s.t.get .any p)=true:=by have h:=hro;unfold bX at h;rw [zq hp] at h;simp only [hq,Dn hoi ali hsi,Bool.not_true,Bool.false_or,Bool.and_eq_true] at h;have h:=h.1;rw [zs h];exact m2
   have hd':=wx (c:=c) (cf:=eE cf (bO c ops a oa.op)) (x:=x) (ms:=cK (fh ops) a ops.toList 0 base) hp m2 (b8 ops.toList a base);unfold dc at hd;rw [hd] at hd';unfold aR dc;simp only [(ha0 vi [] 0).2,hw,ala,(ha0 vi _ _).1,hd',dR hoi hne' hai hia q3,hro];rw [hput]
  ·rw [hask] at hk;cases hk
  ·exact absurd hh hSa
  ·simp only [bO,mQ hncl,Bool.false_and,Bool.false_eq_true] at hap'
 have hidn:asks oa.op=true→b8 ops.toList a base≠b8 ops.toList i base:=fun h=>Nat.ne_of_lt (Dm ops.toList a i base oa (by simpa using hoa) h hlt);have hma:asks oa.op=true→ ∀bs x,dc ops base i (bs.set (b8 ops.toList a base) x)=dc ops base i bs:=fun h bs x=>rJ (tJ ops.toList 0 base a oa (by simpa using hoa) h (by simpa using hai)) bs x;have hmi:asks oi.op=true→ ∀bs x,dc ops base a (bs.set (b8 ops.toList i base) x)=dc ops base a bs:=fun h bs x=>rJ (tJ ops.toList 0 base i oi (by simpa using hoi) h (by simpa using hia)) bs x
 /- the second operation, taken first -/
 have goI: ∀(va:AV) (bs1:List ad),s1={t:=bd s.t oa.dst va,b:=bs1}→dc ops base i bs1=dc ops base i s.b→(asks oi.op=true→bs1[b8 ops.toList i base]?=s.b[b8 ops.toList i base]?)→
   ∃(vi:AV) (f:List ad→List ad),aR c cf ops base i oi s=some {t:=bd s.t oi.dst vi,b:=f s.b}∧s2={t:=bd (bd s.t oa.dst va) oi.dst vi,b:=f bs1}∧
    (f=id∨(asks oi.op=true∧ ∃y,f=fun bs=>bs.set (b8 ops.toList i base) y)):=by
  intro va bs1 hs1 hmask hdead;subst hs1;rcases fQ ali h2 with ⟨hw,rfl⟩ | ⟨hw,v,⟨hd,hro,rfl⟩ | ⟨x,hask,hde,hd,rfl⟩⟩ | hh | hh
  case' inr.inr.inl=>exact absurd hh hSi
  case' inr.inr.inr=>exact absurd hh hPi
  ·simp only at hw;rw [(hi0 va [] 0).2] at hw;exact ⟨.aI [],id,by unfold aR;rw [hw];rfl,rfl,.inl rfl⟩
  ·simp only at hw hd;rw [(hi0 va [] 0).2] at hw;rw [(hi0 va _ _).1,hmask] at hd;have hro':bX c ops i oi.op s.t=true:=by rw [←dR hoa hne hia hai q1];exact hro
   exact ⟨v,id,by unfold aR;rw [hw,ali];simp only [hd,hro'];rfl,rfl,.inl rfl⟩
  ·simp only at hw hd hde;rw [(hi0 va [] 0).2] at hw;rw [(hi0 va _ _).1,hmask] at hd;rw [hdead hask] at hde;exact ⟨v,fun bs=>bs.set (b8 ops.toList i base) x,by unfold aR;rw [hw,ali];simp only [hd,hask,hde],rfl,.inr ⟨hask,x,rfl⟩⟩
 /- the first operation, taken second -/
 have fin: ∀(vi:AV) (f:List ad→List ad),(f=id∨(asks oi.op=true∧ ∃y,f=fun bs=>bs.set (b8 ops.toList i base) y))→ ∀(va:AV) (h:List ad→List ad),(h=id∨(asks oa.op=true∧ ∃x,h=fun bs=>bs.set (b8 ops.toList a base) x))→
   ({t:=bd (bd s.t oa.dst va) oi.dst vi,b:=f (h s.b)}:St)={t:=bd (bd s.t oi.dst vi) oa.dst va,b:=h (f s.b)}:=by
  intro vi f hf va h hh;rw [hput va vi];congr 1;rcases hf with rfl | ⟨hai',y,rfl⟩ <;> rcases hh with rfl | ⟨haa,x,rfl⟩ <;> try rfl
  simp only;exact List.set_comm _ _ (hidn haa)
 have maskF: ∀(f:List ad→List ad),(f=id∨(asks oi.op=true∧ ∃y,f=fun bs=>bs.set (b8 ops.toList i base) y))→dc ops base a (f s.b)=dc ops base a s.b:=fun f hf=>by
  rcases hf with rfl | ⟨h,y,rfl⟩
  ·rfl
  ·exact hmi h s.b y
 rcases fQ ala h1 with ⟨hw,hs1⟩ | ⟨hw,va,⟨hd,hro,hs1⟩ | ⟨x,hask,hde,hd,hs1⟩⟩ | hh | hh
 case' inr.inr.inl=>exact absurd hh hSa
 case' inr.inr.inr=>exact absurd hh hPa
 ·obtain ⟨vi,f,k1,k2,k3⟩:=goI _ _ hs1 rfl (fun _=>rfl);refine ⟨_,k1,?_⟩;unfold aR;simp only;rw [(ha0 vi [] 0).2,hw];simp only;rw [k2];exact congrArg some (fin vi f k3 (.aI []) id (.inl rfl)).symm
 ·obtain ⟨vi,f,k1,k2,k3⟩:=goI _ _ hs1 rfl (fun _=>rfl);refine ⟨_,k1,?_⟩;unfold aR;simp only;rw [(ha0 vi [] 0).2,hw,ala];simp only;rw [(ha0 vi _ _).1,maskF f k3,hd];simp only [dR hoi hne' hai hia q3,hro];rw [k2];exact congrArg some (fin vi f k3 va id (.inl rfl)).symm
 ·obtain ⟨vi,f,k1,k2,k3⟩:=goI _ _ hs1 (hma hask s.b x) (fun _=>by rw [List.getElem?_set,if_neg (hidn hask)]);refine ⟨_,k1,?_⟩;unfold aR;simp only;rw [(ha0 vi [] 0).2,hw,ala];simp only;rw [(ha0 vi _ _).1,maskF f k3,hd]
  have hde':(f s.b)[b8 ops.toList a base]?=some .dead:=by
   rcases k3 with rfl | ⟨hai',y,rfl⟩
   ·exact hde
   ·simp only;rw [List.getElem?_set,if_neg (fun e=>hidn hask e.symm)];exact hde
  simp only [hask,hde'];rw [k2];exact congrArg some (fin vi f k3 va (fun bs=>bs.set (b8 ops.toList a base) x) (.inr ⟨hask,x,rfl⟩)).symm
def steps (c:ax) (cf:aG) (ops:Array Oper) (base:Nat):List Nat→St→Option St
 | [],s=>some s
 | i::r,s=>match ops[i]? with
  | some o=>match aR c cf ops base i o s with
   | some s'=>steps c cf ops base r s'
   | none=>none
  | none=>none
theorem kR: ∀(l:List Oper) (k:Nat) (s:St),(∀j,l[j]?=ops[k+j]?)→Eh c cf ops base l k s=steps c cf ops base (List.range' k l.length) s
 | [],k,s,_=>rfl
 | o::r,k,s,h=>by
  have h0:ops[k]?=some o:=by simpa using (h 0).symm
  simp only [Eh,List.length_cons,List.range'_succ,steps,h0];cases hs:aR c cf ops base k o s with
  | none=>rfl
  | some s'=>simp only;exact kR r (k+1) s' (fun j=>by have:=h (j+1);simpa [Nat.add_assoc,Nat.add_comm 1 j] using this)
theorem tO {i:Nat} {oi:Oper} (hoi:ops[i]?=some oi): ∀(A B:List Nat) (s s':St),(∀a∈A,a<i∧ordered (fh ops) a i=false∧ordered (fh ops) i a=false∧ ∀oa,ops[a]?=some oa→oa.apart ops oi=true)→
  steps c cf ops base (A++i::B) s=some s'→ ∃s1,aR c cf ops base i oi s=some s1∧steps c cf ops base (A++B) s1=some s'
 | [],B,s,s',_,h=>by
  simp only [List.nil_append,steps,hoi] at h;split at h
  ·rename_i s1 hs1;exact ⟨s1,hs1,h⟩
  ·cases h
 | a::A,B,s,s',hA,h=>by
  simp only [List.cons_append,steps] at h;split at h
  ·rename_i oa hoa;split at h
   ·rename_i s1 hs1;obtain ⟨s2,h2,h3⟩:=tO hoi A B s1 s' (fun x hx=>hA x (List.mem_cons_of_mem _ hx)) h;obtain ⟨q1,q2,q3,q4⟩:=hA a List.mem_cons_self;obtain ⟨s1',k1,k2⟩:=comm hoa hoi q1 (q4 oa hoa) q2 q3 hs1 h2;exact ⟨s1',k1,by simp only [List.cons_append,steps,hoa,k2];exact h3⟩
   ·cases h
  ·cases h
variable {P:Program} [Kn]
theorem zu (hc:br c P) (hcf:oq P cf) (hov:zi P c) (hdr:qC ops=true) {Q:Exit→Act→World→Prop} {s':St} {g0:Gh} {w0:World} {ds:List Deferred} {ro:Option Nat}
  (hQ: ∀a' w',Dp ds g0 w0 s' a' w'→Q .normal a' w'):
  ∀(fuel:Nat) (L:List Nat) (listed:Array Bool) (s:St) (g:Gh) (w:World) (a:Act),L.length=fuel→L.Pairwise (· < ·)→listed.size=ops.size→(∀j,j∈L↔j<ops.size∧listed.getD j true=false)→
   (∀j x,j<ops.size→listed.getD j true=true→ordered (fh ops) x j=true→listed.getD x true=true)→
   steps c cf ops base L s=some s'→Mem g s.b w→eV g w s.t a→a.defers=ds→Le g0 w0 g w→Fr g0 w0 g w→wpAnyIn (FW ro) 0 P .any ops Q fuel listed a w:=by
 simp only [qC,Bool.and_eq_true] at hdr;obtain ⟨hback,hpairs⟩:=hdr;intro fuel
 induction fuel with
 | zero=>intro L listed s g w a hlen hsort hsize hmem hcl h hm ht hd hl hf;have hL:L= []:=List.eq_nil_of_length_eq_zero hlen;subst hL;cases h;refine ⟨?_,hQ a w ⟨hd,g,hm,ht,hl,hf⟩⟩;unfold Region.ready;rw [List.filter_eq_nil_iff];intro j hj hr;rw [List.mem_range] at hj;simp only [Bool.and_eq_true,Bool.not_eq_true'] at hr;exact absurd ((hmem j).2 ⟨hj,hr.1⟩) (by simp)
 | succ fuel ih=>
  intro L listed s g w a hlen hsort hsize hmem hcl h hm ht hd hl hf;refine ⟨fun hr=> ?_,fun i hi=> ?_⟩
  ·exfalso;cases L with
   | nil=>simp at hlen
   | cons i0 L=>
    obtain ⟨h1,h2⟩:=(hmem i0).1 List.mem_cons_self
    have:i0∈Region.ready .any ops listed:=by
     unfold Region.ready;rw [List.mem_filter,List.mem_range];refine ⟨h1,?_⟩;have ho:ops[i0]?=some ops[i0]:=by simp [h1]
     simp only [h2,ho,Option.map_some,Option.getD_some,Bool.not_false,Bool.true_and,Array.all_eq_true_iff_forall_mem];intro e he;cases hb:Region.binds .any e with
     | false=>rfl
     | true=>
      have hlt:=fP ops.toList 0 i0 ops[i0] hback (by simp [h1]) e he hb;simp only [Nat.zero_add] at hlt
      have hlis:listed.getD e.on true=true:=by
       cases hx:listed.getD e.on true with
       | true=>rfl
       | false=>
        have hin:=(hmem e.on).2 ⟨by omega,hx⟩;rcases List.mem_cons.1 hin with rfl | hin
        ·omega
        ·have:=List.rel_of_pairwise_cons hsort hin;omega
      have hsz:e.on<listed.size:=by omega
      simp [hsz] at hlis⊢;exact hlis
    rw [hr] at this;cases this
  ·unfold Region.ready at hi;rw [List.mem_filter,List.mem_range] at hi;obtain ⟨hisz,hi⟩:=hi;simp only [Bool.and_eq_true,Bool.not_eq_true'] at hi;obtain ⟨hun,hrd⟩:=hi;have hoi:ops[i]?=some ops[i]:=by simp [hisz]
   rw [hoi] at hrd;simp only [Option.map_some,Option.getD_some,Array.all_eq_true_iff_forall_mem] at hrd
   have hall: ∀x,ordered (fh ops) x i=true→listed.getD x true=true:=fun x hx=>by
    obtain ⟨e,he,hb,h3⟩:=kQ hback hoi hx;have h4:=hrd e he;rw [hb] at h4;have hlt:=fP ops.toList 0 i ops[i] hback (by simp [hisz]) e he hb;simp only [Nat.zero_add] at hlt;have hsz:e.on<listed.size:=by omega
    have h5:listed.getD e.on true=true:=by simp [hsz] at h4⊢;exact h4
    rcases h3 with rfl | h3
    ·exact h5
    ·exact hcl e.on x (by omega) h5 h3
   obtain ⟨A,B,rfl⟩:=List.append_of_mem ((hmem i).2 ⟨hisz,hun⟩)
   have hA: ∀x∈A,x<i∧ordered (fh ops) x i=false∧ordered (fh ops) i x=false∧ ∀ox,ops[x]?=some ox→ox.apart ops ops[i]=true:=fun x hx=>by
    have hlt:x<i:=(List.pairwise_append.1 hsort).2.2 x hx i List.mem_cons_self;obtain ⟨hxs,hxu⟩:=(hmem x).1 (List.mem_append_left _ hx)
    have h1:ordered (fh ops) x i=false:=by
     cases hh:ordered (fh ops) x i with
     | false=>rfl
     | true=>rw [hall x hh] at hxu;cases hxu
    have h2:ordered (fh ops) i x=false:=by
     cases hh:ordered (fh ops) i x with
     | false=>rfl
     | true=>have:=BR hback x i hxs hh;omega
    refine ⟨hlt,h1,h2,fun ox hox=> ?_⟩;have:=zk ops.toList 0 x i ox ops[i] hpairs (by simpa using hox) hlt (by simp [hisz]);simp only [Nat.zero_add,h1,Bool.false_eq_true,false_or] at this;exact this
   obtain ⟨s1,h1,h2⟩:=tO hoi A B s s' hA h
   have next: ∀(g':Gh) (w':World) (a':Act),Mem g' s1.b w'→eV g' w' s1.t a'→a'.defers=ds→Le g0 w0 g' w'→Fr g0 w0 g' w'→wpAnyIn (FW ro) 0 P .any ops Q fuel (listed.setIfInBounds i true) a' w':=fun g' w' a' hm' ht' hd' hl' hf'=>by
    refine ih (A++B) (listed.setIfInBounds i true) s1 g' w' a' (by simp at hlen⊢;omega) ?_ (by simp [hsize]) (fun j=> ?_) (fun j x hj hlj hx=> ?_) h2 hm' ht' hd' hl' hf'
    ·exact hsort.sublist (List.Sublist.append_left (List.sublist_cons_self i B) A)
    ·have hj:=hmem j
     have hnd:i∉A∧i∉B:=by
      obtain ⟨p1,p2,p3⟩:=List.pairwise_append.1 hsort;refine ⟨fun hx=> ?_,fun hx=> ?_⟩
      ·have:=p3 i hx i List.mem_cons_self;omega
      ·have:=List.rel_of_pairwise_cons p2 hx;omega
     by_cases e:j=i
     ·subst e;have hjs:j<listed.size:=by omega
      simp [hnd.1,hnd.2,hjs]
     ·rw [List.mem_append,List.mem_cons] at hj
      have hg:(listed.setIfInBounds i true).getD j true=listed.getD j true:=by simp [Array.getD_eq_getD_getElem?,Array.getElem?_setIfInBounds_ne (Ne.symm e)]
      rw [hg,List.mem_append,←hj];constructor
      ·rintro (hx | hx)
       ·exact .inl hx
       ·exact .inr (.inr hx)
      ·rintro (hx | rfl | hx)
       ·exact .inl hx
       ·exact absurd rfl e
       ·exact .inr hx
    ·have hset: ∀y,listed.getD y true=true→(listed.setIfInBounds i true).getD y true=true:=fun y hy=>by
      by_cases e:y=i
      ·subst e;have hys:y<listed.size:=by omega
       simp [hys]
      ·simp only [Array.getD_eq_getD_getElem?] at hy⊢;rw [Array.getElem?_setIfInBounds_ne (Ne.symm e)];exact hy
     by_cases e:j=i
     ·subst e;exact hset x (hall x hx)
     ·have hg:listed.getD j true=true:=by
       simp only [Array.getD_eq_getD_getElem?] at hlj⊢
       rwa [Array.getElem?_setIfInBounds_ne (Ne.symm e)] at hlj
      exact hset x (hcl j x hj hg hx)
   unfold wpOpIn;rw [hoi];simp only;unfold aR at h1;split at h1
   ·rename_i hw;rw [iE ht hw,if_pos rfl];split at h1
    ·split at h1
     ·rename_i v e hop;split at h1
      ·rename_i bs' he;cases h1;exact mR hc hcf hov hm ht hop he (fun v' w' g' k1 k2 k3 k4=>next g' w' _ k1 ((ht.mono k2).put _ k4) (by rw [put_defers];exact hd) (hl.trans k2) (hf.trans k3)) ro
      ·cases h1
     ·cases h1
    ·split at h1
     ·rename_i v hop;split at h1
      case h_2=>cases h1
      cases h1;have hop':=tP (dz _ s.b) (e:= .none) trivial hop;exact mR hc (pj hcf _) hov hm ht hop' rfl (fun v' w' g' k1 k2 k3 k4=>next g' w' _ k1 ((ht.mono k2).put _ k4) (by rw [put_defers];exact hd) (hl.trans k2) (hf.trans k3)) ro
     ·rename_i v x hop;split at h1
      ·rename_i hask hdead;cases h1;have hop':=tP (dz _ s.b) (e:= .new x) trivial hop;exact mR hc (pj hcf _) hov hm ht hop' (bs':=s.b.set (b8 ops.toList i base) x) (by simp only [cJ.on,hdead]) (fun v' w' g' k1 k2 k3 k4=>next g' w' _ k1 ((ht.mono k2).put _ k4) (by rw [put_defers];exact hd) (hl.trans k2) (hf.trans k3)) ro
      ·cases h1
     ·rename_i v k x hop;split at h1
      ·rename_i hcalm;cases h1;rw [Bool.and_eq_true,Bool.and_eq_true,Bool.and_eq_true] at hcalm
       have hop':bJ c (eE cf (bO c ops i ops[i].op)) ops[i].op s.t s.b (b8 ops.toList i base)=some (v,.gL k x):=by
        have hx:=hcalm.1.1.2;cases x with
        | var ty cs=>exact Eo hx (dz _ s.b) hop
        | sl sh sz es=>exact Gf hx (dz _ s.b) hop
        | dead=>cases hx
        | loop st=>cases hx
        | mp es clock=>cases hx
        | gone=>cases hx
        | iter o=>cases hx
       exact mR hc (pj hcf _) hov hm ht hop' (bs':=s.b.set k x) rfl (fun v' w' g' k1 k2 k3 k4=>next g' w' _ k1 ((ht.mono k2).put _ k4) (by rw [put_defers];exact hd) (hl.trans k2) (hf.trans k3)) ro
      ·cases h1
     ·rename_i v x hop;split at h1
      ·rename_i hcalm;cases h1;rw [Bool.and_eq_true] at hcalm
       have hcv:dY ops[i].op=true:=by have:=hcalm.1;simp only [bO,Bool.and_eq_true] at this;exact zn this.1.1
       have hop':=Ii (dz _ s.b) (lZ _ s.b) hcv hop;exact mR hc (pj hcf _) hov hm ht hop' (bs':=s.b++ [x]) rfl (fun v' w' g' k1 k2 k3 k4=>next g' w' _ k1 ((ht.mono k2).put _ k4) (by rw [put_defers];exact hd) (hl.trans k2) (hf.trans k3)) ro
      ·cases h1
     ·cases h1
   ·rename_i hw;cases h1;rw [iE ht hw,if_neg (by simp)];refine ⟨fun _ _=>trivial,?_⟩;exact next g w _ hm (ht.put _ (.aI [] #[] rfl (fun i c v h=>by simp at h))) (by rw [put_defers];exact hd) hl hf
   ·cases h1
end
end Go.Am
