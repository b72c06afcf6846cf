/- Regions that draw their order: -/
import Derived.Test.YtnlndhjfmghajaaGreatDoorAmMono
set_option linter.all false
namespace Go.Am
theorem maskOf_bit {m:List Nat} {o:Oper} {a:Nat} (h:(maskOf m o).testBit a=true): ∃e∈o.after,Region.binds .any e=true∧(a=e.on∨(m.getD e.on 0).testBit a=true):=by
 have key: ∀(l:List Edge) (s:Nat),(l.foldl (fun s e=>match Region.binds .any e with | true=>s ||| (2^e.on ||| m.getD e.on 0) | false=>s) s).testBit a=true→
   s.testBit a=true∨ ∃e∈l,Region.binds .any e=true∧(a=e.on∨(m.getD e.on 0).testBit a=true):=by
  intro l
  induction l with
  | nil=>intro s h;exact .inl h
  | cons e l ih=>
   intro s h
   rw [List.foldl_cons] at h
   rcases ih _ h with h1 | ⟨e',he',h2⟩
   ·split at h1
    ·rename_i hb
     simp only [Nat.testBit_or,Bool.or_eq_true] at h1
     rcases h1 with h1 | h1 | h1
     ·exact .inl h1
     ·refine .inr ⟨e,List.mem_cons_self,hb,.inl ?_⟩
      rw [Nat.testBit_two_pow] at h1
      exact (by simpa using h1:e.on=a).symm
     ·exact .inr ⟨e,List.mem_cons_self,hb,.inr h1⟩
    ·exact .inl h1
   ·exact .inr ⟨e',List.mem_cons_of_mem _ he',h2⟩
 rcases key o.after.toList 0 h with h1 | ⟨e,he,h2⟩
 ·simp at h1
 ·exact ⟨e,by simpa using he,h2⟩
theorem befs_old: ∀(l:List Oper) (m:List Nat) (j:Nat),j<m.length→(befs l m).getD j 0=m.getD j 0
 | [],m,j,_=>rfl
 | o::r,m,j,h=>by
  simp only [befs]
  rw [befs_old r _ j (by simp;omega)]
  simp only [List.getD_eq_getElem?_getD,List.getElem?_append_left h]
theorem befs_at: ∀(l:List Oper) (m:List Nat) (k:Nat) (o:Oper),l[k]?=some o→ ∃m',(befs l m).getD (m.length+k) 0=maskOf m' o∧ ∀j,j<m.length+k→(befs l m).getD j 0=m'.getD j 0
 | [],m,k,o,h=>by simp at h
 | p::r,m,0,o,h=>by
  simp at h;subst h
  refine ⟨m,?_,fun j hj=>befs_old (p::r) m j hj⟩
  simp only [befs,Nat.add_zero]
  rw [befs_old r _ m.length (by simp)]
  simp [List.getD_eq_getElem?_getD]
 | p::r,m,k+1,o,h=>by
  simp at h
  obtain ⟨m',h1,h2⟩:=befs_at r (m++ [maskOf m p]) k o h
  simp only [befs]
  simp only [List.length_append,List.length_cons,List.length_nil] at h1 h2
  exact ⟨m',by rw [←h1];congr 1;omega,fun j hj=>h2 j (by omega)⟩
theorem edges_back: ∀(l:List Oper) (k i:Nat) (o:Oper),edgesBack l k=true→l[i]?=some o→ ∀e∈o.after,Region.binds .any e=true→e.on<k+i
 | [],k,i,o,_,h=>by simp at h
 | p::r,k,0,o,hb,h=>by
  simp at h;subst h
  simp only [edgesBack,Bool.and_eq_true,List.all_eq_true] at hb
  intro e he hbe
  have:=hb.1 e (by simpa using he)
  simpa [hbe] using this
 | p::r,k,i+1,o,hb,h=>by
  simp at h
  simp only [edgesBack,Bool.and_eq_true] at hb
  intro e he hbe
  have:=edges_back r (k+1) i o hb.2 h e he hbe
  omega
theorem ordered_edge {ops:Array Oper} (hb:edgesBack ops.toList 0=true) {a i:Nat} {o:Oper} (ho:ops[i]?=some o) (h:ordered (bef ops) a i=true): ∃e∈o.after,Region.binds .any e=true∧(a=e.on∨ordered (bef ops) a e.on=true):=by
 have ho':ops.toList[i]?=some o:=by simpa using ho
 obtain ⟨m',h1,h2⟩:=befs_at ops.toList [] i o ho'
 simp only [List.length_nil,Nat.zero_add] at h1 h2
 unfold ordered bef at h
 rw [h1] at h
 obtain ⟨e,he,hbe,h3⟩:=maskOf_bit h
 refine ⟨e,he,hbe,h3.imp id (fun h3=> ?_)⟩
 have hlt:=edges_back ops.toList 0 i o hb ho' e he hbe
 unfold ordered bef
 rw [h2 e.on (by omega)]
 exact h3
theorem ordered_lt {ops:Array Oper} (hb:edgesBack ops.toList 0=true): ∀(i a:Nat),i<ops.size→ordered (bef ops) a i=true→a<i:=by
 intro i
 induction i using Nat.strongRecOn with
 | _ i ih=>
  intro a hi h
  have ho:ops[i]?=some ops[i]:=by simp [hi]
  obtain ⟨e,he,hbe,h3⟩:=ordered_edge hb ho h
  have hlt:=edges_back ops.toList 0 i ops[i] hb (by simp) e he hbe
  rcases h3 with h3 | h3
  ·omega
  ·have:=ih e.on (by omega) a (by omega) h3
   omega
theorem pairs_spec {ops:Array Oper} {b:List Nat} {o:Oper} {i:Nat}: ∀(l:List Oper) (j k:Nat) (p:Oper),pairsOk ops b o i l j=true→l[k]?=some p→ordered b i (j+k)=true∨o.apart ops p=true
 | [],j,k,p,_,h=>by simp at h
 | q::r,j,0,p,hb,h=>by
  simp at h;subst h
  simp only [pairsOk,Bool.and_eq_true,Bool.or_eq_true] at hb
  exact hb.1
 | q::r,j,k+1,p,hb,h=>by
  simp at h
  simp only [pairsOk,Bool.and_eq_true] at hb
  have:=pairs_spec r (j+1) k p hb.2 h
  rwa [show j+1+k=j+(k+1) by omega] at this
theorem all_spec {ops:Array Oper} {b:List Nat}: ∀(l:List Oper) (i k m:Nat) (o p:Oper),allPairs ops b l i=true→l[k]?=some o→k<m→l[m]?=some p→ordered b (i+k) (i+m)=true∨o.apart ops p=true
 | [],i,k,m,o,p,_,h,_,_=>by simp at h
 | q::r,i,0,m,o,p,hb,h,hlt,hp=>by
  simp at h;subst h
  simp only [allPairs,Bool.and_eq_true] at hb
  cases m with
  | zero=>omega
  | succ m=>
   simp at hp
   have:=pairs_spec r (i+1) m p hb.1.2 hp
   rwa [show i+1+m=i+(m+1) by omega] at this
 | q::r,i,k+1,m,o,p,hb,h,hlt,hp=>by
  simp at h
  simp only [allPairs,Bool.and_eq_true] at hb
  cases m with
  | zero=>omega
  | succ m=>
   simp at hp
   have:=all_spec r (i+1) k m o p hb.2 h (by omega) hp
   rwa [show i+1+k=i+(k+1) by omega,show i+1+m=i+(m+1) by omega] at this
theorem alone_spec {ops:Array Oper} {i j:Nat} (hj:j<ops.size) (hne:j≠i) (h1:ordered (bef ops) i j=false) (h2:ordered (bef ops) j i=false) (ha:alone ops i=true):blindAt ops j=true:=by
 have key: ∀n,j<n→aloneB ops (bef ops) i n=true→blindAt ops j=true:=by
  intro n
  induction n with
  | zero=>intro h;omega
  | succ n ih=>
   intro h hh
   simp only [aloneB,Bool.and_eq_true] at hh
   by_cases e:j=n
   ·subst e
    have:(j==i)=false:=by simpa using hne
    simpa [this,h1,h2] using hh.1
   ·exact ih (by omega) hh.2
 exact key _ hj ha
theorem next_le (id:Nat) (op:Op):id≤next id op:=by unfold next;split <;> omega
theorem next_asks {id:Nat} {op:Op} (h:asks op=true):next id op=id+1:=by unfold next;rw [h]
theorem idOf_ge: ∀(l:List Oper) (i base:Nat),base≤idOf l i base
 | _,0,base=>by cases ‹List Oper› <;> exact Nat.le_refl _
 | [],i+1,base=>Nat.le_refl _
 | o::r,i+1,base=>Nat.le_trans (next_le base o.op) (idOf_ge r i _)
theorem idOf_lt: ∀(l:List Oper) (a i base:Nat) (o:Oper),l[a]?=some o→asks o.op=true→a<i→idOf l a base<idOf l i base
 | [],a,i,base,o,h,_,_=>by simp at h
 | p::r,0,i,base,o,h,ha,hlt=>by
  simp at h;subst h
  cases i with
  | zero=>omega
  | succ i=>
   simp only [idOf]
   have:=idOf_ge r i (next base p.op)
   rw [next_asks ha] at this⊢
   omega
 | p::r,a+1,i,base,o,h,ha,hlt=>by
  simp at h
  cases i with
  | zero=>omega
  | succ i=>exact idOf_lt r a i _ o h ha (by omega)
theorem mask_mem {b:List Nat} {i:Nat}: ∀(l:List Oper) (j id a:Nat) (o:Oper),l[a]?=some o→asks o.op=true→ordered b (j+a) i=false→idOf l a id∈maskIds b i l j id
 | [],j,id,a,o,h,_,_=>by simp at h
 | p::r,j,id,0,o,h,ha,ho=>by
  simp at h;subst h
  simp only [Nat.add_zero] at ho
  simp [maskIds,ha,ho,idOf]
 | p::r,j,id,a+1,o,h,ha,ho=>by
  simp at h
  have ih:=mask_mem r (j+1) (next id p.op) a o h ha (by rwa [show j+1+a=j+(a+1) by omega])
  simp only [maskIds,idOf]
  split
  ·exact List.mem_cons_of_mem _ ih
  ·exact ih
theorem killAll_length: ∀(l:List Nat) (bs:List Box),(killAll l bs).length=bs.length
 | [],bs=>rfl
 | k::r,bs=>by simp only [killAll];rw [killAll_length r];simp
theorem killAll_get: ∀(l:List Nat) (bs:List Box) (j:Nat),(killAll l bs)[j]?=if j∈l∧j<bs.length then some .dead else bs[j]?
 | [],bs,j=>by simp [killAll]
 | k::r,bs,j=>by
  simp only [killAll]
  rw [killAll_get r]
  simp only [List.length_set,List.mem_cons,List.getElem?_set]
  by_cases h1:j∈r
  ·simp [h1]
   split <;> simp_all
  ·by_cases h2:k=j
   ·subst h2
    by_cases h3:k<bs.length <;> simp [h1,h3]
   ·have: ¬ j=k:=fun e=>h2 e.symm
    simp [h1,h2,this]
theorem killAll_set {l:List Nat} {k:Nat} (h:k∈l) (bs:List Box) (x:Box):killAll l (bs.set k x)=killAll l bs:=by
 apply List.ext_getElem?
 intro j
 rw [killAll_get,killAll_get,List.length_set,List.getElem?_set]
 by_cases e:k=j
 ·subst e
  by_cases h3:k<bs.length <;> simp [h,h3]
 ·simp [e]
theorem killAll_sub (l:List Nat) (bs:List Box):Sub (killAll l bs) bs:=fun k hk=>by
 simp only [Box.at,List.getD_eq_getElem?_getD] at hk⊢
 rw [killAll_get] at hk⊢
 by_cases h:k∈l∧k<bs.length
 ·rw [if_pos h] at hk;simp at hk
 ·rw [if_neg h]
theorem softC_ok [Kn] {P:Program} {cf:CallF} (h:CfOk P cf):CfOk P (softC cf) where
 fn:=fun f xs bs r bs' hr=>by
  unfold softC at hr
  split at hr
  ·rename_i f' heq
   cases heq
   split at hr
   ·rename_i v hf
    cases hr
    exact h.fn _ _ _ _ _ hf
   ·rename_i v x l hf
    obtain ⟨h1,h2⟩:=h.fn _ _ _ _ _ hf
    refine ⟨h1,fun g w vs hm hx=>(h2 g w vs hm hx).mono fun e w' ⟨u,g',he,hm',hl,hfr,hr'⟩=> ?_⟩
    have hho:handOver ([]:List Box).length ⟨start 0 [],x::l⟩ v=some (r,bs'):=by
     unfold handOver
     exact hr
    obtain ⟨g'',k1,k2,k3,k4⟩:=handOver_run hm (s:=⟨start 0 [],x::l⟩) hm' hl hfr hr' hho
    exact ⟨u,g'',he,k1,k2,k3,k4⟩
   ·cases hr
  ·exact h.fn _ _ _ _ _ hr
 yld:=fun k s env xs bs r bs' hr=>by
  unfold softC at hr
  exact h.yld _ _ _ _ _ _ _ hr
theorem softF_ok [Kn] {P:Program} {cf:CallF} (h:CfOk P cf): ∀b,CfOk P (softF cf b)
 | true=>h
 | false=>softC_ok h
theorem app_sub {c:Cfg} {cf:CallF} {op:Op} {t:Env} {bs bs':List Box} (hs:Sub bs bs') (hl:bs.length=bs'.length) (hv:isCallV op=true) {id:Nat} {v:AV} {x:Box} (h:doOp c cf op t bs id=some (v,.app x)):doOp c cf op t bs' id=some (v,.app x):=by
 unfold doOp at h⊢
 split at h
 ·split at h
  ·split at h
   ·split at h
    ·split at h <;> cases h
    ·unfold callA at h⊢
     split at h
     ·split at h <;> cases h
     ·unfold callP at h⊢
      split at h
      ·split at h
       ·split at h <;> cases h
       ·split at h <;> cases h
      unfold callL at h⊢
      split at h
      ·rename_i l hl2
       rw [lendAll_sub hs hl2]
       simp only
       split at h
       ·split at h
        ·split at h
         ·split at h
          ·unfold lentBack at h;split at h <;> cases h
          ·cases h
         ·cases h
        ·split at h
         ·split at h
          ·unfold lentBack at h;split at h <;> cases h
          ·cases h
         ·rename_i hcf
          split at h
          ·rename_i hfr
           split at h
           ·cases h
           ·rename_i hno
            rw [←hl]
            exact h
          ·split at h <;> cases h
         ·cases h
       ·split at h <;> cases h
      ·cases h
   ·split at h <;> cases h
   ·cases h
  ·rename_i k hk
   exfalso
   unfold isCallV at hv
   simp only at hv
   first
   | (cases hv;done)
   | (split at hv
      ·rename_i f hf
       exact hk f hf
      ·cases hv)
 ·rename_i hk
  exfalso
  unfold isCallV at hv
  split at hv
  ·rename_i k
   exact hk k rfl
  ·cases hv
section
variable {c:Cfg} {cf:CallF} {ops:Array Oper} {base:Nat}
theorem stepO_soft {i:Nat} {o:Oper} {s s':St} (hal:alone ops i=false) (h:stepO c cf ops base i o s=some s'):
  (wantedA ops s.t o.guard=some false∧s'={t:=putA s.t o.dst (.tup []),b:=s.b})∨
  (wantedA ops s.t o.guard=some true∧ ∃v,(doOp c (softF cf (appOk c ops i o.op)) o.op s.t (maskB ops base i s.b) (idOf ops.toList i base)=some (v,.none)∧rootOk c ops i o.op s.t=true∧s'={t:=putA s.t o.dst v,b:=s.b})∨
   ∃x,asks o.op=true∧s.b[idOf ops.toList i base]?=some .dead∧doOp c (softF cf (appOk c ops i o.op)) o.op s.t (maskB ops base i s.b) (idOf ops.toList i base)=some (v,.new x)∧s'={t:=putA s.t o.dst v,b:=s.b.set (idOf ops.toList i base) x})∨
  (wantedA ops s.t o.guard=some true∧ ∃v k x,doOp c (softF cf (appOk c ops i o.op)) o.op s.t (maskB ops base i s.b) (idOf ops.toList i base)=some (v,.upd k x)∧((storeOk ops i o.op=true∧okBox o.op x=true)∧rootOk c ops i o.op s.t=true)∧((nears ops i).all fun p=>calmV k (s.t.get .any p))=true∧s'={t:=putA s.t o.dst v,b:=s.b.set k x})∨
  (wantedA ops s.t o.guard=some true∧ ∃v x,doOp c (softF cf (appOk c ops i o.op)) o.op s.t (maskB ops base i s.b) (idOf ops.toList i base)=some (v,.app x)∧appOk c ops i o.op=true∧((peeks ops i).all fun p=>lowV s.b.length (s.t.get .any p))=true∧s'={t:=putA s.t o.dst v,b:=s.b++ [x]})∨
  (wantedA ops s.t o.guard=some true∧ ∃v k,doOp c (softF cf (appOk c ops i o.op)) o.op s.t (maskB ops base i s.b) (idOf ops.toList i base)=some (v,.eat k)∧eatOk c ops i o.op=true∧((peeks ops i).all fun p=>offV k (s.t.get .any p))=true∧s'={t:=putA s.t o.dst v,b:=s.b.set k .gone}):=by
 unfold stepO at h
 split at h
 ·rename_i hw
  rw [hal] at h
  simp only at h
  split at h
  ·rename_i v hd
   split at h
   ·rename_i hro
    cases h
    exact .inr (.inl ⟨hw,v,.inl ⟨hd,hro,rfl⟩⟩)
   ·cases h
  ·rename_i v x hd
   split at h
   ·rename_i ha hdead
    cases h
    exact .inr (.inl ⟨hw,v,.inr ⟨x,ha,hdead,hd,rfl⟩⟩)
   ·cases h
  ·rename_i v k x hd
   split at h
   ·rename_i hcalm
    cases h
    rw [Bool.and_eq_true,Bool.and_eq_true,Bool.and_eq_true] at hcalm
    exact .inr (.inr (.inl ⟨hw,v,k,x,hd,hcalm.1,hcalm.2,rfl⟩))
   ·cases h
  ·rename_i v x hd
   split at h
   ·rename_i hcalm
    cases h
    rw [Bool.and_eq_true] at hcalm
    exact .inr (.inr (.inr (.inl ⟨hw,v,x,hd,hcalm.1,hcalm.2,rfl⟩)))
   ·cases h
  ·rename_i v k hd
   split at h
   ·rename_i hcalm
    cases h
    rw [Bool.and_eq_true] at hcalm
    exact .inr (.inr (.inr (.inr ⟨hw,v,k,hd,hcalm.1,hcalm.2,rfl⟩)))
   ·cases h
  ·cases h
 ·rename_i hw
  cases h
  exact .inl ⟨hw,rfl⟩
 ·cases h
theorem stepO_soft4 {i:Nat} {o:Oper} {s s':St} (hal:alone ops i=false) (h:stepO c cf ops base i o s=some s') (hn: ¬ (wantedA ops s.t o.guard=some true∧ ∃v k,doOp c (softF cf (appOk c ops i o.op)) o.op s.t (maskB ops base i s.b) (idOf ops.toList i base)=some (v,.eat k)∧eatOk c ops i o.op=true∧((peeks ops i).all fun p=>offV k (s.t.get .any p))=true∧s'={t:=putA s.t o.dst v,b:=s.b.set k .gone})):
  (wantedA ops s.t o.guard=some false∧s'={t:=putA s.t o.dst (.tup []),b:=s.b})∨
  (wantedA ops s.t o.guard=some true∧ ∃v,(doOp c (softF cf (appOk c ops i o.op)) o.op s.t (maskB ops base i s.b) (idOf ops.toList i base)=some (v,.none)∧rootOk c ops i o.op s.t=true∧s'={t:=putA s.t o.dst v,b:=s.b})∨
   ∃x,asks o.op=true∧s.b[idOf ops.toList i base]?=some .dead∧doOp c (softF cf (appOk c ops i o.op)) o.op s.t (maskB ops base i s.b) (idOf ops.toList i base)=some (v,.new x)∧s'={t:=putA s.t o.dst v,b:=s.b.set (idOf ops.toList i base) x})∨
  (wantedA ops s.t o.guard=some true∧ ∃v k x,doOp c (softF cf (appOk c ops i o.op)) o.op s.t (maskB ops base i s.b) (idOf ops.toList i base)=some (v,.upd k x)∧((storeOk ops i o.op=true∧okBox o.op x=true)∧rootOk c ops i o.op s.t=true)∧((nears ops i).all fun p=>calmV k (s.t.get .any p))=true∧s'={t:=putA s.t o.dst v,b:=s.b.set k x})∨
  (wantedA ops s.t o.guard=some true∧ ∃v x,doOp c (softF cf (appOk c ops i o.op)) o.op s.t (maskB ops base i s.b) (idOf ops.toList i base)=some (v,.app x)∧appOk c ops i o.op=true∧((peeks ops i).all fun p=>lowV s.b.length (s.t.get .any p))=true∧s'={t:=putA s.t o.dst v,b:=s.b++ [x]}):=by
 rcases stepO_soft hal h with h | h | h | h | h
 ·exact .inl h
 ·exact .inr (.inl h)
 ·exact .inr (.inr (.inl h))
 ·exact .inr (.inr (.inr h))
 ·exact absurd h hn
theorem near_mem {b:List Nat} {i p:Nat}: ∀(l:List Oper) (j:Nat),p∈nearOf ops b i l j→ ∃k o,l[k]?=some o∧loadRoot ops (j+k) o.op=some p∧(j+k==i || ordered b i (j+k) || ordered b (j+k) i)=false
 | [],_,h=>by cases h
 | o::r,j,h=>by
  simp only [nearOf] at h
  split at h
  ·rename_i q h1 h2
   rcases List.mem_cons.1 h with rfl | h
   ·exact ⟨0,o,rfl,h2,h1⟩
   ·obtain ⟨k,o',k1,k2,k3⟩:=near_mem r (j+1) h
    exact ⟨k+1,o',k1,by rw [show j+(k+1)=j+1+k by omega];exact k2,by rw [show j+(k+1)=j+1+k by omega];exact k3⟩
  ·obtain ⟨k,o',k1,k2,k3⟩:=near_mem r (j+1) h
   exact ⟨k+1,o',k1,by rw [show j+(k+1)=j+1+k by omega];exact k2,by rw [show j+(k+1)=j+1+k by omega];exact k3⟩
theorem mem_near {b:List Nat} {i p:Nat}: ∀(l:List Oper) (j k:Nat) (o:Oper),l[k]?=some o→loadRoot ops (j+k) o.op=some p→(j+k==i || ordered b i (j+k) || ordered b (j+k) i)=false→p∈nearOf ops b i l j
 | [],_,k,_,h,_,_=>by simp at h
 | x::r,j,0,o,h,h2,h3=>by
  simp only [List.getElem?_cons_zero,Option.some.injEq] at h
  subst h
  simp only [Nat.add_zero] at h2 h3
  simp only [nearOf,h3,h2]
  exact List.mem_cons_self
 | x::r,j,k+1,o,h,h2,h3=>by
  have:=mem_near r (j+1) k o (by simpa using h) (by rw [show j+1+k=j+(k+1) by omega];exact h2) (by rw [show j+1+k=j+(k+1) by omega];exact h3)
  simp only [nearOf]
  split
  ·exact List.mem_cons_of_mem _ this
  ·exact this
theorem mates_spec {b:List Nat} {i:Nat} {op:Op}: ∀(l:List Oper) (j k:Nat) (o:Oper),matesOk ops b i op l j=true→l[k]?=some o→(j+k==i || ordered b i (j+k) || ordered b (j+k) i || mateOk ops (j+k) op o.op)=true
 | [],_,k,_,_,h=>by simp at h
 | x::r,j,0,o,h,h2=>by
  simp only [List.getElem?_cons_zero,Option.some.injEq] at h2
  subst h2
  simp only [matesOk,Bool.and_eq_true] at h
  exact h.1
 | x::r,j,k+1,o,h,h2=>by
  simp only [matesOk,Bool.and_eq_true] at h
  have:=mates_spec r (j+1) k o h.2 (by simpa using h2)
  rw [show j+(k+1)=j+1+k by omega]
  exact this
theorem load_root {op:Op} {j q:Nat} (h:loadRoot ops j op=some q): ∃p,loadTmp op=some p∧rootTmp ops j p=some q:=by
 unfold loadRoot at h
 split at h
 ·rename_i p hp;exact ⟨p,hp,h⟩
 ·cases h
theorem load_blind {op:Op} {p:Nat} (k2:loadTmp op=some p):blind op=false∧isLen op=false∧isIdx op=false:=by
 unfold loadTmp at k2
 split at k2
 ·exact ⟨rfl,rfl,rfl⟩
 ·exact ⟨rfl,rfl,rfl⟩
 ·cases k2
theorem nears_out {i:Nat} {op:Op} (h:storeOk ops i op=true) {p:Nat} (hp:p∈nears ops i):(opTmps op).contains p=false:=by
 simp only [storeOk,Bool.and_eq_true] at h
 obtain ⟨k,o,k1,k2,k3⟩:=near_mem ops.toList 0 hp
 have h1:=mates_spec ops.toList 0 k o h.1.2 k1
 rw [k3,Bool.false_or] at h1
 obtain ⟨p0,hp0,_⟩:=load_root k2
 obtain ⟨hb,hl,hx⟩:=load_blind hp0
 unfold mateOk at h1
 rw [hb,hl,hx,k2] at h1
 simpa using h1
theorem unset_spec {j q:Nat}: ∀(l:List Oper) (n k:Nat) (o:Oper),unsetAt ops j q l n=true→l[k]?=some o→(o.dst !=some q || n+k==j || ordered (bef ops) j (n+k) || ordered (bef ops) (n+k) j)=true
 | [],_,k,_,_,h=>by simp at h
 | x::r,n,0,o,h,h2=>by
  simp only [List.getElem?_cons_zero,Option.some.injEq] at h2
  subst h2
  simp only [unsetAt,Bool.and_eq_true] at h
  exact h.1
 | x::r,n,k+1,o,h,h2=>by
  simp only [unsetAt,Bool.and_eq_true] at h
  have:=unset_spec r (n+1) k o h.2 (by simpa using h2)
  rw [show n+(k+1)=n+1+k by omega]
  exact this
theorem unset_dst {j q:Nat} (h:unsetAt ops j q ops.toList 0=true) {a:Nat} {oa:Oper} (hoa:ops[a]?=some oa) (hne:a≠j) (h1:ordered (bef ops) j a=false) (h2:ordered (bef ops) a j=false):oa.dst≠some q:=by
 intro hd
 have:=unset_spec ops.toList 0 a oa h (by simpa using hoa)
 rw [Nat.zero_add,h1,h2,hd] at this
 have hb:(a==j)=false:=by simpa using hne
 rw [hb] at this
 simp at this
theorem nears_put {i a:Nat} {op:Op} {oa:Oper} (h:storeOk ops i op=true) (ha:ops[a]?=some oa) (hne:a≠i) (ho1:ordered (bef ops) i a=false) (ho2:ordered (bef ops) a i=false) (t:Env) (v:AV) (k:Nat):((nears ops i).all fun p=>calmV k ((putA t oa.dst v).get .any p))=(nears ops i).all fun p=>calmV k (t.get .any p):=by
 simp only [storeOk,Bool.and_eq_true] at h
 have h2:=h.2
 rw [List.all_eq_true] at h2
 rw [Bool.eq_iff_iff,List.all_eq_true,List.all_eq_true]
 have key: ∀p∈nears ops i,(putA t oa.dst v).get .any p=t.get .any p:=fun p hp=>by
  have h3:=h2 p hp
  have h4:=unset_dst h3 ha hne ho1 ho2
  cases hd:oa.dst with
  | none=>rfl
  | some d=>
   have hne:d≠p:=fun e=>h4 (by rw [hd,e])
   simp only [putA]
   exact Tr.get_set_ne _ _ _ hne
 exact ⟨fun hh p hp=>by rw [←key p hp];exact hh p hp,fun hh p hp=>by rw [key p hp];exact hh p hp⟩
theorem at_kill_set {ms:List Nat} {bs:List Box} {k j:Nat} (x:Box) (h:j≠k):Box.at (killAll ms (bs.set k x)) j=Box.at (killAll ms bs) j:=by
 simp only [Box.at,List.getD_eq_getElem?_getD]
 rw [killAll_get,killAll_get,List.length_set,List.getElem?_set_ne (Ne.symm h)]
theorem at_kill_var {ms:List Nat} {bs:List Box} {k:Nat} {ty:TypeId} {cs:List AV} (h: ∀sh sz es,Box.at bs k≠ .sl sh sz es) (sh:Hd) (sz:Nat) (es:List AV):Box.at (killAll ms (bs.set k (.var ty cs))) k≠ .sl sh sz es∧Box.at (killAll ms bs) k≠ .sl sh sz es:=by
 have h':=h sh sz es
 simp only [Box.at,List.getD_eq_getElem?_getD] at h'⊢
 rw [killAll_get,killAll_get,List.length_set]
 constructor
 ·split
  ·simp
  ·by_cases hk:k<bs.length
   ·simp [hk]
   ·simp [hk]
 ·split
  ·simp
  ·exact h'
theorem store_upd {op:Op} (h:isStore op=true) {t:Env} {bs:List Box} {id:Nat} {v:AV} {e:Eff} (hd:doOp c cf op t bs id=some (v,e)): ∀k ty cs,e= .upd k (.var ty cs)→ ∃ty' cs',Box.at bs k= .var ty' cs':=by
 cases op <;> simp only [isStore,Bool.false_eq_true] at h
 intro k ty cs he
 subst he
 simp only [doOp,aop] at hd
 unfold storeA at hd
 split at hd
 ·split at hd
  ·split at hd
   ·split at hd
    ·rename_i ty' cs' hb
     split at hd
     ·cases hd;exact ⟨_,_,hb⟩
     ·cases hd
    ·cases hd
   ·split at hd
    ·split at hd
     ·split at hd
      ·split at hd
       ·obtain ⟨_,hd⟩:=storeLink_all hd;cases hd
       rw [Option.map_eq_some_iff] at hd
       obtain ⟨_,_,hd⟩:=hd
       cases hd
      ·cases hd
     ·cases hd
    ·cases hd
   ·cases hd
  ·cases hd
 ·cases hd
theorem store_sub {op:Op} (h:isStore op=true) {t:Env} {bs bs':List Box} (hs:Sub bs bs') {id:Nat} {v:AV} {k:Nat} {ty:TypeId} {cs:List AV} (hd:doOp c cf op t bs id=some (v,.upd k (.var ty cs))):doOp c cf op t bs' id=some (v,.upd k (.var ty cs)):=by
 cases op <;> simp only [isStore,Bool.false_eq_true] at h
 simp only [doOp,aop] at hd⊢
 unfold storeA at hd⊢
 split at hd
 ·split at hd
  ·rename_i hcond
   rw [if_pos hcond]
   split at hd
   ·rename_i k' off
    split at hd
    ·rename_i ty' cs' hb
     rw [hs.var hb]
     exact hd
    ·cases hd
   ·split at hd
    ·split at hd
     ·split at hd
      ·split at hd
       ·obtain ⟨_,hd⟩:=storeLink_all hd;cases hd
       rw [Option.map_eq_some_iff] at hd
       obtain ⟨_,_,hd⟩:=hd
       cases hd
      ·cases hd
     ·cases hd
    ·cases hd
   ·cases hd
  ·cases hd
 ·cases hd
theorem grow_sub {op:Op} (h:isGrow op=true) {t:Env} {bs bs':List Box} (hs:Sub bs bs') {id:Nat} {r:AV×Eff} (hd:doOp c cf op t bs id=some r):doOp c cf op t bs' id=some r:=by
 obtain ⟨v,e⟩:=r
 unfold isGrow at h
 split at h
 ·simp only [doOp,aop,builtinA] at hd⊢
  split at hd
  ·exact append_any hs hd
  ·cases hd
 ·simp only [doOp,aop] at hd⊢
  split at hd
  ·exact slice2_any hs hd
  ·cases hd
 ·cases h
theorem at_kill_mp {ms:List Nat} {bs:List Box} {k:Nat} {ty:TypeId} {cs:List AV} (h: ∀es ck,Box.at bs k≠ .mp es ck) (es:List (AV×AV×Nat)) (ck:Nat):Box.at (killAll ms (bs.set k (.var ty cs))) k≠ .mp es ck∧Box.at (killAll ms bs) k≠ .mp es ck:=by
 have h':=h es ck
 simp only [Box.at,List.getD_eq_getElem?_getD] at h'⊢
 rw [killAll_get,killAll_get,List.length_set]
 constructor
 ·split
  ·simp
  ·by_cases hk:k<bs.length
   ·simp [hk]
   ·simp [hk]
 ·split
  ·simp
  ·exact h'
theorem lenA_calm {d:TypeDesc} {x:AV} {ms:List Nat} {bs:List Box} {k:Nat} {ty:TypeId} {cs:List AV} (h: ∀sh sz es,Box.at bs k≠ .sl sh sz es) (hm: ∀es ck,Box.at bs k≠ .mp es ck):lenA d x (killAll ms (bs.set k (.var ty cs)))=lenA d x (killAll ms bs):=by
 have he:elems (killAll ms (bs.set k (.var ty cs))) x=elems (killAll ms bs) x:=by
  unfold elems
  cases x with
  | osl k' n=>
   simp only
   by_cases hk:k'=k
   ·subst hk
    have h2:=at_kill_var (ms:=ms) (ty:=ty) (cs:=cs) h
    split
    ·rename_i sh sz es hb;exact absurd hb (h2 sh sz es).1
    ·split
     ·rename_i sh sz es hb;exact absurd hb (h2 sh sz es).2
     ·rfl
   ·rw [at_kill_set _ hk]
  | osv k' n lo hi=>
   simp only
   by_cases hk:k'=k
   ·subst hk
    have h2:=at_kill_var (ms:=ms) (ty:=ty) (cs:=cs) h
    split
    ·rename_i sh sz es hb;exact absurd hb (h2 sh sz es).1
    ·split
     ·rename_i sh sz es hb;exact absurd hb (h2 sh sz es).2
     ·rfl
   ·rw [at_kill_set _ hk]
  | _=>rfl
 have hl:mapLen (killAll ms (bs.set k (.var ty cs))) x=mapLen (killAll ms bs) x:=by
  unfold mapLen
  cases x with
  | mapv k'=>
   simp only
   by_cases hk:k'=k
   ·subst hk
    have h2:=at_kill_mp (ms:=ms) (ty:=ty) (cs:=cs) hm
    split
    ·rename_i es ck hb;exact absurd hb (h2 es ck).1
    ·split
     ·rename_i es ck hb;exact absurd hb (h2 es ck).2
     ·rfl
   ·rw [at_kill_set _ hk]
  | _=>rfl
 unfold lenA
 rw [he,hl]
theorem slice_calm {d:TypeDesc} {x:AV} {lo hi:Option AV} {bs bs':List Box} (h1: ∀k n,x≠ .osl k n) (h2: ∀k n lo hi,x≠ .osv k n lo hi):slice2A c d x lo hi bs'=slice2A c d x lo hi bs:=by
 unfold slice2A
 split
 ·rfl
 ·rfl
 ·exact absurd rfl (h1 _ _)
 ·exact absurd rfl (h2 _ _ _ _)
 ·rfl
theorem slice_noupd {d:TypeDesc} {x:AV} {lo hi:Option AV} {bs:List Box} (h1: ∀k n,x≠ .osl k n) (h2: ∀k n lo hi,x≠ .osv k n lo hi) {v:AV} {k:Nat} {y:Box} (h:slice2A c d x lo hi bs=some (v,.upd k y)):False:=by
 unfold slice2A at h
 split at h
 ·split at h
  ·rw [Option.map_eq_some_iff] at h
   obtain ⟨l,_,h⟩:=h
   cases h
  ·cases h
 ·split at h
  ·split at h
   ·rw [Option.map_eq_some_iff] at h
    obtain ⟨l,_,h⟩:=h
    cases h
   ·cases h
  ·cases h
 ·exact absurd rfl (h1 _ _)
 ·exact absurd rfl (h2 _ _ _ _)
 ·cases h
theorem idx_calm {i:Option TI} {x ix:AV} {ms:List Nat} {bs:List Box} {k:Nat} {ty:TypeId} {cs:List AV} (h: ∀sh sz es,Box.at bs k≠ .sl sh sz es):indexAddrA c i x ix (killAll ms (bs.set k (.var ty cs)))=indexAddrA c i x ix (killAll ms bs):=by
 have key: ∀(k':Nat) (F:Hd→Nat→List AV→Out),(match Box.at (killAll ms (bs.set k (.var ty cs))) k' with | .sl sh sz es=>F sh sz es | _=>none)=(match Box.at (killAll ms bs) k' with | .sl sh sz es=>F sh sz es | _=>none):=fun k' F=>by
  by_cases hk:k'=k
  ·subst hk
   have h2:=at_kill_var (ms:=ms) (ty:=ty) (cs:=cs) h
   split
   ·rename_i sh sz es hb;exact absurd hb (h2 sh sz es).1
   ·split
    ·rename_i sh sz es hb;exact absurd hb (h2 sh sz es).2
    ·rfl
  ·rw [at_kill_set _ hk]
 have hmv: ∀o,moveA x o (killAll ms (bs.set k (.var ty cs)))=moveA x o (killAll ms bs):=fun o=>by
  unfold moveA
  cases x with
  | sptr k' n j off=>exact key k' _
  | _=>rfl
 unfold indexAddrA
 split
 ·split
  ·split
   ·split
    ·exact hmv _
    ·rfl
   ·rfl
  ·split
   ·cases x with
    | osl k' m=>exact key k' _
    | osv k' m lo hi=>exact key k' _
    | _=>rfl
   ·rfl
  ·rfl
 ·rfl
theorem mate_calm {op o:Op} {mj:Nat} (hm:mateOk ops mj op o=true) (hb:blind o=false) {t:Env} {ms:List Nat} {bs:List Box} {k:Nat} {x:Box} (hx:okBox op x=true) (hv:isStore op=true→ ∃ty' cs',Box.at bs k= .var ty' cs') (hc: ∀p,loadTmp o=some p→calmV k (t.get .any p)=true) (id:Nat):
  doOp c cf o t (killAll ms (bs.set k x)) id=doOp c cf o t (killAll ms bs) id:=by
 unfold mateOk at hm
 rw [hb,Bool.false_or,Bool.or_eq_true] at hm
 rcases hm with hm | hm
 ·rw [Bool.and_eq_true] at hm
  obtain ⟨hm,hst⟩:=hm
  have hns: ∀sh sz es,Box.at bs k≠ .sl sh sz es:=by
   obtain ⟨ty',cs',hv⟩:=hv hst
   intro sh sz es e
   rw [hv] at e;cases e
  have hnm: ∀es ck,Box.at bs k≠ .mp es ck:=by
   obtain ⟨ty',cs',hv⟩:=hv hst
   intro es ck e
   rw [hv] at e;cases e
  obtain ⟨ty,cs,rfl⟩: ∃ty cs,x= .var ty cs:=by
   cases x with
   | var ty cs=>exact ⟨ty,cs,rfl⟩
   | sl sh sz es=>
    cases op <;> simp only [isStore,Bool.false_eq_true] at hst
    cases hx
   | dead=>cases hx
   | loop st=>cases hx
   | mp es clock=>cases hx
   | gone=>cases hx
   | iter o=>cases hx
  rw [Bool.or_eq_true] at hm
  rcases hm with hm | hm
  ·unfold isLen at hm
   split at hm
   ·simp only [doOp,aop,builtinA]
    split
    ·split
     ·exact lenA_calm hns hnm
     ·rfl
    ·rfl
   ·cases hm
  ·unfold isIdx at hm
   split at hm
   ·simp only [doOp,aop]
    exact idx_calm hns
   ·cases hm
 ·cases hl0:loadRoot ops mj o with
  | none=>rw [hl0] at hm;cases hm
  | some q0=>
   obtain ⟨p,hl,_⟩:=load_root hl0
   have hcp:=hc p hl
   unfold loadTmp at hl
   split at hl
   ·cases hl
    simp only [doOp,aop,ev]
    unfold loadA
    split
    ·split
     ·rename_i k' off hp
      rw [hp] at hcp
      have:k'≠k:=by simpa [calmV,calmK] using hcp
      rw [at_kill_set _ this]
     ·rename_i k' n j off hp
      rw [hp] at hcp
      have:k'≠k:=by simpa [calmV,calmK] using hcp
      rw [at_kill_set _ this]
     ·rfl
     ·rfl
    ·rfl
   ·cases hl
    rename_i ty lo hi
    simp only [doOp,aop]
    have hq:(∀k n,ev t (.tmp p)≠ .osl k n)∧ ∀k n lo hi,ev t (.tmp p)≠ .osv k n lo hi:=by
     simp only [ev]
     constructor
     ·intro k n h;rw [h] at hcp;cases hcp
     ·intro k n lo hi h;rw [h] at hcp;cases hcp
    generalize ev t (.tmp p)=y at hq
    split
    ·exact slice_calm hq.1 hq.2
    ·rfl
   ·cases hl
theorem mate_noupd {op o:Op} {mj:Nat} (hm:mateOk ops mj op o=true) (hb:blind o=false) {t:Env} {bs:List Box} {k:Nat} (hc: ∀p,loadTmp o=some p→calmV k (t.get .any p)=true) {cf:CallF} {id:Nat} {v:AV} {k':Nat} {y:Box} (h:doOp c cf o t bs id=some (v,.upd k' y)):(isStore o || isGrow o)=false:=by
 unfold mateOk at hm
 rw [hb,Bool.false_or,Bool.or_eq_true] at hm
 rcases hm with hm | hm
 ·rw [Bool.and_eq_true] at hm
  have hm:=hm.1
  rw [Bool.or_eq_true] at hm
  rcases hm with hm | hm
  ·unfold isLen at hm
   split at hm
   ·rfl
   ·cases hm
  ·unfold isIdx at hm
   split at hm
   ·rfl
   ·cases hm
 ·cases hl0:loadRoot ops mj o with
  | none=>rw [hl0] at hm;cases hm
  | some q0=>
   obtain ⟨p,hl,_⟩:=load_root hl0
   have hcp:=hc p hl
   unfold loadTmp at hl
   split at hl
   ·rfl
   ·cases hl
    rename_i ty lo hi
    exfalso
    simp only [doOp,aop] at h
    have hq:(∀k n,ev t (.tmp p)≠ .osl k n)∧ ∀k n lo hi,ev t (.tmp p)≠ .osv k n lo hi:=by
     simp only [ev]
     constructor
     ·intro k n h;rw [h] at hcp;cases hcp
     ·intro k n lo hi h;rw [h] at hcp;cases hcp
    generalize ev t (.tmp p)=y at hq h
    split at h
    ·exact slice_noupd hq.1 hq.2 h
    ·cases h
   ·cases hl
theorem mate_soft {op o:Op} {mj:Nat} (hm:mateOk ops mj op o=true) (hb:blind o=false):asks o=false∧isCallV o=false:=by
 unfold mateOk at hm
 rw [hb,Bool.false_or,Bool.or_eq_true] at hm
 rcases hm with hm | hm
 ·rw [Bool.and_eq_true] at hm
  have hm:=hm.1
  rw [Bool.or_eq_true] at hm
  rcases hm with hm | hm
  ·unfold isLen at hm
   split at hm
   ·exact ⟨rfl,rfl⟩
   ·cases hm
  ·unfold isIdx at hm
   split at hm
   ·exact ⟨rfl,rfl⟩
   ·cases hm
 ·cases hl0:loadRoot ops mj o with
  | none=>rw [hl0] at hm;cases hm
  | some q0=>
   obtain ⟨p,hl,_⟩:=load_root hl0
   unfold loadTmp at hl
   split at hl
   ·exact ⟨rfl,rfl⟩
   ·exact ⟨rfl,rfl⟩
   ·cases hl
theorem own_not {c:Cfg} {o:Op} (h:isCallV o=false):ownCall c o=false:=by
 cases o with
 | call k=>
  obtain ⟨ce,as,ts⟩:=k
  cases ce with
  | value f=>simp [isCallV] at h
  | _=>rfl
 | _=>rfl
theorem own_call {c:Cfg} {o:Op} (h:ownCall c o=true):isCallV o=true:=by
 cases hc:isCallV o with
 | true=>rfl
 | false=>rw [own_not hc] at h;cases h
theorem app_from {c:Cfg} {ops:Array Oper}: ∀(l:List Oper) (j k:Nat) (o:Oper),l[k]?=some o→alone ops (j+k)=false→lookOk c ops (j+k) o.op=true→appFrom c ops l j=true
 | [],_,k,_,h,_,_=>by simp at h
 | x::r,j,0,o,h,h2,h3=>by
  simp only [List.getElem?_cons_zero,Option.some.injEq] at h
  subst h
  simp only [Nat.add_zero] at h2 h3
  simp [appFrom,h2,h3]
 | x::r,j,k+1,o,h,h2,h3=>by
  have:=app_from r (j+1) k o (by simpa using h) (by rw [show j+1+k=j+(k+1) by omega];exact h2) (by rw [show j+1+k=j+(k+1) by omega];exact h3)
  simp [appFrom,this]
theorem app_any {c:Cfg} {ops:Array Oper} {a:Nat} {oa:Oper} (hoa:ops[a]?=some oa) (h2:alone ops a=false) (h3:lookOk c ops a oa.op=true):appAny c ops=true:=
 app_from ops.toList 0 a oa (by simpa using hoa) (by simpa using h2) (by simpa using h3)
theorem grow_from {ops:Array Oper}: ∀(l:List Oper) (j k:Nat) (o:Oper),l[k]?=some o→alone ops (j+k)=false→storeOk ops (j+k) o.op=true→growFrom ops l j=true
 | [],_,k,_,h,_,_=>by simp at h
 | x::r,j,0,o,h,h2,h3=>by
  simp only [List.getElem?_cons_zero,Option.some.injEq] at h
  subst h
  simp only [Nat.add_zero] at h2 h3
  simp [growFrom,h2,h3]
 | x::r,j,k+1,o,h,h2,h3=>by
  have:=grow_from r (j+1) k o (by simpa using h) (by rw [show j+1+k=j+(k+1) by omega];exact h2) (by rw [show j+1+k=j+(k+1) by omega];exact h3)
  simp [growFrom,this]
theorem grow_any {ops:Array Oper} {a:Nat} {oa:Oper} (hoa:ops[a]?=some oa) (h2:alone ops a=false) (h3:storeOk ops a oa.op=true):growAny ops=true:=
 grow_from ops.toList 0 a oa (by simpa using hoa) (by simpa using h2) (by simpa using h3)
theorem root_any {c:Cfg} {ops:Array Oper} {op:Op} {j:Nat} {t:Env} (h:appAny c ops=false) (h2:growAny ops=false):rootOk c ops j op t=true:=by
 unfold rootOk
 split
 ·rfl
 ·split
  ·rfl
  ·rw [h,h2];rfl
theorem see_peek {op:Op} {p:Nat} (h:peekTmp op=some p):seeTmp op=some p:=by
 unfold seeTmp;rw [h]
theorem see_load {op:Op} {p:Nat} (h:loadTmp op=some p):seeTmp op=some p:=by
 have h0:=h
 unfold loadTmp at h
 split at h
 ·cases h;rfl
 ·cases h;rfl
 ·cases h
theorem root_calm {c:Cfg} {ops:Array Oper} {op:Op} {t:Env} {j p q k:Nat} (hg:growAny ops=true) (h:rootOk c ops j op t=true) (hp:loadTmp op=some p) (hq:rootTmp ops j p=some q) (hc:calmV k (t.get .any q)=true):calmV k (t.get .any p)=true:=by
 unfold rootOk at h
 rw [see_load hp] at h
 simp only [hq,hg,Bool.not_true,Bool.false_or,Bool.and_eq_true,beq_iff_eq] at h
 unfold calmV at hc⊢
 rw [h.2]
 exact hc
theorem peek_mem {b:List Nat} {i p:Nat}: ∀(l:List Oper) (j:Nat),p∈peekOf ops b i l j→ ∃k o,l[k]?=some o∧peekRoot ops (j+k) o.op=some p∧(j+k==i || ordered b i (j+k) || ordered b (j+k) i)=false
 | [],_,h=>by cases h
 | o::r,j,h=>by
  simp only [peekOf] at h
  split at h
  ·rename_i q h1 h2
   rcases List.mem_cons.1 h with rfl | h
   ·exact ⟨0,o,rfl,h2,h1⟩
   ·obtain ⟨k,o',k1,k2,k3⟩:=peek_mem r (j+1) h
    exact ⟨k+1,o',k1,by rw [show j+(k+1)=j+1+k by omega];exact k2,by rw [show j+(k+1)=j+1+k by omega];exact k3⟩
  ·obtain ⟨k,o',k1,k2,k3⟩:=peek_mem r (j+1) h
   exact ⟨k+1,o',k1,by rw [show j+(k+1)=j+1+k by omega];exact k2,by rw [show j+(k+1)=j+1+k by omega];exact k3⟩
theorem mem_peek {b:List Nat} {i p:Nat}: ∀(l:List Oper) (j k:Nat) (o:Oper),l[k]?=some o→peekRoot ops (j+k) o.op=some p→(j+k==i || ordered b i (j+k) || ordered b (j+k) i)=false→p∈peekOf ops b i l j
 | [],_,k,_,h,_,_=>by simp at h
 | x::r,j,0,o,h,h2,h3=>by
  simp only [List.getElem?_cons_zero,Option.some.injEq] at h
  subst h
  simp only [Nat.add_zero] at h2 h3
  simp only [peekOf,h3,h2]
  exact List.mem_cons_self
 | x::r,j,k+1,o,h,h2,h3=>by
  have:=mem_peek r (j+1) k o (by simpa using h) (by rw [show j+1+k=j+(k+1) by omega];exact h2) (by rw [show j+1+k=j+(k+1) by omega];exact h3)
  simp only [peekOf]
  split
  ·exact List.mem_cons_of_mem _ this
  ·exact this
theorem pmates_spec {b:List Nat} {i:Nat}: ∀(l:List Oper) (j k:Nat) (o:Oper),pmatesOk ops b i l j=true→l[k]?=some o→(j+k==i || ordered b i (j+k) || ordered b (j+k) i || blind o.op || isAlloc o.op || (peekRoot ops (j+k) o.op).isSome)=true
 | [],_,k,_,_,h=>by simp at h
 | x::r,j,0,o,h,h2=>by
  simp only [List.getElem?_cons_zero,Option.some.injEq] at h2
  subst h2
  simp only [pmatesOk,Bool.and_eq_true] at h
  exact h.1
 | x::r,j,k+1,o,h,h2=>by
  simp only [pmatesOk,Bool.and_eq_true] at h
  have:=pmates_spec r (j+1) k o h.2 (by simpa using h2)
  rw [show j+(k+1)=j+1+k by omega]
  exact this
theorem look_app {i:Nat} {op:Op} (h:appOk c ops i op=true):lookOk c ops i op=true:=by
 unfold lookOk;rw [h];rfl
theorem look_eat {i:Nat} {op:Op} (h:eatOk c ops i op=true):lookOk c ops i op=true:=by
 unfold lookOk;rw [h];exact Bool.or_true _
theorem look_spec {i:Nat} {op:Op} (h:lookOk c ops i op=true):pmatesOk ops (bef ops) i ops.toList 0=true∧((peeks ops i).all fun p=>ops.toList.all fun o=>o.dst !=some p)=true:=by
 unfold lookOk at h
 rw [Bool.or_eq_true] at h
 rcases h with h | h
 ·simp only [appOk,Bool.and_eq_true] at h
  exact ⟨h.1.2,h.2⟩
 ·simp only [eatOk,Bool.and_eq_true] at h
  refine ⟨h.1.2,?_⟩
  have h2:=h.2
  rw [List.all_eq_true] at h2⊢
  intro p hp
  have h3:=h2 p hp
  rw [Bool.and_eq_true] at h3
  exact h3.1
theorem peeks_put {i a:Nat} {op:Op} {oa:Oper} (h:lookOk c ops i op=true) (ha:ops[a]?=some oa) (t:Env) (v:AV) (f:AV→Bool):((peeks ops i).all fun p=>f ((putA t oa.dst v).get .any p))=(peeks ops i).all fun p=>f (t.get .any p):=by
 have h2:=(look_spec h).2
 rw [List.all_eq_true] at h2
 have hmem:oa∈ops.toList:=by
  obtain ⟨hlt,e⟩:=Array.getElem?_eq_some_iff.1 ha
  rw [←e];simp
 rw [Bool.eq_iff_iff,List.all_eq_true,List.all_eq_true]
 have key: ∀p∈peeks ops i,(putA t oa.dst v).get .any p=t.get .any p:=fun p hp=>by
  have h3:=h2 p hp
  rw [List.all_eq_true] at h3
  have h4:=h3 oa hmem
  cases hd:oa.dst with
  | none=>rfl
  | some d=>
   rw [hd] at h4
   simp only [putA]
   refine Tr.get_set_ne _ _ _ ?_
   intro e
   subst e
   simp at h4
 constructor
 ·intro hh p hp;rw [←key p hp];exact hh p hp
 ·intro hh p hp;rw [key p hp];exact hh p hp
theorem rootN_unset {j q:Nat} {a:Nat} {oa:Oper} (hoa:ops[a]?=some oa) (hne:a≠j) (h1:ordered (bef ops) j a=false) (h2:ordered (bef ops) a j=false): ∀(n p:Nat),rootN ops j n p=some q→oa.dst≠some q
 | 0,_,h=>by cases h
 | n+1,p,h=>by
  have hmem:oa∈ops.toList:=by
   obtain ⟨hlt,e⟩:=Array.getElem?_eq_some_iff.1 hoa
   rw [←e];simp
  unfold rootN at h
  split at h
  ·rename_i hf
   cases h
   intro hd
   have:=List.filter_eq_nil_iff.1 hf oa hmem
   rw [hd] at this
   simp at this
  ·split at h
   ·split at h
    ·rename_i ha
     cases h
     exact unset_dst ha hoa hne h1 h2
    ·cases h
   ·exact rootN_unset hoa hne h1 h2 n _ h
   ·exact rootN_unset hoa hne h1 h2 n _ h
   ·cases h
  ·cases h
theorem root_unset {j p q:Nat} (h:rootTmp ops j p=some q) {a:Nat} {oa:Oper} (hoa:ops[a]?=some oa) (hne:a≠j) (h1:ordered (bef ops) j a=false) (h2:ordered (bef ops) a j=false):oa.dst≠some q:=
 rootN_unset hoa hne h1 h2 4 p h
theorem offV_box {a b:AV} (h:(boxOf a==boxOf b)=true) (k:Nat):offV k a=offV k b:=by
 rw [beq_iff_eq] at h
 unfold offV
 rw [h]
theorem lowV_box {a b:AV} (h:(boxOf a==boxOf b)=true) (n:Nat):lowV n a=lowV n b:=by
 rw [beq_iff_eq] at h
 have key: ∀x:AV,lowV n x=match boxOf x with | some k=>decide (k<n) | none=>true:=fun x=>by cases x <;> rfl
 rw [key,key,h]
theorem peek_looks {o:Oper} {p:Nat} (h:peekTmp o.op=some p):p∈o.looksAt ops:=by
 simp only [Oper.looksAt,List.mem_append,List.mem_filterMap]
 refine .inl ⟨.tmp p,?_,rfl⟩
 unfold peekTmp at h
 split at h
 ·rename_i ho
  cases h
  rw [ho]
  simp [Op.operands]
 ·rename_i ho
  cases h
  rw [ho]
  simp [Op.operands]
 ·rename_i args ts ho
  split at h
  ·rename_i q hq
   cases h
   rw [ho]
   simp only [Op.operands,Call.operands]
   simp [hq]
  ·cases h
 ·cases h
theorem see_looks {o:Oper} {p:Nat} (h:seeTmp o.op=some p):p∈o.looksAt ops:=by
 unfold seeTmp at h
 split at h
 ·rename_i q hq;cases h;exact peek_looks hq
 ·simp only [Oper.looksAt,List.mem_append,List.mem_filterMap]
  refine .inl ⟨.tmp p,?_,rfl⟩
  unfold loadTmp at h
  split at h
  ·rename_i ho;cases h;rw [ho];simp [Op.operands]
  ·rename_i ho;cases h;rw [ho];simp [Op.operands]
  ·cases h
theorem root_put {a j:Nat} {oa o:Oper} (hoa:ops[a]?=some oa) (hne:a≠j) (ho1:ordered (bef ops) j a=false) (ho2:ordered (bef ops) a j=false) (h: ∀d,oa.dst=some d→d∉o.looksAt ops) (t:Env) (v:AV):rootOk c ops j o.op (putA t oa.dst v)=rootOk c ops j o.op t:=by
 unfold rootOk
 split
 ·rfl
 ·rename_i p hp
  split
  ·rfl
  ·rename_i q hq
   cases hd:oa.dst with
   | none=>rfl
   | some d=>
    have h1:d≠p:=fun e=>h d hd (e▸see_looks hp)
    have h2:d≠q:=fun e=>root_unset hq hoa hne ho1 ho2 (by rw [hd,e])
    simp only [putA]
    rw [Tr.get_set_ne _ _ _ h1,Tr.get_set_ne _ _ _ h2]
theorem blind_root {op:Op} {j:Nat} (h:blind op=true) (t:Env):rootOk c ops j op t=true:=by
 have:seeTmp op=none:=by
  cases op <;> simp only [blind,Bool.false_eq_true] at h <;> rfl
 unfold rootOk
 rw [this]
theorem at_kill_app {ms:List Nat} {bs:List Box} {j:Nat} (x:Box) (h:j<bs.length):Box.at (killAll ms (bs++ [x])) j=Box.at (killAll ms bs) j:=by
 simp only [Box.at,List.getD_eq_getElem?_getD]
 rw [killAll_get,killAll_get,List.getElem?_append_left h]
 simp only [List.length_append,List.length_singleton]
 by_cases hj:j∈ms
 ·rw [if_pos ⟨hj,by omega⟩,if_pos ⟨hj,h⟩]
 ·rw [if_neg (fun e=>hj e.1),if_neg (fun e=>hj e.1)]
theorem lenA_elems {d:TypeDesc} {x:AV} {b b':List Box} (h:elems b x=elems b' x) (hm:mapLen b x=mapLen b' x):lenA d x b=lenA d x b':=by
 unfold lenA
 rw [h,hm]
theorem peek_same {o:Op} {p:Nat} (hm:peekTmp o=some p) {t:Env} {b b':List Box} (hc: ∀k,boxOf (t.get .any p)=some k→Box.at b' k=Box.at b k) (id:Nat):
  doOp c cf o t b' id=doOp c cf o t b id:=by
 unfold peekTmp at hm
 split at hm
 ·cases hm
  simp only [doOp,aop,ev]
  unfold loadA
  split
  ·split
   ·rename_i k' off hp
    rw [hc k' (by rw [hp];rfl)]
   ·rename_i k' n j off hp
    rw [hc k' (by rw [hp];rfl)]
   ·rfl
   ·rfl
  ·rfl
 ·cases hm
  simp only [doOp,aop,ev]
  have he: ∀o,moveA (t.get .any p) o b'=moveA (t.get .any p) o b:=fun o=>by
   unfold moveA
   split
   ·rfl
   ·rename_i k' n j off hp
    rw [hc k' (by rw [hp];rfl)]
   ·rfl
   ·rfl
  unfold fieldAddrA
  simp only [he]
 ·rename_i args ts
  split at hm
  ·rename_i q hargs
   cases hm
   have he:elems b' (t.get .any p)=elems b (t.get .any p):=by
    unfold elems
    cases hv:t.get .any p with
    | osl k' n=>
     simp only
     rw [hc k' (by rw [hv];rfl)]
    | osv k' n lo hi=>
     simp only
     rw [hc k' (by rw [hv];rfl)]
    | _=>rfl
   have hml:mapLen b' (t.get .any p)=mapLen b (t.get .any p):=by
    unfold mapLen
    cases hv:t.get .any p with
    | mapv k'=>
     simp only
     rw [hc k' (by rw [hv];rfl)]
    | _=>rfl
   simp only [doOp,aop,builtinA]
   rw [show evAll t args.toList= [t.get .any p] by rw [hargs];rfl]
   rcases hts:ts.toList with _ | ⟨t',_ | ⟨t2,r⟩⟩
   ·rfl
   ·simp only
    split
    ·exact lenA_elems he hml
    ·rfl
   ·rfl
  ·cases hm
 ·cases hm
theorem peek_calm {o:Op} {p:Nat} (hm:peekTmp o=some p) {t:Env} {ms:List Nat} {bs:List Box} {x:Box} (hc:lowV bs.length (t.get .any p)=true) (id:Nat):
  doOp c cf o t (killAll ms (bs++ [x])) id=doOp c cf o t (killAll ms bs) id:=
 peek_same hm (fun k hk=>at_kill_app x (by
  cases hv:t.get .any p <;> rw [hv] at hk hc <;> simp only [boxOf,reduceCtorEq,Option.some.injEq] at hk
  all_goals (subst hk;simpa [lowV] using hc))) id
theorem peek_off {o:Op} {p:Nat} (hm:peekTmp o=some p) {t:Env} {ms:List Nat} {bs:List Box} {k:Nat} {x:Box} (hc:offV k (t.get .any p)=true) (id:Nat):
  doOp c cf o t (killAll ms (bs.set k x)) id=doOp c cf o t (killAll ms bs) id:=
 peek_same hm (fun j hj=>at_kill_set x (by
  unfold offV at hc
  rw [hj] at hc
  simpa using hc)) id
theorem peek_soft {o:Op} {p:Nat} (hm:peekTmp o=some p):asks o=false∧(isStore o || isGrow o)=false∧isCallV o=false:=by
 unfold peekTmp at hm
 split at hm
 ·exact ⟨rfl,rfl,rfl⟩
 ·exact ⟨rfl,rfl,rfl⟩
 ·exact ⟨rfl,rfl,rfl⟩
 ·cases hm
theorem alloc_soft {o:Op} (h:isAlloc o=true):(isStore o || isGrow o)=false∧isCallV o=false:=by
 cases o <;> simp only [isAlloc,Bool.false_eq_true] at h
 exact ⟨rfl,rfl⟩
theorem alloc_eq {op:Op} (h:isAlloc op=true) (cf cf':CallF) (t t':Env) (bs bs':List Box) (id:Nat):doOp c cf op t bs id=doOp c cf' op t' bs' id:=by
 cases op <;> simp only [isAlloc,Bool.false_eq_true] at h <;> rfl
theorem eat_not {o:Op} (h:isCallV o=false):isEat c o=false:=by
 cases o with
 | call k=>
  obtain ⟨ce,as,ts⟩:=k
  cases ce with
  | value f=>simp [isCallV] at h
  | _=>rfl
 | _=>rfl
theorem eat_get {o:Op} (h:isEat c o=true) {t:Env} {bs:List Box} {id:Nat} {v:AV} {k:Nat} (hd:doOp c cf o t bs id=some (v,.eat k)): ∃sh sz es,Box.at bs k= .sl sh sz es∧ ∀(cf':CallF) bs' id',Box.at bs' k= .sl sh sz es→doOp c cf' o t bs' id'=some (v,.eat k):=by
 unfold isEat at h
 split at h
 ·rename_i kk
  split at h
  ·rename_i f hf
   obtain ⟨G,hG⟩:=Option.isSome_iff_exists.1 h
   unfold doOp at hd⊢
   simp only [hf,ev] at hd⊢
   split at hd
   ·split at hd <;> cases hd
   ·unfold callA at hd⊢
    split at hd
    ·split at hd <;> cases hd
    rename_i hov
    unfold callP at hd
    split at hd
    ·rename_i hmu
     rw [hG] at hd
     simp only at hd
     split at hd
     ·rename_i v' k' he
      cases hd
      unfold eatA at he
      split at he
      ·rename_i kx n r hargs
       split at he
       ·rename_i sh sz es hb
        split at he
        ·rename_i u hu
         cases he
         refine ⟨sh,sz,es,hb,fun cf' bs' id' hb'=> ?_⟩
         unfold callP eatA
         simp only [hov,hmu,hG,hargs,hb',hu]
        ·cases he
       ·cases he
      ·cases he
     ·cases hd
    ·exfalso
     unfold callL at hd
     split at hd
     ·split at hd
      ·split at hd
       ·split at hd
        ·split at hd
         ·unfold lentBack at hd;split at hd <;> cases hd
         ·cases hd
        ·cases hd
       ·split at hd
        ·split at hd
         ·unfold lentBack at hd;split at hd <;> cases hd
         ·cases hd
        ·split at hd
         ·split at hd <;> cases hd
         ·split at hd <;> cases hd
        ·cases hd
      ·split at hd <;> cases hd
     ·cases hd
  ·cases h
 ·cases h
theorem app_box {c:Cfg} {cf:CallF} {op:Op} {t:Env} {bs:List Box} (hv:isCallV op=true) {id:Nat} {v:AV} {x:Box} (h:doOp c cf op t bs id=some (v,.app x)):x≠ .dead:=by
 unfold doOp at h
 split at h
 ·split at h
  ·split at h
   ·split at h
    ·split at h <;> cases h
    ·unfold callA at h
     split at h
     ·split at h <;> cases h
     ·unfold callP at h
      split at h
      ·split at h
       ·split at h <;> cases h
       ·split at h <;> cases h
      unfold callL at h
      split at h
      ·split at h
       ·split at h
        ·split at h
         ·split at h
          ·unfold lentBack at h;split at h <;> cases h
          ·cases h
         ·cases h
        ·split at h
         ·split at h
          ·unfold lentBack at h;split at h <;> cases h
          ·cases h
         ·split at h
          ·split at h
           ·cases h
           ·cases h;exact fun e=>by cases e
          ·split at h <;> cases h
         ·cases h
       ·split at h <;> cases h
      ·cases h
   ·split at h <;> cases h
   ·cases h
  ·rename_i k hk
   exfalso
   unfold isCallV at hv
   simp only at hv
   first
   | (cases hv;done)
   | (split at hv
      ·rename_i f hf
       exact hk f hf
      ·cases hv)
 ·rename_i hk
  exfalso
  unfold isCallV at hv
  split at hv
  ·rename_i k
   exact hk k rfl
  ·cases hv
theorem blind_eq {op:Op} (h:blind op=true) (t:Env) (bs:List Box) (id:Nat):doOp c cf op t bs id=doOp c cf op t [] 0:=by
 cases op <;> simp only [blind,Bool.false_eq_true] at h <;> rfl
theorem blind_eff {op:Op} (h:blind op=true) {t:Env} {bs:List Box} {id:Nat} {v:AV} {e:Eff} (hd:doOp c cf op t bs id=some (v,e)):e= .none:=by
 cases op <;> simp only [blind,Bool.false_eq_true] at h <;> simp only [doOp,aop] at hd
 ·cases hd;rfl
 ·cases hd;rfl
 ·unfold pickA at hd;split at hd <;> cases hd <;> rfl
 ·unfold buildA at hd
  split at hd
  ·split at hd
   ·split at hd
    ·rw [Option.map_eq_some_iff] at hd;obtain ⟨_,_,hd⟩:=hd;cases hd;rfl
    ·split at hd
     ·rw [Option.map_eq_some_iff] at hd;obtain ⟨_,_,hd⟩:=hd;cases hd;rfl
     ·cases hd
    ·cases hd
   ·cases hd
  ·cases hd
 ·unfold nilCheckA at hd;split at hd <;> cases hd <;> rfl
 ·rw [Option.map_eq_some_iff] at hd;obtain ⟨_,_,hd⟩:=hd;cases hd;rfl
 ·rw [Option.map_eq_some_iff] at hd;obtain ⟨_,_,hd⟩:=hd;cases hd;rfl
 ·unfold fieldA at hd
  split at hd
  ·split at hd
   ·split at hd
    ·rw [Option.map_eq_some_iff] at hd;obtain ⟨_,_,hd⟩:=hd;cases hd;rfl
    ·cases hd
   ·cases hd
  ·cases hd
 ·unfold indexA at hd
  split at hd
  ·split at hd
   ·split at hd
    ·split at hd
     ·cases hd;rfl
     ·cases hd
    ·cases hd
   ·split at hd
    ·split at hd
     ·rw [Option.map_eq_some_iff] at hd;obtain ⟨_,_,hd⟩:=hd;cases hd;rfl
     ·cases hd
    ·cases hd
   ·cases hd
  ·cases hd
 ·unfold extractA at hd
  split at hd
  ·rw [Option.map_eq_some_iff] at hd;obtain ⟨_,_,hd⟩:=hd;cases hd;rfl
  ·cases hd
theorem blind_soft {op:Op} (h:blind op=true) (t:Env) (bs:List Box) (id:Nat):doOp c (softC cf) op t bs id=doOp c cf op t bs id:=by
 cases op <;> simp only [blind,Bool.false_eq_true] at h <;> rfl
theorem blind_softF {op:Op} (h:blind op=true) (b:Bool) (t:Env) (bs:List Box) (id:Nat):doOp c (softF cf b) op t bs id=doOp c cf op t bs id:=by
 cases b with
 | true=>rfl
 | false=>exact blind_soft h t bs id
theorem stepO_blind {i:Nat} {o:Oper} {s:St} (hb:blind o.op=true):stepO c cf ops base i o s=match wantedA ops s.t o.guard with
  | some true=>(match doOp c cf o.op s.t [] 0 with
   | some (v,_)=>some {t:=putA s.t o.dst v,b:=s.b}
   | none=>none)
  | some false=>some {t:=putA s.t o.dst (.tup []),b:=s.b}
  | none=>none:=by
 unfold stepO
 cases hw:wantedA ops s.t o.guard with
 | none=>rfl
 | some x=>
  cases x with
  | false=>rfl
  | true=>
   simp only [blind_eq hb,blind_softF hb]
   cases hd:doOp c cf o.op s.t [] 0 with
   | none=>cases alone ops i <;> rfl
   | some p=>
    obtain ⟨v,e⟩:=p
    obtain rfl:=blind_eff hb hd
    cases alone ops i
    ·simp only [blind_root hb]
    ·rfl
theorem stepO_shift {a:Nat} {oa:Oper} {s s1:St} (h:stepO c cf ops base a oa s=some s1): ∃va bs1,s1={t:=putA s.t oa.dst va,b:=bs1}∧
  ∀t':Env,wantedA ops t' oa.guard=wantedA ops s.t oa.guard→(∀(cf:CallF) bs id,doOp c cf oa.op t' bs id=doOp c cf oa.op s.t bs id)→(∀k,storeOk ops a oa.op=true→((nears ops a).all fun p=>calmV k (t'.get .any p))=((nears ops a).all fun p=>calmV k (s.t.get .any p)))→(∀f:AV→Bool,lookOk c ops a oa.op=true→((peeks ops a).all fun p=>f (t'.get .any p))=((peeks ops a).all fun p=>f (s.t.get .any p)))→(rootOk c ops a oa.op t'=rootOk c ops a oa.op s.t)→stepO c cf ops base a oa {t:=t',b:=s.b}=some {t:=putA t' oa.dst va,b:=bs1}:=by
 unfold stepO at h
 split at h
 ·rename_i hw
  cases hal:alone ops a with
  | true=>
   rw [hal] at h
   simp only at h
   split at h
   ·rename_i v e hd
    split at h
    ·rename_i bs' he
     cases h
     refine ⟨v,bs',rfl,fun t' k1 k2 k3 k4 k5=> ?_⟩
     unfold stepO
     simp only [k1,hw,hal,k2,hd,he]
    ·cases h
   ·cases h
  | false=>
   rw [hal] at h
   simp only at h
   split at h
   ·rename_i v hd
    split at h
    ·rename_i hro
     cases h
     refine ⟨v,_,rfl,fun t' k1 k2 k3 k4 k5=> ?_⟩
     unfold stepO
     simp only [k1,hw,hal,k2,hd,k5,hro]
    ·cases h
   ·rename_i v x hd
    split at h
    ·rename_i ha hdead
     cases h
     refine ⟨v,_,rfl,fun t' k1 k2 k3 k4 k5=> ?_⟩
     unfold stepO
     simp only [k1,hw,hal,k2,hd,ha,hdead]
    ·cases h
   ·rename_i v k x hd
    split at h
    ·rename_i hcalm
     cases h
     refine ⟨v,_,rfl,fun t' k1 k2 k3 k4 k5=> ?_⟩
     have hs:storeOk ops a oa.op=true:=by
      rw [Bool.and_eq_true,Bool.and_eq_true,Bool.and_eq_true] at hcalm
      exact hcalm.1.1.1
     unfold stepO
     simp only [k1,hw,hal,k2,hd,k3 k hs,k5,hcalm]
    ·cases h
   ·rename_i v x hd
    split at h
    ·rename_i hcalm
     cases h
     refine ⟨v,_,rfl,fun t' k1 k2 k3 k4 k5=> ?_⟩
     have hs:appOk c ops a oa.op=true:=(Bool.and_eq_true _ _▸hcalm:_∧_).1
     unfold stepO
     simp only [k1,hw,hal,k2,hd,k4 _ (look_app hs),hcalm]
    ·cases h
   ·rename_i v k hd
    split at h
    ·rename_i hcalm
     cases h
     refine ⟨v,_,rfl,fun t' k1 k2 k3 k4 k5=> ?_⟩
     have hs:eatOk c ops a oa.op=true:=(Bool.and_eq_true _ _▸hcalm:_∧_).1
     unfold stepO
     simp only [k1,hw,hal,k2,hd,k4 _ (look_eat hs),hcalm]
    ·cases h
   ·cases h
 ·rename_i hw
  cases h
  refine ⟨.tup [],_,rfl,fun t' k1 k2 k3 k4 k5=> ?_⟩
  unfold stepO
  simp only [k1,hw]
 ·cases h
theorem comm {a i:Nat} {oa oi:Oper} (hoa:ops[a]?=some oa) (hoi:ops[i]?=some oi) (hlt:a<i) (hap:oa.apart ops oi=true) (hai:ordered (bef ops) a i=false) (hia:ordered (bef ops) i a=false) {s s1 s2:St}
  (h1:stepO c cf ops base a oa s=some s1) (h2:stepO c cf ops base i oi s1=some s2): ∃s1',stepO c cf ops base i oi s=some s1'∧stepO c cf ops base a oa s1'=some s2:=by
 have hasz:a<ops.size:=by
  rcases Nat.lt_or_ge a ops.size with h | h
  ·exact h
  ·rw [Array.getElem?_eq_none h] at hoa;cases hoa
 have hisz:i<ops.size:=by
  rcases Nat.lt_or_ge i ops.size with h | h
  ·exact h
  ·rw [Array.getElem?_eq_none h] at hoi;cases hoi
 have hne:a≠i:=by omega
 have hne':i≠a:=by omega
 obtain ⟨q1,q2,q3⟩:=Oper.apart_spec hap
 have hput:=fun (v v':AV)=>putA_comm s.t v v' q2
 have hi0:=fun v bs id=>op_apart (c:=c) (cf:=softF cf (appOk c ops i oi.op)) (ops:=ops) (x:=oa) (y:=oi) q1 s.t v bs id
 have ha0:=fun v bs id=>op_apart (c:=c) (cf:=softF cf (appOk c ops a oa.op)) (ops:=ops) (x:=oi) (y:=oa) q3 s.t v bs id
 have hi1:=fun (cf:CallF) v bs id=>op_apart (c:=c) (cf:=cf) (ops:=ops) (x:=oa) (y:=oi) q1 s.t v bs id
 have ha1:=fun (cf:CallF) v bs id=>op_apart (c:=c) (cf:=cf) (ops:=ops) (x:=oi) (y:=oa) q3 s.t v bs id
 /- one of them looks at no box -/
 by_cases hbi:blind oi.op=true
 ·obtain ⟨va,bs1,rfl,sh⟩:=stepO_shift h1
  rw [stepO_blind hbi] at h2
  simp only [(hi0 va [] 0).2,(hi1 cf va [] 0).1] at h2
  rw [stepO_blind hbi]
  split at h2
  ·rename_i hw
   split at h2
   ·rename_i vi e hd
    cases h2
    refine ⟨{t:=putA s.t oi.dst vi,b:=s.b},rfl,?_⟩
    rw [sh _ (ha0 vi [] 0).2 (fun cf bs id=>(ha1 cf vi bs id).1) (fun k hs=>nears_put hs hoi hne' hai hia _ _ k) (fun n hs=>peeks_put hs hoi _ _ n) (root_put hoi hne' hai hia q3 _ _),hput va vi]
   ·cases h2
  ·rename_i hw
   cases h2
   refine ⟨{t:=putA s.t oi.dst (.tup []),b:=s.b},rfl,?_⟩
   rw [sh _ (ha0 (.tup []) [] 0).2 (fun cf bs id=>(ha1 cf (.tup []) bs id).1) (fun k hs=>nears_put hs hoi hne' hai hia _ _ k) (fun n hs=>peeks_put hs hoi _ _ n) (root_put hoi hne' hai hia q3 _ _),hput va (.tup [])]
  ·cases h2
 by_cases hba:blind oa.op=true
 ·rw [stepO_blind hba] at h1
  have fin: ∀va,s1={t:=putA s.t oa.dst va,b:=s.b}→(∀vi bs2,stepO c cf ops base a oa {t:=putA s.t oi.dst vi,b:=bs2}=some {t:=putA (putA s.t oi.dst vi) oa.dst va,b:=bs2})→ ∃s1',stepO c cf ops base i oi s=some s1'∧stepO c cf ops base a oa s1'=some s2:=by
   intro va hs1 hgo
   subst hs1
   obtain ⟨vi,bs2,rfl,sh⟩:=stepO_shift h2
   refine ⟨_,sh s.t (hi0 va [] 0).2.symm (fun cf bs id=>(hi1 cf va bs id).1.symm) (fun k hs=>(nears_put hs hoa hne hia hai _ _ k).symm) (fun n hs=>(peeks_put hs hoa _ _ n).symm) (root_put hoa hne hia hai q1 _ _).symm,?_⟩
   rw [hgo,hput va vi]
  split at h1
  ·rename_i hw
   split at h1
   ·rename_i va e hd
    cases h1
    refine fin va rfl fun vi bs2=> ?_
    rw [stepO_blind hba]
    simp only [(ha0 vi [] 0).2,(ha1 cf vi [] 0).1,hw,hd]
   ·cases h1
  ·rename_i hw
   cases h1
   refine fin (.tup []) rfl fun vi bs2=> ?_
   rw [stepO_blind hba]
   simp only [(ha0 vi [] 0).2,hw]
  ·cases h1
 have ala:alone ops a=false:=by
  cases hh:alone ops a with
  | false=>rfl
  | true=>
   have:=alone_spec (i:=a) (j:=i) hisz (by omega) hai hia hh
   simp only [blindAt,hoi] at this
   exact absurd this hbi
 have ali:alone ops i=false:=by
  cases hh:alone ops i with
  | false=>rfl
  | true=>
   have:=alone_spec (i:=i) (j:=a) hasz (by omega) hia hai hh
   simp only [blindAt,hoa] at this
   exact absurd this hba
 have hidn:asks oa.op=true→idOf ops.toList a base≠idOf ops.toList i base:=fun h=>Nat.ne_of_lt (idOf_lt ops.toList a i base oa (by simpa using hoa) h hlt)
 have hma:asks oa.op=true→ ∀bs x,maskB ops base i (bs.set (idOf ops.toList a base) x)=maskB ops base i bs:=fun h bs x=>killAll_set (mask_mem ops.toList 0 base a oa (by simpa using hoa) h (by simpa using hai)) bs x
 have hmi:asks oi.op=true→ ∀bs x,maskB ops base a (bs.set (idOf ops.toList i base) x)=maskB ops base a bs:=fun h bs x=>killAll_set (mask_mem ops.toList 0 base i oi (by simpa using hoi) h (by simpa using hia)) bs x
 have hbi':blind oi.op=false:=by simpa using hbi
 have hba':blind oa.op=false:=by simpa using hba
 /- a call that has a new box or uses one up, beside what looks on or lays a variable -/
 have peekAt: ∀{x y:Nat} {ox oy:Oper},ops[x]?=some ox→ops[y]?=some oy→y≠x→ordered (bef ops) x y=false→ordered (bef ops) y x=false→lookOk c ops x ox.op=true→blind oy.op=false→
   isAlloc oy.op=true∨ ∃p q,peekTmp oy.op=some p∧rootTmp ops y p=some q∧q∈peeks ops x:=by
  intro x y ox oy _ hy hne h1 h2 hs hb
  have hm:=pmates_spec ops.toList 0 y oy (look_spec hs).1 (by simpa using hy)
  have hneb:(0+y==x)=false:=by simpa using hne
  rw [hneb,Nat.zero_add,h1,h2,hb] at hm
  simp only [Bool.or_self,Bool.false_or,Bool.or_eq_true] at hm
  rcases hm with hm | hm
  ·exact .inl hm
  obtain ⟨q,hq⟩:=Option.isSome_iff_exists.1 hm
  have hq':=hq
  unfold peekRoot at hq'
  split at hq'
  case h_2=>cases hq'
  rename_i p hp
  refine .inr ⟨p,q,hp,hq',mem_peek ops.toList 0 y oy (by simpa using hy) (by rw [Nat.zero_add];exact hq) ?_⟩
  rw [hneb,Nat.zero_add,h1,h2];rfl
 /- what is beside such a call: it has no other effects -/
 have softAt: ∀{x y:Nat} {ox oy:Oper},ops[x]?=some ox→ops[y]?=some oy→y≠x→ordered (bef ops) x y=false→ordered (bef ops) y x=false→lookOk c ops x ox.op=true→blind oy.op=false→
   (isStore oy.op || isGrow oy.op)=false∧isCallV oy.op=false:=by
  intro x y ox oy h1 h2 h3 h4 h5 h6 h7
  rcases peekAt h1 h2 h3 h4 h5 h6 h7 with h | ⟨p,q,hp,_⟩
  ·exact alloc_soft h
  ·exact ⟨(peek_soft hp).2.1,(peek_soft hp).2.2⟩
 /- the box that is used up is no variable's that is laid aside -/
 have notId: ∀{x y:Nat} {ox oy:Oper},ops[y]?=some oy→asks oy.op=true→ordered (bef ops) y x=false→ ∀{bs:List Box} {k:Nat} {sh:Hd} {sz:Nat} {es:List AV},Box.at (maskB ops base x bs) k= .sl sh sz es→k≠idOf ops.toList y base:=by
  intro x y ox oy hy hask h1 bs k sh sz es hb e
  subst e
  have hmem:=mask_mem (b:=bef ops) (i:=x) ops.toList 0 base y oy (by simpa using hy) hask (by simpa using h1)
  unfold maskB at hb
  simp only [Box.at,List.getD_eq_getElem?_getD] at hb
  rw [killAll_get] at hb
  by_cases hl:idOf ops.toList y base<bs.length
  ·rw [if_pos ⟨hmem,hl⟩] at hb;cases hb
  ·rw [if_neg (fun e=>hl e.2),List.getElem?_eq_none (by omega)] at hb;cases hb
 by_cases hEa:wantedA ops s.t oa.guard=some true∧ ∃v k,doOp c (softF cf (appOk c ops a oa.op)) oa.op s.t (maskB ops base a s.b) (idOf ops.toList a base)=some (v,.eat k)∧eatOk c ops a oa.op=true∧((peeks ops a).all fun p=>offV k (s.t.get .any p))=true∧s1={t:=putA s.t oa.dst v,b:=s.b.set k .gone}
 ·obtain ⟨hwa,va,k,hda,hsa,hca,rfl⟩:=hEa
  obtain ⟨hnst,hncl⟩:=softAt hoa hoi (by omega) hai hia (look_eat hsa) hbi'
  have hst:storeOk ops i oi.op=false:=by unfold storeOk;rw [hnst];rfl
  have hap:appOk c ops i oi.op=false:=by unfold appOk;rw [own_not hncl];rfl
  have hea:eatOk c ops i oi.op=false:=by unfold eatOk;rw [eat_not hncl];rfl
  have hiE:isEat c oa.op=true:=by
   have h:=hsa
   simp only [eatOk,Bool.and_eq_true] at h
   exact h.1.1
  obtain ⟨sh,sz,es,hbk,_⟩:=eat_get hiE hda
  have goA: ∀v bs2,maskB ops base a bs2=maskB ops base a s.b→stepO c cf ops base a oa {t:=putA s.t oi.dst v,b:=bs2}=some {t:=putA (putA s.t oi.dst v) oa.dst va,b:=bs2.set k .gone}:=fun v bs2 hb2=>by
   unfold stepO
   simp only [(ha0 v [] 0).2,hwa,ala,hb2,(ha0 v _ _).1,hda,hsa,peeks_put (look_eat hsa) hoi,hca,Bool.and_self]
  rcases stepO_soft ali h2 with ⟨hw,rfl⟩ | ⟨hw,v,⟨hd,hro,rfl⟩ | ⟨y,hk,hde,hd,rfl⟩⟩ | ⟨_,_,_,_,_,⟨⟨h',_⟩,_⟩,_⟩ | ⟨_,_,_,_,h',_⟩ | ⟨_,_,_,_,h',_⟩
  ·simp only [(hi0 va [] 0).2] at hw
   refine ⟨{t:=putA s.t oi.dst (.tup []),b:=s.b},by unfold stepO;rw [hw],?_⟩
   rw [goA _ _ rfl,hput]
  ·simp only [(hi0 va [] 0).2] at hw
   simp only [(hi0 va _ _).1] at hd
   rw [root_put hoa hne hia hai q1] at hro
   have hd':doOp c (softF cf (appOk c ops i oi.op)) oi.op s.t (maskB ops base i s.b) (idOf ops.toList i base)=some (v,.none):=by
    rcases peekAt hoa hoi (by omega) hai hia (look_eat hsa) hbi' with h | ⟨p,q,hp,hq,hpm⟩
    ·rw [←hd];exact alloc_eq h _ _ _ _ _ _ _
    ·rw [←hd]
     unfold maskB
     refine (peek_off hp ?_ _).symm
     have h:=hro
     unfold rootOk at h
     rw [see_peek hp] at h
     simp only [hq,app_any hoa ala (look_eat hsa),Bool.not_true,Bool.false_or,Bool.and_eq_true] at h
     rw [offV_box h.1]
     rw [List.all_eq_true] at hca
     exact hca q hpm
   refine ⟨{t:=putA s.t oi.dst v,b:=s.b},by unfold stepO;simp only [hw,ali,hd',hro],?_⟩
   rw [goA _ _ rfl,hput]
  ·simp only [(hi0 va [] 0).2] at hw
   simp only [(hi0 va _ _).1] at hd
   have hal:isAlloc oi.op=true:=by
    rcases peekAt hoa hoi (by omega) hai hia (look_eat hsa) hbi' with h | ⟨p,q,hp,hq,hpm⟩
    ·exact h
    ·have:=(peek_soft hp).1;rw [hk] at this;cases this
   have hne2:k≠idOf ops.toList i base:=notId (ox:=oa) hoi hk hia hbk
   rw [alloc_eq hal _ (softF cf (appOk c ops i oi.op)) _ s.t _ (maskB ops base i s.b)] at hd
   rw [List.getElem?_set_ne hne2] at hde
   refine ⟨{t:=putA s.t oi.dst v,b:=s.b.set (idOf ops.toList i base) y},by unfold stepO;simp only [hw,ali,hd,hk,hde],?_⟩
   rw [goA _ _ (hmi hk _ _),hput,List.set_comm _ _ hne2]
  ·rw [hst] at h';cases h'
  ·rw [hap] at h';cases h'
  ·rw [hea] at h';cases h'
 by_cases hEi:wantedA ops s1.t oi.guard=some true∧ ∃v k,doOp c (softF cf (appOk c ops i oi.op)) oi.op s1.t (maskB ops base i s1.b) (idOf ops.toList i base)=some (v,.eat k)∧eatOk c ops i oi.op=true∧((peeks ops i).all fun p=>offV k (s1.t.get .any p))=true∧s2={t:=putA s1.t oi.dst v,b:=s1.b.set k .gone}
 ·obtain ⟨hwi,vi,k,hdi,hsi,hci,rfl⟩:=hEi
  obtain ⟨hnst,hncl⟩:=softAt hoi hoa (by omega) hia hai (look_eat hsi) hba'
  have hst:storeOk ops a oa.op=false:=by unfold storeOk;rw [hnst];rfl
  have hap:appOk c ops a oa.op=false:=by unfold appOk;rw [own_not hncl];rfl
  have hea:eatOk c ops a oa.op=false:=by unfold eatOk;rw [eat_not hncl];rfl
  have hiE:isEat c oi.op=true:=by
   have h:=hsi
   simp only [eatOk,Bool.and_eq_true] at h
   exact h.1.1
  obtain ⟨sh,sz,es,hbk,_⟩:=eat_get hiE hdi
  have main: ∀va bs1,s1={t:=putA s.t oa.dst va,b:=bs1}→maskB ops base i bs1=maskB ops base i s.b→stepO c cf ops base i oi s=some {t:=putA s.t oi.dst vi,b:=s.b.set k .gone}∧ ∀p∈peeks ops i,offV k (s.t.get .any p)=true:=by
   intro va bs1 e hb
   subst e
   simp only [(hi0 va [] 0).2] at hwi
   simp only [(hi0 va _ _).1,hb] at hdi
   rw [peeks_put (look_eat hsi) hoa] at hci
   refine ⟨?_,by rw [List.all_eq_true] at hci;exact hci⟩
   unfold stepO
   simp only [hwi,ali,hsi,hdi,hci,Bool.and_self]
  rcases stepO_soft ala h1 with ⟨hw,rfl⟩ | ⟨hw,v,⟨hd,hro,rfl⟩ | ⟨y,hk,hde,hd,rfl⟩⟩ | ⟨_,_,_,_,_,⟨⟨h',_⟩,_⟩,_⟩ | ⟨_,_,_,_,h',_⟩ | ⟨_,_,_,_,h',_⟩
  ·refine ⟨_,(main _ _ rfl rfl).1,?_⟩
   unfold stepO
   simp only [(ha0 vi [] 0).2,hw]
   rw [hput]
  ·obtain ⟨m1,m2⟩:=main _ _ rfl rfl
   refine ⟨_,m1,?_⟩
   have hd':doOp c (softF cf (appOk c ops a oa.op)) oa.op s.t (maskB ops base a (s.b.set k .gone)) (idOf ops.toList a base)=some (v,.none):=by
    rcases peekAt hoi hoa (by omega) hia hai (look_eat hsi) hba' with h | ⟨p,q,hp,hq,hpm⟩
    ·rw [←hd];exact alloc_eq h _ _ _ _ _ _ _
    ·rw [←hd]
     unfold maskB
     refine peek_off hp ?_ _
     have h:=hro
     unfold rootOk at h
     rw [see_peek hp] at h
     simp only [hq,app_any hoi ali (look_eat hsi),Bool.not_true,Bool.false_or,Bool.and_eq_true] at h
     rw [offV_box h.1]
     exact m2 q hpm
   unfold stepO
   simp only [(ha0 vi [] 0).2,hw,ala,(ha0 vi _ _).1,hd',root_put hoi hne' hai hia q3,hro]
   rw [hput]
  ·obtain ⟨m1,m2⟩:=main _ _ rfl (hma hk _ _)
   refine ⟨_,m1,?_⟩
   have hal:isAlloc oa.op=true:=by
    rcases peekAt hoi hoa (by omega) hia hai (look_eat hsi) hba' with h | ⟨p,q,hp,hq,hpm⟩
    ·exact h
    ·have:=(peek_soft hp).1;rw [hk] at this;cases this
   have hne2:k≠idOf ops.toList a base:=notId (ox:=oi) hoa hk hai hbk
   rw [alloc_eq hal _ (softF cf (appOk c ops a oa.op)) _ (putA s.t oi.dst vi) _ (maskB ops base a (s.b.set k .gone))] at hd
   have hde':(s.b.set k .gone)[idOf ops.toList a base]?=some .dead:=by rw [List.getElem?_set_ne hne2];exact hde
   unfold stepO
   simp only [(ha0 vi [] 0).2,hw,ala,hd,hk,hde']
   rw [hput,List.set_comm _ _ hne2]
  ·rw [hst] at h';cases h'
  ·rw [hap] at h';cases h'
  ·rw [hea] at h';cases h'
 have softI4:=stepO_soft4 ali h2 hEi
 have softA4:=stepO_soft4 ala h1 hEa
 /- a store beside what looks on: the one's step turns box k; the other one's is the same ahead of it and behind it -/
 have mateAt: ∀{x y:Nat} {ox oy:Oper},ops[x]?=some ox→ops[y]?=some oy→y≠x→ordered (bef ops) x y=false→ordered (bef ops) y x=false→storeOk ops x ox.op=true→blind oy.op=false→
   mateOk ops y ox.op oy.op=true∧ ∀p,loadTmp oy.op=some p→ ∃q,rootTmp ops y p=some q∧q∈nears ops x:=by
  intro x y ox oy _ hy hne h1 h2 hs hb
  have hs':=hs
  simp only [storeOk,Bool.and_eq_true] at hs'
  have hm:=mates_spec ops.toList 0 y oy hs'.1.2 (by simpa using hy)
  have hneb:(0+y==x)=false:=by simpa using hne
  rw [hneb,Nat.zero_add,h1,h2] at hm
  have hm':mateOk ops y ox.op oy.op=true:=by simpa using hm
  refine ⟨hm',fun p hp=> ?_⟩
  obtain ⟨hb1,hl1,hx1⟩:=load_blind hp
  have hm2:=hm'
  unfold mateOk at hm2
  rw [hb1,hl1,hx1] at hm2
  simp only [Bool.false_and,Bool.or_self,Bool.false_or] at hm2
  cases hr:loadRoot ops y oy.op with
  | none=>rw [hr] at hm2;cases hm2
  | some q=>
   obtain ⟨p',hp',hq⟩:=load_root hr
   rw [hp] at hp';cases hp'
   refine ⟨q,hq,mem_near ops.toList 0 y oy (by simpa using hy) (by rw [Nat.zero_add];exact hr) ?_⟩
   rw [hneb,Nat.zero_add,h1,h2];rfl
 have storeAt: ∀{x:Nat} {ox:Oper} {t:Env} {bs:List Box} {v:AV} {k:Nat} {y:Box},okBox ox.op y=true→doOp c (softF cf (appOk c ops x ox.op)) ox.op t (maskB ops base x bs) (idOf ops.toList x base)=some (v,.upd k y)→isStore ox.op=true→ ∃ty' cs',Box.at bs k= .var ty' cs':=by
  intro x ox t bs v k y hy hd hst
  obtain ⟨ty,cs,rfl⟩: ∃ty cs,y= .var ty cs:=by
   cases y with
   | var ty cs=>exact ⟨ty,cs,rfl⟩
   | sl sh sz es=>
    exfalso
    cases ho:ox.op <;> rw [ho] at hst hy <;> simp only [isStore,Bool.false_eq_true] at hst
    cases hy
   | dead=>cases hy
   | loop st=>cases hy
   | mp es clock=>cases hy
   | gone=>cases hy
   | iter o=>cases hy
  obtain ⟨ty',cs',hv⟩:=store_upd hst hd k ty cs rfl
  exact ⟨ty',cs',(killAll_sub _ bs).var hv⟩
 by_cases hSa:wantedA ops s.t oa.guard=some true∧ ∃v k y,doOp c (softF cf (appOk c ops a oa.op)) oa.op s.t (maskB ops base a s.b) (idOf ops.toList a base)=some (v,.upd k y)∧((storeOk ops a oa.op=true∧okBox oa.op y=true)∧rootOk c ops a oa.op s.t=true)∧((nears ops a).all fun p=>calmV k (s.t.get .any p))=true∧s1={t:=putA s.t oa.dst v,b:=s.b.set k y}
 ·obtain ⟨hwa,va,k,y,hda,⟨⟨hsa,hya⟩,hra⟩,hca,rfl⟩:=hSa
  have hga:=grow_any hoa ala hsa
  obtain ⟨hmate,hnear⟩:=mateAt hoa hoi (by omega) hai hia hsa hbi'
  obtain ⟨hask,hncl⟩:=mate_soft hmate hbi'
  have hvar:=storeAt hya hda
  have hcp:rootOk c ops i oi.op s.t=true→ ∀p,loadTmp oi.op=some p→calmV k (s.t.get .any p)=true:=fun hr p hp=>by
   obtain ⟨q,hq,hqn⟩:=hnear p hp
   rw [List.all_eq_true] at hca
   exact root_calm hga hr hp hq (hca q hqn)
  have goA: ∀v,stepO c cf ops base a oa {t:=putA s.t oi.dst v,b:=s.b}=some {t:=putA (putA s.t oi.dst v) oa.dst va,b:=s.b.set k y}:=fun v=>by
   unfold stepO
   simp only [(ha0 v [] 0).2,hwa,ala,(ha0 v _ _).1,hda,hsa,hya,root_put hoi hne' hai hia q3,hra,nears_put hsa hoi hne' hai hia,hca,Bool.and_self]
  rcases softI4 with ⟨hw,rfl⟩ | ⟨hw,v,⟨hd,hro,rfl⟩ | ⟨x,hk,_⟩⟩ | ⟨hw,v,k',y',hd,⟨⟨hs',_⟩,hrr⟩,_⟩ | ⟨_,_,_,_,hap',_⟩
  ·simp only [(hi0 va [] 0).2] at hw
   refine ⟨{t:=putA s.t oi.dst (.tup []),b:=s.b},by unfold stepO;rw [hw],?_⟩
   rw [goA,hput]
  ·simp only [(hi0 va [] 0).2] at hw
   simp only [(hi0 va _ _).1] at hd
   unfold maskB at hd
   rw [root_put hoa hne hia hai q1] at hro
   rw [mate_calm hmate hbi' hya hvar (hcp hro)] at hd
   refine ⟨{t:=putA s.t oi.dst v,b:=s.b},by unfold stepO maskB;simp only [hw,ali,hd,hro],?_⟩
   rw [goA,hput]
  ·rw [hask] at hk;cases hk
  ·simp only [storeOk,Bool.and_eq_true] at hs'
   simp only [(hi0 va [] 0).2] at hw
   simp only [(hi0 va _ _).1] at hd
   rw [root_put hoa hne hia hai q1] at hrr
   rw [mate_noupd hmate hbi' (hcp hrr) hd] at hs'
   exact absurd hs'.1.1 (by simp)
  ·simp only [appOk,own_not hncl,Bool.false_and,Bool.false_eq_true] at hap'
 by_cases hSi:wantedA ops s1.t oi.guard=some true∧ ∃v k y,doOp c (softF cf (appOk c ops i oi.op)) oi.op s1.t (maskB ops base i s1.b) (idOf ops.toList i base)=some (v,.upd k y)∧((storeOk ops i oi.op=true∧okBox oi.op y=true)∧rootOk c ops i oi.op s1.t=true)∧((nears ops i).all fun p=>calmV k (s1.t.get .any p))=true∧s2={t:=putA s1.t oi.dst v,b:=s1.b.set k y}
 ·obtain ⟨hwi,vi,k,y,hdi,⟨⟨hsi,hyi⟩,hri⟩,hci,rfl⟩:=hSi
  have hgi:=grow_any hoi ali hsi
  obtain ⟨hmate,hnear⟩:=mateAt hoi hoa (by omega) hia hai hsi hba'
  obtain ⟨hask,hncl⟩:=mate_soft hmate hba'
  have hvar:=storeAt hyi hdi
  have main: ∀va,s1={t:=putA s.t oa.dst va,b:=s.b}→stepO c cf ops base i oi s=some {t:=putA s.t oi.dst vi,b:=s.b.set k y}:=by
   intro va e
   subst e
   simp only [(hi0 va [] 0).2] at hwi
   simp only [(hi0 va _ _).1] at hdi
   rw [nears_put hsi hoa hne hia hai] at hci
   rw [root_put hoa hne hia hai q1] at hri
   unfold stepO
   simp only [hwi,ali,hdi,hsi,hyi,hri,hci,Bool.and_self]
  rcases softA4 with ⟨hw,rfl⟩ | ⟨hw,v,⟨hd,hro,rfl⟩ | ⟨x,hk,_⟩⟩ | hh | ⟨_,_,_,_,hap',_⟩
  rotate_right
  ·simp only [appOk,own_not hncl,Bool.false_and,Bool.false_eq_true] at hap'
  ·refine ⟨_,main _ rfl,?_⟩
   unfold stepO
   simp only [(ha0 vi [] 0).2,hw]
   rw [hput]
  ·refine ⟨_,main _ rfl,?_⟩
   have hcp': ∀p,loadTmp oa.op=some p→calmV k (s.t.get .any p)=true:=fun p hp=>by
    obtain ⟨q,hq,hqn⟩:=hnear p hp
    rw [nears_put hsi hoa hne hia hai,List.all_eq_true] at hci
    exact root_calm hgi hro hp hq (hci q hqn)
   have hd':=mate_calm (c:=c) (cf:=softF cf (appOk c ops a oa.op)) (x:=y) (ms:=maskIds (bef ops) a ops.toList 0 base) hmate hba' hyi hvar hcp' (idOf ops.toList a base)
   unfold maskB at hd
   rw [hd] at hd'
   unfold stepO maskB
   simp only [(ha0 vi [] 0).2,hw,ala,(ha0 vi _ _).1,hd',root_put hoi hne' hai hia q3,hro]
   rw [hput]
  ·rw [hask] at hk;cases hk
  ·exact absurd hh hSa
 by_cases hPa:wantedA ops s.t oa.guard=some true∧ ∃v x,doOp c (softF cf (appOk c ops a oa.op)) oa.op s.t (maskB ops base a s.b) (idOf ops.toList a base)=some (v,.app x)∧appOk c ops a oa.op=true∧((peeks ops a).all fun p=>lowV s.b.length (s.t.get .any p))=true∧s1={t:=putA s.t oa.dst v,b:=s.b++ [x]}
 ·obtain ⟨hwa,va,x,hda,hsa,hca,rfl⟩:=hPa
  rcases peekAt hoa hoi (by omega) hai hia (look_app hsa) hbi' with hal | ⟨p,q,hp,hq,hpm⟩
  ·obtain ⟨hnst,hncl⟩:=alloc_soft hal
   have hxd:x≠ .dead:=app_box (own_call (by
    have h:=hsa
    simp only [appOk,Bool.and_eq_true] at h
    exact h.1.1)) hda
   have goA: ∀v bs2,maskB ops base a bs2=maskB ops base a s.b→bs2.length=s.b.length→stepO c cf ops base a oa {t:=putA s.t oi.dst v,b:=bs2}=some {t:=putA (putA s.t oi.dst v) oa.dst va,b:=bs2++ [x]}:=fun v bs2 hb2 hb3=>by
    unfold stepO
    rw [hsa] at hda
    simp only [(ha0 v [] 0).2,hwa,ala,hsa,hb2,hb3,(ha1 (softF cf true) v _ _).1,hda,peeks_put (look_app hsa) hoi,hca,Bool.and_self]
   rcases softI4 with ⟨hw,rfl⟩ | ⟨hw,v,⟨hd,hro,rfl⟩ | ⟨y,hk,hde,hd,rfl⟩⟩ | ⟨_,_,_,_,_,⟨⟨h',_⟩,_⟩,_⟩ | ⟨_,_,_,_,h',_⟩
   ·simp only [(hi0 va [] 0).2] at hw
    refine ⟨{t:=putA s.t oi.dst (.tup []),b:=s.b},by unfold stepO;rw [hw],?_⟩
    rw [goA _ _ rfl rfl,hput]
   ·simp only [(hi0 va [] 0).2] at hw
    rw [root_put hoa hne hia hai q1] at hro
    rw [alloc_eq hal _ (softF cf (appOk c ops i oi.op)) _ s.t _ (maskB ops base i s.b)] at hd
    refine ⟨{t:=putA s.t oi.dst v,b:=s.b},by unfold stepO;simp only [hw,ali,hd,hro],?_⟩
    rw [goA _ _ rfl rfl,hput]
   ·simp only [(hi0 va [] 0).2] at hw
    rw [alloc_eq hal _ (softF cf (appOk c ops i oi.op)) _ s.t _ (maskB ops base i s.b)] at hd
    have hlt:idOf ops.toList i base<s.b.length:=by
     rcases Nat.lt_or_ge (idOf ops.toList i base) s.b.length with h | h
     ·exact h
     ·simp only at hde
      rw [List.getElem?_append_right h] at hde
      rcases hz:idOf ops.toList i base-s.b.length with _ | n
      ·rw [hz] at hde
       simp only [List.getElem?_cons_zero,Option.some.injEq] at hde
       exact absurd hde hxd
      ·rw [hz] at hde
       simp at hde
    simp only at hde
    rw [List.getElem?_append_left hlt] at hde
    refine ⟨{t:=putA s.t oi.dst v,b:=s.b.set (idOf ops.toList i base) y},by unfold stepO;simp only [hw,ali,hd,hk,hde],?_⟩
    rw [goA _ _ (hmi hk _ _) (List.length_set ..),hput]
    simp only
    rw [List.set_append_left _ _ hlt]
   ·simp only [storeOk,hnst,Bool.false_and,Bool.false_eq_true] at h'
   ·simp only [appOk,own_not hncl,Bool.false_and,Bool.false_eq_true] at h'
  obtain ⟨hask,hnst,hncl⟩:=peek_soft hp
  have hcq:lowV s.b.length (s.t.get .any q)=true:=by
   rw [List.all_eq_true] at hca;exact hca q hpm
  have hany:=app_any hoa ala (look_app hsa)
  have hcp:rootOk c ops i oi.op s.t=true→lowV s.b.length (s.t.get .any p)=true:=fun h=>by
   unfold rootOk at h
   rw [see_peek hp] at h
   simp only [hq,hany,Bool.not_true,Bool.false_or,Bool.and_eq_true] at h
   have h:=h.1
   rw [lowV_box h]
   exact hcq
  have goA: ∀v,stepO c cf ops base a oa {t:=putA s.t oi.dst v,b:=s.b}=some {t:=putA (putA s.t oi.dst v) oa.dst va,b:=s.b++ [x]}:=fun v=>by
   unfold stepO
   rw [hsa] at hda
   simp only [(ha0 v [] 0).2,hwa,ala,hsa,(ha1 (softF cf true) v _ _).1,hda,peeks_put (look_app hsa) hoi,hca,Bool.and_self]
  rcases softI4 with ⟨hw,rfl⟩ | ⟨hw,v,⟨hd,hro,rfl⟩ | ⟨y,hk,_⟩⟩ | ⟨hw,v,k',y',hd,⟨⟨hs',_⟩,hrr⟩,_⟩ | ⟨_,_,_,_,hap',_⟩
  ·simp only [(hi0 va [] 0).2] at hw
   refine ⟨{t:=putA s.t oi.dst (.tup []),b:=s.b},by unfold stepO;rw [hw],?_⟩
   rw [goA,hput]
  ·simp only [(hi0 va [] 0).2] at hw
   simp only [(hi0 va _ _).1] at hd
   unfold maskB at hd
   rw [root_put hoa hne hia hai q1] at hro
   rw [peek_calm hp (hcp hro)] at hd
   refine ⟨{t:=putA s.t oi.dst v,b:=s.b},by unfold stepO maskB;simp only [hw,ali,hd,hro],?_⟩
   rw [goA,hput]
  ·rw [hask] at hk;cases hk
  ·simp only [storeOk,Bool.and_eq_true] at hs'
   rw [hnst] at hs'
   exact absurd hs'.1.1 (by simp)
  ·simp only [appOk,own_not hncl,Bool.false_and,Bool.false_eq_true] at hap'
 by_cases hPi:wantedA ops s1.t oi.guard=some true∧ ∃v x,doOp c (softF cf (appOk c ops i oi.op)) oi.op s1.t (maskB ops base i s1.b) (idOf ops.toList i base)=some (v,.app x)∧appOk c ops i oi.op=true∧((peeks ops i).all fun p=>lowV s1.b.length (s1.t.get .any p))=true∧s2={t:=putA s1.t oi.dst v,b:=s1.b++ [x]}
 ·obtain ⟨hwi,vi,x,hdi,hsi,hci,rfl⟩:=hPi
  rcases peekAt hoi hoa (by omega) hia hai (look_app hsi) hba' with hal | ⟨p,q,hp,hq,hpm⟩
  ·obtain ⟨hnst,hncl⟩:=alloc_soft hal
   have main: ∀va bs1,s1={t:=putA s.t oa.dst va,b:=bs1}→maskB ops base i bs1=maskB ops base i s.b→bs1.length=s.b.length→stepO c cf ops base i oi s=some {t:=putA s.t oi.dst vi,b:=s.b++ [x]}:=by
    intro va bs1 e hb hb2
    subst e
    simp only [(hi0 va [] 0).2] at hwi
    simp only [(hi0 va _ _).1,hb] at hdi
    rw [peeks_put (look_app hsi) hoa] at hci
    simp only [hb2] at hci
    unfold stepO
    rw [hsi] at hdi
    simp only [hwi,ali,hsi,hdi,hci,Bool.and_self]
   rcases softA4 with ⟨hw,rfl⟩ | ⟨hw,v,⟨hd,hro,rfl⟩ | ⟨y,hk,hde,hd,rfl⟩⟩ | ⟨_,_,_,_,_,⟨⟨h',_⟩,_⟩,_⟩ | ⟨_,_,_,_,h',_⟩
   ·refine ⟨_,main _ _ rfl rfl rfl,?_⟩
    unfold stepO
    simp only [(ha0 vi [] 0).2,hw]
    rw [hput]
   ·refine ⟨_,main _ _ rfl rfl rfl,?_⟩
    rw [alloc_eq hal _ (softF cf (appOk c ops a oa.op)) _ (putA s.t oi.dst vi) _ (maskB ops base a (s.b++ [x]))] at hd
    unfold stepO
    simp only [(ha0 vi [] 0).2,hw,ala,hd,root_put hoi hne' hai hia q3,hro]
    rw [hput]
   ·refine ⟨_,main _ _ rfl (hma hk _ _) (List.length_set ..),?_⟩
    rw [alloc_eq hal _ (softF cf (appOk c ops a oa.op)) _ (putA s.t oi.dst vi) _ (maskB ops base a (s.b++ [x]))] at hd
    have hlt:idOf ops.toList a base<s.b.length:=by
     rcases Nat.lt_or_ge (idOf ops.toList a base) s.b.length with h | h
     ·exact h
     ·rw [List.getElem?_eq_none h] at hde;cases hde
    have hde':(s.b++ [x])[idOf ops.toList a base]?=some .dead:=by rw [List.getElem?_append_left hlt];exact hde
    unfold stepO
    simp only [(ha0 vi [] 0).2,hw,ala,hd,hk,hde']
    rw [hput,List.set_append_left _ _ hlt]
   ·simp only [storeOk,hnst,Bool.false_and,Bool.false_eq_true] at h'
   ·simp only [appOk,own_not hncl,Bool.false_and,Bool.false_eq_true] at h'
  obtain ⟨hask,hnst,hncl⟩:=peek_soft hp
  have main: ∀va,s1={t:=putA s.t oa.dst va,b:=s.b}→stepO c cf ops base i oi s=some {t:=putA s.t oi.dst vi,b:=s.b++ [x]}∧lowV s.b.length (s.t.get .any q)=true:=by
   intro va e
   subst e
   simp only [(hi0 va [] 0).2] at hwi
   simp only [(hi0 va _ _).1] at hdi
   rw [peeks_put (look_app hsi) hoa] at hci
   refine ⟨?_,?_⟩
   ·unfold stepO
    rw [hsi] at hdi
    simp only [hwi,ali,hsi,hdi,hci,Bool.and_self]
   ·rw [List.all_eq_true] at hci;exact hci q hpm
  rcases softA4 with ⟨hw,rfl⟩ | ⟨hw,v,⟨hd,hro,rfl⟩ | ⟨y,hk,_⟩⟩ | hh | ⟨_,_,_,_,hap',_⟩
  ·refine ⟨_,(main _ rfl).1,?_⟩
   unfold stepO
   simp only [(ha0 vi [] 0).2,hw]
   rw [hput]
  ·obtain ⟨m1,m2⟩:=main _ rfl
   refine ⟨_,m1,?_⟩
   have m2:lowV s.b.length (s.t.get .any p)=true:=by
    have h:=hro
    unfold rootOk at h
    rw [see_peek hp] at h
    simp only [hq,app_any hoi ali (look_app hsi),Bool.not_true,Bool.false_or,Bool.and_eq_true] at h
    have h:=h.1
    rw [lowV_box h]
    exact m2
   have hd':=peek_calm (c:=c) (cf:=softF cf (appOk c ops a oa.op)) (x:=x) (ms:=maskIds (bef ops) a ops.toList 0 base) hp m2 (idOf ops.toList a base)
   unfold maskB at hd
   rw [hd] at hd'
   unfold stepO maskB
   simp only [(ha0 vi [] 0).2,hw,ala,(ha0 vi _ _).1,hd',root_put hoi hne' hai hia q3,hro]
   rw [hput]
  ·rw [hask] at hk;cases hk
  ·exact absurd hh hSa
  ·simp only [appOk,own_not hncl,Bool.false_and,Bool.false_eq_true] at hap'
 /- the second operation, taken first -/
 have goI: ∀(va:AV) (bs1:List Box),s1={t:=putA s.t oa.dst va,b:=bs1}→maskB ops base i bs1=maskB ops base i s.b→(asks oi.op=true→bs1[idOf ops.toList i base]?=s.b[idOf ops.toList i base]?)→
   ∃(vi:AV) (f:List Box→List Box),stepO c cf ops base i oi s=some {t:=putA s.t oi.dst vi,b:=f s.b}∧s2={t:=putA (putA s.t oa.dst va) oi.dst vi,b:=f bs1}∧
    (f=id∨(asks oi.op=true∧ ∃y,f=fun bs=>bs.set (idOf ops.toList i base) y)):=by
  intro va bs1 hs1 hmask hdead
  subst hs1
  rcases softI4 with ⟨hw,rfl⟩ | ⟨hw,v,⟨hd,hro,rfl⟩ | ⟨x,hask,hde,hd,rfl⟩⟩ | hh | hh
  case' inr.inr.inl=>exact absurd hh hSi
  case' inr.inr.inr=>exact absurd hh hPi
  ·simp only at hw
   rw [(hi0 va [] 0).2] at hw
   exact ⟨.tup [],id,by unfold stepO;rw [hw];rfl,rfl,.inl rfl⟩
  ·simp only at hw hd
   rw [(hi0 va [] 0).2] at hw
   rw [(hi0 va _ _).1,hmask] at hd
   have hro':rootOk c ops i oi.op s.t=true:=by rw [←root_put hoa hne hia hai q1];exact hro
   exact ⟨v,id,by unfold stepO;rw [hw,ali];simp only [hd,hro'];rfl,rfl,.inl rfl⟩
  ·simp only at hw hd hde
   rw [(hi0 va [] 0).2] at hw
   rw [(hi0 va _ _).1,hmask] at hd
   rw [hdead hask] at hde
   exact ⟨v,fun bs=>bs.set (idOf ops.toList i base) x,by unfold stepO;rw [hw,ali];simp only [hd,hask,hde],rfl,.inr ⟨hask,x,rfl⟩⟩
 /- the first operation, taken second -/
 have fin: ∀(vi:AV) (f:List Box→List Box),(f=id∨(asks oi.op=true∧ ∃y,f=fun bs=>bs.set (idOf ops.toList i base) y))→ ∀(va:AV) (h:List Box→List Box),(h=id∨(asks oa.op=true∧ ∃x,h=fun bs=>bs.set (idOf ops.toList a base) x))→
   ({t:=putA (putA s.t oa.dst va) oi.dst vi,b:=f (h s.b)}:St)={t:=putA (putA s.t oi.dst vi) oa.dst va,b:=h (f s.b)}:=by
  intro vi f hf va h hh
  rw [hput va vi]
  congr 1
  rcases hf with rfl | ⟨hai',y,rfl⟩ <;> rcases hh with rfl | ⟨haa,x,rfl⟩ <;> try rfl
  simp only
  exact List.set_comm _ _ (hidn haa)
 have maskF: ∀(f:List Box→List Box),(f=id∨(asks oi.op=true∧ ∃y,f=fun bs=>bs.set (idOf ops.toList i base) y))→maskB ops base a (f s.b)=maskB ops base a s.b:=fun f hf=>by
  rcases hf with rfl | ⟨h,y,rfl⟩
  ·rfl
  ·exact hmi h s.b y
 rcases softA4 with ⟨hw,hs1⟩ | ⟨hw,va,⟨hd,hro,hs1⟩ | ⟨x,hask,hde,hd,hs1⟩⟩ | hh | hh
 case' inr.inr.inl=>exact absurd hh hSa
 case' inr.inr.inr=>exact absurd hh hPa
 ·obtain ⟨vi,f,k1,k2,k3⟩:=goI _ _ hs1 rfl (fun _=>rfl)
  refine ⟨_,k1,?_⟩
  unfold stepO
  simp only
  rw [(ha0 vi [] 0).2,hw]
  simp only
  rw [k2]
  exact congrArg some (fin vi f k3 (.tup []) id (.inl rfl)).symm
 ·obtain ⟨vi,f,k1,k2,k3⟩:=goI _ _ hs1 rfl (fun _=>rfl)
  refine ⟨_,k1,?_⟩
  unfold stepO
  simp only
  rw [(ha0 vi [] 0).2,hw,ala]
  simp only
  rw [(ha0 vi _ _).1,maskF f k3,hd]
  simp only [root_put hoi hne' hai hia q3,hro]
  rw [k2]
  exact congrArg some (fin vi f k3 va id (.inl rfl)).symm
 ·obtain ⟨vi,f,k1,k2,k3⟩:=goI _ _ hs1 (hma hask s.b x) (fun _=>by rw [List.getElem?_set,if_neg (hidn hask)])
  refine ⟨_,k1,?_⟩
  unfold stepO
  simp only
  rw [(ha0 vi [] 0).2,hw,ala]
  simp only
  rw [(ha0 vi _ _).1,maskF f k3,hd]
  have hde':(f s.b)[idOf ops.toList a base]?=some .dead:=by
   rcases k3 with rfl | ⟨hai',y,rfl⟩
   ·exact hde
   ·simp only;rw [List.getElem?_set,if_neg (fun e=>hidn hask e.symm)];exact hde
  simp only [hask,hde']
  rw [k2]
  exact congrArg some (fin vi f k3 va (fun bs=>bs.set (idOf ops.toList a base) x) (.inr ⟨hask,x,rfl⟩)).symm
def steps (c:Cfg) (cf:CallF) (ops:Array Oper) (base:Nat):List Nat→St→Option St
 | [],s=>some s
 | i::r,s=>match ops[i]? with
  | some o=>match stepO c cf ops base i o s with
   | some s'=>steps c cf ops base r s'
   | none=>none
  | none=>none
theorem steps_of_run: ∀(l:List Oper) (k:Nat) (s:St),(∀j,l[j]?=ops[k+j]?)→runD c cf ops base l k s=steps c cf ops base (List.range' k l.length) s
 | [],k,s,_=>rfl
 | o::r,k,s,h=>by
  have h0:ops[k]?=some o:=by simpa using (h 0).symm
  simp only [runD,List.length_cons,List.range'_succ,steps,h0]
  cases hs:stepO c cf ops base k o s with
  | none=>rfl
  | some s'=>
   simp only
   exact steps_of_run r (k+1) s' (fun j=>by have:=h (j+1);simpa [Nat.add_assoc,Nat.add_comm 1 j] using this)
theorem take_first {i:Nat} {oi:Oper} (hoi:ops[i]?=some oi): ∀(A B:List Nat) (s s':St),(∀a∈A,a<i∧ordered (bef ops) a i=false∧ordered (bef ops) i a=false∧ ∀oa,ops[a]?=some oa→oa.apart ops oi=true)→
  steps c cf ops base (A++i::B) s=some s'→ ∃s1,stepO c cf ops base i oi s=some s1∧steps c cf ops base (A++B) s1=some s'
 | [],B,s,s',_,h=>by
  simp only [List.nil_append,steps,hoi] at h
  split at h
  ·rename_i s1 hs1;exact ⟨s1,hs1,h⟩
  ·cases h
 | a::A,B,s,s',hA,h=>by
  simp only [List.cons_append,steps] at h
  split at h
  ·rename_i oa hoa
   split at h
   ·rename_i s1 hs1
    obtain ⟨s2,h2,h3⟩:=take_first hoi A B s1 s' (fun x hx=>hA x (List.mem_cons_of_mem _ hx)) h
    obtain ⟨q1,q2,q3,q4⟩:=hA a List.mem_cons_self
    obtain ⟨s1',k1,k2⟩:=comm hoa hoi q1 (q4 oa hoa) q2 q3 hs1 h2
    exact ⟨s1',k1,by simp only [List.cons_append,steps,hoa,k2];exact h3⟩
   ·cases h
  ·cases h
variable {P:Program} [Kn]
theorem draw_any (hc:CfgTy c P) (hcf:CfOk P cf) (hov:OvAll P c) (hdr:drawOk ops=true) {Q:Exit→Act→World→Prop} {s':St} {g0:Gh} {w0:World} {ds:List Deferred} {ro:Option Nat}
  (hQ: ∀a' w',SPost ds g0 w0 s' a' w'→Q .normal a' w'):
  ∀(fuel:Nat) (L:List Nat) (listed:Array Bool) (s:St) (g:Gh) (w:World) (a:Act),L.length=fuel→L.Pairwise (· < ·)→listed.size=ops.size→(∀j,j∈L↔j<ops.size∧listed.getD j true=false)→
   (∀j x,j<ops.size→listed.getD j true=true→ordered (bef ops) x j=true→listed.getD x true=true)→
   steps c cf ops base L s=some s'→Mem g s.b w→TRel g w s.t a→a.defers=ds→Le g0 w0 g w→Fr g0 w0 g w→wpAnyIn (FW ro) 0 P .any ops Q fuel listed a w:=by
 simp only [drawOk,Bool.and_eq_true] at hdr
 obtain ⟨hback,hpairs⟩:=hdr
 intro fuel
 induction fuel with
 | zero=>
  intro L listed s g w a hlen hsort hsize hmem hcl h hm ht hd hl hf
  have hL:L= []:=List.eq_nil_of_length_eq_zero hlen
  subst hL
  cases h
  refine ⟨?_,hQ a w ⟨hd,g,hm,ht,hl,hf⟩⟩
  unfold Region.ready
  rw [List.filter_eq_nil_iff]
  intro j hj hr
  rw [List.mem_range] at hj
  simp only [Bool.and_eq_true,Bool.not_eq_true'] at hr
  exact absurd ((hmem j).2 ⟨hj,hr.1⟩) (by simp)
 | succ fuel ih=>
  intro L listed s g w a hlen hsort hsize hmem hcl h hm ht hd hl hf
  refine ⟨fun hr=> ?_,fun i hi=> ?_⟩
  ·exfalso
   cases L with
   | nil=>simp at hlen
   | cons i0 L=>
    obtain ⟨h1,h2⟩:=(hmem i0).1 List.mem_cons_self
    have:i0∈Region.ready .any ops listed:=by
     unfold Region.ready
     rw [List.mem_filter,List.mem_range]
     refine ⟨h1,?_⟩
     have ho:ops[i0]?=some ops[i0]:=by simp [h1]
     simp only [h2,ho,Option.map_some,Option.getD_some,Bool.not_false,Bool.true_and,Array.all_eq_true_iff_forall_mem]
     intro e he
     cases hb:Region.binds .any e with
     | false=>rfl
     | true=>
      have hlt:=edges_back ops.toList 0 i0 ops[i0] hback (by simp [h1]) e he hb
      simp only [Nat.zero_add] at hlt
      have hlis:listed.getD e.on true=true:=by
       cases hx:listed.getD e.on true with
       | true=>rfl
       | false=>
        have hin:=(hmem e.on).2 ⟨by omega,hx⟩
        rcases List.mem_cons.1 hin with rfl | hin
        ·omega
        ·have:=List.rel_of_pairwise_cons hsort hin
         omega
      have hsz:e.on<listed.size:=by omega
      simp [hsz] at hlis⊢
      exact hlis
    rw [hr] at this
    cases this
  ·unfold Region.ready at hi
   rw [List.mem_filter,List.mem_range] at hi
   obtain ⟨hisz,hi⟩:=hi
   simp only [Bool.and_eq_true,Bool.not_eq_true'] at hi
   obtain ⟨hun,hrd⟩:=hi
   have hoi:ops[i]?=some ops[i]:=by simp [hisz]
   rw [hoi] at hrd
   simp only [Option.map_some,Option.getD_some,Array.all_eq_true_iff_forall_mem] at hrd
   have hall: ∀x,ordered (bef ops) x i=true→listed.getD x true=true:=fun x hx=>by
    obtain ⟨e,he,hb,h3⟩:=ordered_edge hback hoi hx
    have h4:=hrd e he
    rw [hb] at h4
    have hlt:=edges_back ops.toList 0 i ops[i] hback (by simp [hisz]) e he hb
    simp only [Nat.zero_add] at hlt
    have hsz:e.on<listed.size:=by omega
    have h5:listed.getD e.on true=true:=by simp [hsz] at h4⊢;exact h4
    rcases h3 with rfl | h3
    ·exact h5
    ·exact hcl e.on x (by omega) h5 h3
   obtain ⟨A,B,rfl⟩:=List.append_of_mem ((hmem i).2 ⟨hisz,hun⟩)
   have hA: ∀x∈A,x<i∧ordered (bef ops) x i=false∧ordered (bef ops) i x=false∧ ∀ox,ops[x]?=some ox→ox.apart ops ops[i]=true:=fun x hx=>by
    have hlt:x<i:=(List.pairwise_append.1 hsort).2.2 x hx i List.mem_cons_self
    obtain ⟨hxs,hxu⟩:=(hmem x).1 (List.mem_append_left _ hx)
    have h1:ordered (bef ops) x i=false:=by
     cases hh:ordered (bef ops) x i with
     | false=>rfl
     | true=>rw [hall x hh] at hxu;cases hxu
    have h2:ordered (bef ops) i x=false:=by
     cases hh:ordered (bef ops) i x with
     | false=>rfl
     | true=>have:=ordered_lt hback x i hxs hh;omega
    refine ⟨hlt,h1,h2,fun ox hox=> ?_⟩
    have:=all_spec ops.toList 0 x i ox ops[i] hpairs (by simpa using hox) hlt (by simp [hisz])
    simp only [Nat.zero_add,h1,Bool.false_eq_true,false_or] at this
    exact this
   obtain ⟨s1,h1,h2⟩:=take_first hoi A B s s' hA h
   have next: ∀(g':Gh) (w':World) (a':Act),Mem g' s1.b w'→TRel g' w' s1.t a'→a'.defers=ds→Le g0 w0 g' w'→Fr g0 w0 g' w'→wpAnyIn (FW ro) 0 P .any ops Q fuel (listed.setIfInBounds i true) a' w':=fun g' w' a' hm' ht' hd' hl' hf'=>by
    refine ih (A++B) (listed.setIfInBounds i true) s1 g' w' a' (by simp at hlen⊢;omega) ?_ (by simp [hsize]) (fun j=> ?_) (fun j x hj hlj hx=> ?_) h2 hm' ht' hd' hl' hf'
    ·exact hsort.sublist (List.Sublist.append_left (List.sublist_cons_self i B) A)
    ·have hj:=hmem j
     have hnd:i∉A∧i∉B:=by
      obtain ⟨p1,p2,p3⟩:=List.pairwise_append.1 hsort
      refine ⟨fun hx=> ?_,fun hx=> ?_⟩
      ·have:=p3 i hx i List.mem_cons_self;omega
      ·have:=List.rel_of_pairwise_cons p2 hx;omega
     by_cases e:j=i
     ·subst e
      have hjs:j<listed.size:=by omega
      simp [hnd.1,hnd.2,hjs]
     ·rw [List.mem_append,List.mem_cons] at hj
      have hg:(listed.setIfInBounds i true).getD j true=listed.getD j true:=by
       simp [Array.getD_eq_getD_getElem?,Array.getElem?_setIfInBounds_ne (Ne.symm e)]
      rw [hg,List.mem_append,←hj]
      constructor
      ·rintro (hx | hx)
       ·exact .inl hx
       ·exact .inr (.inr hx)
      ·rintro (hx | rfl | hx)
       ·exact .inl hx
       ·exact absurd rfl e
       ·exact .inr hx
    ·have hset: ∀y,listed.getD y true=true→(listed.setIfInBounds i true).getD y true=true:=fun y hy=>by
      by_cases e:y=i
      ·subst e
       have hys:y<listed.size:=by omega
       simp [hys]
      ·simp only [Array.getD_eq_getD_getElem?] at hy⊢
       rw [Array.getElem?_setIfInBounds_ne (Ne.symm e)];exact hy
     by_cases e:j=i
     ·subst e;exact hset x (hall x hx)
     ·have hg:listed.getD j true=true:=by
       simp only [Array.getD_eq_getD_getElem?] at hlj⊢
       rwa [Array.getElem?_setIfInBounds_ne (Ne.symm e)] at hlj
      exact hset x (hcl j x hj hg hx)
   unfold wpOpIn
   rw [hoi]
   simp only
   unfold stepO at h1
   split at h1
   ·rename_i hw
    rw [wanted_run ht hw,if_pos rfl]
    split at h1
    ·split at h1
     ·rename_i v e hop
      split at h1
      ·rename_i bs' he
       cases h1
       exact doOp_wp hc hcf hov hm ht hop he (fun v' w' g' k1 k2 k3 k4=>next g' w' _ k1 ((ht.mono k2).put _ k4) (by rw [put_defers];exact hd) (hl.trans k2) (hf.trans k3)) ro
      ·cases h1
     ·cases h1
    ·split at h1
     ·rename_i v hop
      split at h1
      case h_2=>cases h1
      cases h1
      have hop':=doOp_sub (killAll_sub _ s.b) (e:= .none) trivial hop
      exact doOp_wp hc (softF_ok hcf _) hov hm ht hop' rfl (fun v' w' g' k1 k2 k3 k4=>next g' w' _ k1 ((ht.mono k2).put _ k4) (by rw [put_defers];exact hd) (hl.trans k2) (hf.trans k3)) ro
     ·rename_i v x hop
      split at h1
      ·rename_i hask hdead
       cases h1
       have hop':=doOp_sub (killAll_sub _ s.b) (e:= .new x) trivial hop
       exact doOp_wp hc (softF_ok hcf _) hov hm ht hop' (bs':=s.b.set (idOf ops.toList i base) x) (by simp only [Eff.on,hdead]) (fun v' w' g' k1 k2 k3 k4=>next g' w' _ k1 ((ht.mono k2).put _ k4) (by rw [put_defers];exact hd) (hl.trans k2) (hf.trans k3)) ro
      ·cases h1
     ·rename_i v k x hop
      split at h1
      ·rename_i hcalm
       cases h1
       rw [Bool.and_eq_true,Bool.and_eq_true,Bool.and_eq_true] at hcalm
       have hop':doOp c (softF cf (appOk c ops i ops[i].op)) ops[i].op s.t s.b (idOf ops.toList i base)=some (v,.upd k x):=by
        have hx:=hcalm.1.1.2
        cases x with
        | var ty cs=>exact store_sub hx (killAll_sub _ s.b) hop
        | sl sh sz es=>exact grow_sub hx (killAll_sub _ s.b) hop
        | dead=>cases hx
        | loop st=>cases hx
        | mp es clock=>cases hx
        | gone=>cases hx
        | iter o=>cases hx
       exact doOp_wp hc (softF_ok hcf _) hov hm ht hop' (bs':=s.b.set k x) rfl (fun v' w' g' k1 k2 k3 k4=>next g' w' _ k1 ((ht.mono k2).put _ k4) (by rw [put_defers];exact hd) (hl.trans k2) (hf.trans k3)) ro
      ·cases h1
     ·rename_i v x hop
      split at h1
      ·rename_i hcalm
       cases h1
       rw [Bool.and_eq_true] at hcalm
       have hcv:isCallV ops[i].op=true:=by
        have:=hcalm.1
        simp only [appOk,Bool.and_eq_true] at this
        exact own_call this.1.1
       have hop':=app_sub (killAll_sub _ s.b) (killAll_length _ s.b) hcv hop
       exact doOp_wp hc (softF_ok hcf _) hov hm ht hop' (bs':=s.b++ [x]) rfl (fun v' w' g' k1 k2 k3 k4=>next g' w' _ k1 ((ht.mono k2).put _ k4) (by rw [put_defers];exact hd) (hl.trans k2) (hf.trans k3)) ro
      ·cases h1
     ·rename_i v k hop
      split at h1
      ·rename_i hcalm
       cases h1
       rw [Bool.and_eq_true] at hcalm
       have hiE:isEat c ops[i].op=true:=by
        have h:=hcalm.1
        simp only [eatOk,Bool.and_eq_true] at h
        exact h.1.1
       obtain ⟨sh,sz,es,hbk,hgo⟩:=eat_get hiE hop
       have hop':=hgo (softF cf (appOk c ops i ops[i].op)) s.b (idOf ops.toList i base) ((killAll_sub _ s.b).sl hbk)
       exact doOp_wp hc (softF_ok hcf _) hov hm ht hop' (bs':=s.b.set k .gone) rfl (fun v' w' g' k1 k2 k3 k4=>next g' w' _ k1 ((ht.mono k2).put _ k4) (by rw [put_defers];exact hd) (hl.trans k2) (hf.trans k3)) ro
      ·cases h1
     ·cases h1
   ·rename_i hw
    cases h1
    rw [wanted_run ht hw,if_neg (by simp)]
    refine ⟨fun _ _=>trivial,?_⟩
    exact next g w _ hm (ht.put _ (.tup [] #[] rfl (fun i c v h=>by simp at h))) (by rw [put_defers];exact hd) hl hf
   ·cases h1
end
end Go.Am
