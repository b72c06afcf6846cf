/-
 What the plainer form does: an evaluator with fuel, a predicate transformer, and that both are sound for the model.
-/
import Derived.Test.YtfnkchadeaedlaaGreatDoorAmIr2
set_option linter.all false
namespace Go.Am
def yE (n:Nat) (v:List (Option AV)) (b:List ab):List (Option AV):=
 match decide (b.length≤n) with
 | true=>v
 | false=>v.map (Option.map (forget n))
def ec (n:Nat) (b:List ab):List ab:=
 match decide (b.length≤n) with
 | true=>b
 | false=>(b.take n).map (bA n)
def jL:List Nat→List (Option AV)→List (Option AV)
 | [],v=>v
 | i::r,v=>jL r (v.set i none)
def rB (k:List Nat) (n:Nat):Nat→List (Option AV)→Bool
 | _, []=>true
 | i,none::r=>rB k n (i+1) r
 | i,some a::r=>(a.under n || !k.contains (i+1000))&&rB k n (i+1) r
def gV (n:Nat) (b:List ab) (v:AV):AV:=
 match v.under n with
 | true=>v
 | false=>match v.hand n b with
  | some v'=>match v'.under n with
   | true=>v'
   | false=> .any
  | none=> .any
def sy (n:Nat) (v:List (Option AV)) (b:List ab):List (Option AV):=v.map (Option.map (gV n b))
def pR (k:List Nat) (n:Nat) (v:List (Option AV)) (b:List ab):List (Option AV):=
 match decide (b.length≤n) with
 | true=>v
 | false=>match rB k n 0 (jL k v) with
  | true=>sy n v b
  | false=>v
def pS (k:List Nat) (n:Nat) (v:List (Option AV)) (b:List ab):List ab:=
 match decide (b.length≤n) with
 | true=>b
 | false=>match rB k n 0 (jL k v) with
  | true=>ec n b
  | false=>b
def leave (i:Nat):Ex→Ex
 | .exit j=>if j=i then .normal else .exit j
 | e=>e
def AV.isNil:AV→Bool
 | .ah nl _ es=>(nl==some true)&&es.isEmpty
 | _=>false
def Hp (x:AV) (b:List ab):List ab:=
 match x with
 | .az k _=>match ab.at b k with
  | .sl sh sz es=>b.set k (.sl ⟨true,sh.ty,none⟩ sz es)
  | _=>b
 | _=>b
def Fw (o:pV) (v:List (Option AV)) (b:List ab):List (Option AV)×List ab:=
 match o.cell with
 | none=>match kA v o.slot with
  | some x=>if x.isNil=true then (if o.sz=0 then (v,b) else (v.set o.slot (some (.az b.length 0)),b++ [.sl ⟨false,some o.el,none⟩ o.sz []])) else (v,if o.sz=0 then Hp x b else b)
  | none=>(v,b)
 | some off=>match kA v o.slot with
  | some (.ptr k base)=>match ab.at b k with
   | .var ty cs=>match cs[base+off]? with
    | some x=>if x.isNil=true then (v,b.set k (.var ty (cs.set (base+off) (.az b.length 0)))++ [.sl ⟨false,some o.el,none⟩ o.sz []]) else (v,b)
    | none=>(v,b)
   | _=>(v,b)
  | _=>(v,b)
def gU:List pV→List (Option AV)→List ab→List (Option AV)×List ab
 | [],v,b=>(v,b)
 | o::r,v,b=>gU r (Fw o v b).1 (Fw o v b).2
def gT (keep:List Nat) (args:List AV):List (Option AV):=
 match keep with
 | []=> []
 | i::r=>args[i]?::gT r args
def Jz (c:ax) (v:List (Option AV)) (b:List ab):IM→Option AV
 | .v i=>kA v i
 | .cell i ty=>match kA v i with
  | some (.ptr k off)=>match ab.at b k,c.ti ty with
   | .var _ cs,some i=>gB i cs off
   | _,_=>none
  | _=>none
def kG (c:ax) (v:List (Option AV)) (b:List ab):List IM→Option (List AV)
 | []=>some []
 | r::l=>match Jz c v b r with
  | some x=>match kG c v b l with
   | some y=>some (x::y)
   | none=>none
  | none=>none
def Hq (n:Nat) (b:List ab) (v:AV):Option (AV×List ab):=
 match v.hand n b with
 | some v'=>match v'.under n with
  | true=>some (v',ec n b)
  | false=>some (v,b)
 | none=>none
def Hr (own:Bool) (n:Nat) (b:List ab) (v:AV):Option (AV×List ab):=
 match own&& !v.under n with
 | true=>some (v,b)
 | false=>Hq n b v
def Fx (c:ax) (own:Bool) (res:List IM) (n:Nat) (v:List (Option AV)) (b:List ab):Option (AV×List ab):=
 match kG c v b res with
 | some vs=>Hr own n b (zH vs)
 | none=>none
def sA:Ex→Mj
 | .normal=> .ready
 | e=> .done e
def Ex.mA:Ex→Bool
 | .normal=>true
 | _=>false
def He (n k:Nat) (r:Option (Ex×List (Option AV)×List ab)):Option (AV×List ab):=
 match r with
 | some (e,_,b)=>match ab.at b k with
  | .loop .busy=>some (.bool e.mA,ec n (b.set k (.loop (sA e))))
  | _=>none
 | none=>none
def JA (v:List (Option AV)) (n:Nat) (r:Option (AV×List ab)):Option (Ex×List (Option AV)×List ab):=
 match r with
 | some (_,b')=>match ab.at b' n with
  | .loop .ready=>some (.normal,yE n v b',ec n b')
  | .loop (.done e)=>some (e,yE n v b',ec n b')
  | _=>none
 | none=>none
def yr (c:ax) (cf:aG) (x:Nat) (s:Site) (v:List (Option AV)) (b:List ab):Option (Ex×List (Option AV)×List ab):=
 match kA v x with
 | some (.fn f [] caps)=>match c.ext f with
  | some _=>none
  | none=>JA v b.length (cf (.fn f) (.fB b.length s (v.map (·.getD .any))::caps) (b++ [.loop .ready]))
 | _=>none
section
variable {c:ax} {f g:aG}
theorem kH (h:Gt f g) {op:Op} {φ:Operand→AV} {bs:List ab} {id:Nat} {r:AV×cQ} (hr:dG c f op φ bs id=some r):dG c g op φ bs id=some r:=by
 unfold dG at hr⊢;split at hr
 ·split at hr
  ·split at hr
   ·split at hr
    ·exact hr
    ·exact Hs h hr
   ·split at hr
    ·rename_i hf;rw [h _ _ _ _ hf];exact hr
    ·cases hr
   ·cases hr
  ·exact hr
 ·exact hr
theorem Ht {f g:aG} (h:Gt f g):Gt (pK f) (pK g):=fun t args bs r hr=>by
 unfold pK at hr⊢;split at hr
 ·split at hr
  ·rename_i hf;rw [h _ _ _ _ hf];exact hr
  ·rename_i hf;rw [h _ _ _ _ hf];exact hr
  ·cases hr
 ·exact h _ _ _ _ hr
theorem mB {f g:aG} (h:Gt f g): ∀b,Gt (eQ f b) (eQ g b)
 | true=>h
 | false=>Ht h
theorem JB (h:Gt f g) {base:Nat} {mask:Option (List Nat)} {k:Nat} {o:Op} {vs:List (Nat×AV)} {bs:List ab} {r:AV×List ab} (hr:Fq c f base mask k o vs bs=some r):Fq c g base mask k o vs bs=some r:=by
 unfold Fq at hr⊢;split at hr
 ·unfold Eb at hr⊢;split at hr
  ·rename_i hd;rw [kH h hd];exact hr
  ·cases hr
 ·unfold Ea at hr⊢;split at hr
  ·rename_i hd;rw [kH (mB h _) hd];exact hr
  ·rename_i hd;rw [kH (mB h _) hd];exact hr
  ·rename_i hd;rw [kH (mB h _) hd];exact hr
  ·rename_i hd;rw [kH (mB h _) hd];exact hr
  ·rename_i hd;rw [kH (mB h _) hd];exact hr
  ·cases hr
theorem dI (h:Gt f g) {base:Nat} {kl:List Nat}: ∀(its:List It) (env:List (Option AV)) (bs:List ab) (r:List (Option AV)×List ab),bh c f base kl its env bs=some r→bh c g base kl its env bs=some r
 | [],_,_,_,hr=>hr
 | .par l::its,env,bs,r,hr=>by
  simp only [bh] at hr⊢;split at hr
  ·exact dI h its _ _ r hr
  ·cases hr
 | .aA mask k d g' o xs::its,env,bs,r,hr=>by
  simp only [bh] at hr⊢;split at hr
  ·split at hr
   ·split at hr
    ·rename_i he;rw [JB h he];exact dI h its _ _ r hr
    ·cases hr
   ·cases hr
  ·exact dI h its _ _ r hr
  ·cases hr
end
theorem Ei {c:ax} {f g:aG} (h:Gt f g) {x:Nat} {s:Site} {v:List (Option AV)} {b:List ab} {r:Ex×List (Option AV)×List ab} (hr:yr c f x s v b=some r):yr c g x s v b=some r:=by
 unfold yr at hr⊢;split at hr
 ·split at hr
  ·cases hr
  ·unfold JA at hr⊢;split at hr
   ·rename_i hf;rw [h _ _ _ _ hf];exact hr
   ·cases hr
 ·cases hr
abbrev cy:=Ex→List (Option AV)→List ab→Prop
def Aw (W:cy→List (Option AV)→List ab→Prop) (Q:cy):cy:=fun e v b=>
 match e with
 | .normal=>W Q v b
 | e=>Q e v b
def nC (W:cy→List (Option AV)→List ab→Prop) (k:List Nat) (Q:cy):Nat→List (Option AV)→List ab→Prop
 | 0,_,_=>False
 | n+1,v,b=>W (fun e v' b'=>match e with
  | .normal=>nC W k Q n (pR k b.length v' b') (pS k b.length v' b')
  | e=>Q e v' b') (jL k v) b
def nW (r:Option (List (Option AV)×List ab)) (Q:cy):Prop:=
 match r with
 | some (v,b)=>Q .normal v b
 | none=>False
def xb (x:Option AV) (p q:Prop):Prop:=
 match x with
 | some (.bool true)=>p
 | some (.bool false)=>q
 | _=>False
def JC (r:Option (Ex×List (Option AV)×List ab)) (Q:cy):Prop:=
 match r with
 | some (e,v,b)=>Q e v b
 | none=>False
def Ax (c:ax) (own:Bool) (res:List IM) (n:Nat) (r:AV×List ab):cy:=fun e v b=>
 match e with
 | .exit _=>False
 | _=>Fx c own res n v b=some r
mutual
inductive kB (c:ax):IR→cy→List (Option AV)→List ab→Prop where
 | skip {Q:cy} {v:List (Option AV)} {b:List ab} (h:Q .normal v b):kB c .skip Q v b
 | ret {Q:cy} {v:List (Option AV)} {b:List ab} (h:Q .ret v b):kB c .ret Q v b
 | own {l:List pV} {Q:cy} {v:List (Option AV)} {b:List ab} (h:Q .normal (gU l v b).1 (gU l v b).2):kB c (.own l) Q v b
 | exit {i:Nat} {Q:cy} {v:List (Option AV)} {b:List ab} (h:Q (.exit i) v b):kB c (.exit i) Q v b
 | seq {x y:IR} {Q R:cy} {v:List (Option AV)} {b:List ab} (h1:kB c x R v b) (h2: ∀v' b',R .normal v' b'→kB c y Q v' b') (h3: ∀e v' b',e≠ .normal→R e v' b'→Q e v' b'):kB c (.seq x y) Q v b
 | block {i:Nat} {x:IR} {Q:cy} {v:List (Option AV)} {b:List ab} (h:kB c x (fun e v b=>Q (leave i e) v b) v b):kB c (.block i x) Q v b
 | al {m:Nat} {kl:List Nat} {its:List It} {Q:cy} {v v':List (Option AV)} {b b':List ab} (cf:aG) (h: ∀f a bs r,cf f a bs=some r→Cw c f a bs r) (hr:bh c cf b.length kl its v (b++List.replicate m .dead)=some (v',b')) (hq:Q .normal v' b'):kB c (.al m kl its) Q v b
 | yes {k:Nat} {x y:IR} {Q:cy} {v:List (Option AV)} {b:List ab} (hx:kA v k=some (.bool true)) (h:kB c x Q (v.set k none) b):kB c (.cond k x y) Q v b
 | no {k:Nat} {x y:IR} {Q:cy} {v:List (Option AV)} {b:List ab} (hx:kA v k=some (.bool false)) (h:kB c y Q (v.set k none) b):kB c (.cond k x y) Q v b
 | loop {k:List Nat} {x:IR} {Q R:cy} {v:List (Option AV)} {b:List ab} (h1:kB c x R (jL k v) b) (h2: ∀v' b',R .normal v' b'→kB c (.loop k x) Q (pR k b.length v' b') (pS k b.length v' b')) (h3: ∀e v' b',e≠ .normal→R e v' b'→Q e v' b'):kB c (.loop k x) Q v b
 | qN {x:Nat} {s:Site} {Q:cy} {v v':List (Option AV)} {b b':List ab} {e:Ex} (cf:aG) (h: ∀f a bs r,cf f a bs=some r→Cw c f a bs r) (hr:yr c cf x s v b=some (e,v',b')) (hq:Q e v' b'):kB c (.qN x s) Q v b
 | zh {x k n i m clock:Nat} {seen:List Nat} {es:List (AV×AV×Nat)} {its:List It} {Q:cy} {v:List (Option AV)} {b:List ab} (cf:aG) (h: ∀f a bs r,cf f a bs=some r→Cw c f a bs r) (hx:kA v x=some (.kq i)) (hi:ab.at b i= .iter (.map m seen clock)) (hm:ab.at b m= .mp es clock)
   (h0:(∀e∈es,seen.contains e.2.2=true)→ ∃v' b',bh c cf b.length [] its (v.set k (some (.aO [.bool false]))) (b++List.replicate n .dead)=some (v',b')∧Q .normal v' b')
   (h1: ∀e∈es,seen.contains e.2.2=false→ ∃v' b',bh c cf b.length [] its (v.set k (some (.aO [.bool true,e.1,e.2.1]))) (b.set i (.iter (.map m (seen++ [e.2.2]) clock))++List.replicate n .dead)=some (v',b')∧Q .normal v' b'):kB c (.zh x k n its) Q v b
 | alt {l:List (Nat×List Nat×List It)} {Q:cy} {v:List (Option AV)} {b:List ab} (cf:aG) (h: ∀f a bs r,cf f a bs=some r→Cw c f a bs r) (hne:l≠ [])
   (hr: ∀x∈l,∃v' b',bh c cf b.length x.2.1 x.2.2 v (b++List.replicate x.1 .dead)=some (v',b')∧Q .normal v' b'):kB c (.alt l) Q v b
inductive Cw (c:ax):Qs→List AV→List ab→AV×List ab→Prop where
 | fn {f:FuncId} {fn:Func} {L:cj} {args:List AV} {bs:List ab} {r:AV×List ab} (hf:c.fn.get none f=some fn) (hl:aH c fn=some L) (h:kB c L.code (Ax c (c.own f) L.res bs.length r) (gT L.keep args) bs):Cw c (.fn f) args bs r
 | fB {k:Nat} {s:Site} {env args:List AV} {bs:List ab} {r:AV×List ab} {asg body:IR} {R:cy} (hl:tA c s=some (asg,body)) (hn:args.length=s.ps.size) (he:env.length=s.keep.length) (hk:ab.at bs k= .loop .ready) (h1:kB c asg R (yq s env args) bs)
   (h2: ∀e v1 b1,R e v1 b1→e= .normal∧ab.at b1 k= .loop .ready) (h3: ∀e v1 b1,R e v1 b1→kB c body (fun e _ b2=>ab.at b2 k= .loop .busy∧(AV.bool e.mA,ec bs.length (b2.set k (.loop (sA e))))=r) v1 (b1.set k (.loop .busy))):Cw c (.fB k s env) args bs r
end
def Ej (f g:aG):aG:=fun t a b=>match f t a b with
 | some r=>some r
 | none=>g t a b
theorem qb (f g:aG):Gt f (Ej f g):=fun t a b r h=>by simp only [Ej,h]
theorem qc {f g:aG} (h: ∀t a b r r',f t a b=some r→g t a b=some r'→r=r'):Gt g (Ej f g):=fun t a b r hr=>by
 unfold Ej;cases hf:f t a b with
 | none=>exact hr
 | some r0=>rw [h t a b r0 r hf hr]
theorem kB.both {c:ax} {x:IR} {Q:cy} {v:List (Option AV)} {b:List ab} (h:kB c x Q v b): ∀Q',kB c x Q' v b→ ∃e v' b',Q e v' b'∧Q' e v' b':=by
 refine kB.rec (c:=c) (motive_1:=fun x Q v b _=> ∀Q',kB c x Q' v b→ ∃e v' b',Q e v' b'∧Q' e v' b') (motive_2:=fun t a bs r _=> ∀r',Cw c t a bs r'→r=r')
  ?_ ?_ ?_ ?_ ?_ ?_ ?_ ?_ ?_ ?_ ?_ ?_ ?_ ?_ ?_ h
 ·intro Q v b h Q' k;cases k with | skip h'=>exact ⟨_,_,_,h,h'⟩
 ·intro Q v b h Q' k;cases k with | ret h'=>exact ⟨_,_,_,h,h'⟩
 ·intro l Q v b h Q' k;cases k with | own h'=>exact ⟨_,_,_,h,h'⟩
 ·intro i Q v b h Q' k;cases k with | exit h'=>exact ⟨_,_,_,h,h'⟩
 ·intro x y Q R v b h1 h2 h3 ih1 ih2 Q' k;cases k with
  | seq k1 k2 k3=>
   obtain ⟨e,v',b',p1,p2⟩:=ih1 _ k1;cases e with
   | normal=>exact ih2 v' b' p1 _ (k2 v' b' p2)
   | ret=>exact ⟨_,_,_,h3 _ _ _ (by simp) p1,k3 _ _ _ (by simp) p2⟩
   | exit i=>exact ⟨_,_,_,h3 _ _ _ (by simp) p1,k3 _ _ _ (by simp) p2⟩
 ·intro i x Q v b h ih Q' k;cases k with
  | block h'=>obtain ⟨e,v',b',p1,p2⟩:=ih _ h';exact ⟨_,_,_,p1,p2⟩
 ·intro m kl its Q v v' b b' cf h hr hq ih Q' k;cases k with
  | al cf' h' hr' hq'=>have hj: ∀t a b r r',cf t a b=some r→cf' t a b=some r'→r=r':=fun t a b r r' h1 h2=>ih t a b r h1 _ (h' t a b r' h2);have e1:=dI (qb cf cf') _ _ _ _ hr;have e2:=dI (qc hj) _ _ _ _ hr';rw [e1] at e2;cases e2;exact ⟨_,_,_,hq,hq'⟩
 ·intro k x y Q v b hx h ih Q' h';cases h' with
  | yes hx' h'=>exact ih _ h'
  | no hx' h'=>rw [hx] at hx';cases hx'
 ·intro k x y Q v b hx h ih Q' h';cases h' with
  | yes hx' h'=>rw [hx] at hx';cases hx'
  | no hx' h'=>exact ih _ h'
 ·intro k x Q R v b h1 h2 h3 ih1 ih2 Q' h';cases h' with
  | loop k1 k2 k3=>
   obtain ⟨e,v',b',p1,p2⟩:=ih1 _ k1;cases e with
   | normal=>exact ih2 v' b' p1 _ (k2 v' b' p2)
   | ret=>exact ⟨_,_,_,h3 _ _ _ (by simp) p1,k3 _ _ _ (by simp) p2⟩
   | exit i=>exact ⟨_,_,_,h3 _ _ _ (by simp) p1,k3 _ _ _ (by simp) p2⟩
 ·intro x s Q v v' b b' e cf h hr hq ih Q' k;cases k with
  | qN cf' h' hr' hq'=>have hj: ∀t a b r r',cf t a b=some r→cf' t a b=some r'→r=r':=fun t a b r r' h1 h2=>ih t a b r h1 _ (h' t a b r' h2);have e1:=Ei (qb cf cf') hr;have e2:=Ei (qc hj) hr';rw [e1] at e2;cases e2;exact ⟨_,_,_,hq,hq'⟩
 ·intro x n0 n i m clock seen es its Q v b cf h hx hi hm h0 h1 ih Q' k;cases k with
  | zh cf' h' hx' hi' hm' h0' h1'=>
   rw [hx] at hx';cases hx';rw [hi] at hi';cases hi';rw [hm] at hm';cases hm';have hj: ∀t a b r r',cf t a b=some r→cf' t a b=some r'→r=r':=fun t a b r r' h1 h2=>ih t a b r h1 _ (h' t a b r' h2);by_cases hall: ∀e∈es,seen.contains e.2.2=true
   ·obtain ⟨v1,b1,r1,q1⟩:=h0 hall;obtain ⟨v2,b2,r2,q2⟩:=h0' hall;have e1:=dI (qb cf cf') _ _ _ _ r1;have e2:=dI (qc hj) _ _ _ _ r2;rw [e1] at e2;cases e2;exact ⟨_,_,_,q1,q2⟩
   ·have: ∃e∈es,seen.contains e.2.2=false:=by simpa using hall
    obtain ⟨e,he,hn⟩:=this;obtain ⟨v1,b1,r1,q1⟩:=h1 e he hn;obtain ⟨v2,b2,r2,q2⟩:=h1' e he hn;have e1:=dI (qb cf cf') _ _ _ _ r1;have e2:=dI (qc hj) _ _ _ _ r2;rw [e1] at e2;cases e2;exact ⟨_,_,_,q1,q2⟩
 ·intro l Q v b cf h hne hr ih Q' k;cases k with
  | alt cf' h' hne' hr'=>
   have hj: ∀t a b r r',cf t a b=some r→cf' t a b=some r'→r=r':=fun t a b r r' h1 h2=>ih t a b r h1 _ (h' t a b r' h2);cases l with
   | nil=>exact absurd rfl hne
   | cons x l=>obtain ⟨v1,b1,r1,q1⟩:=hr x List.mem_cons_self;obtain ⟨v2,b2,r2,q2⟩:=hr' x List.mem_cons_self;have e1:=dI (qb cf cf') _ _ _ _ r1;have e2:=dI (qc hj) _ _ _ _ r2;rw [e1] at e2;cases e2;exact ⟨_,_,_,q1,q2⟩
 ·intro f fn L args bs r hf hl h ih r' k;cases k with
  | fn hf' hl' h'=>
   rw [hf] at hf';cases hf';rw [hl] at hl';cases hl';obtain ⟨e,v',b',p1,p2⟩:=ih _ h';unfold Ax at p1 p2;cases e with
   | normal=>rw [p1] at p2;cases p2;rfl
   | ret=>rw [p1] at p2;cases p2;rfl
   | exit i=>exact p1.elim
 ·intro k s env args bs r asg body R hl hn he hk h1 h2 h3 ih1 ih3 r' k';cases k' with
  | fB hl' hn' he' hk' h1' h2' h3'=>rw [hl] at hl';cases hl';obtain ⟨e,v1,b1,p1,p2⟩:=ih1 _ h1';obtain ⟨e2,v2,b2,q1,q2⟩:=ih3 _ _ _ p1 _ (h3' _ _ _ p2);rw [←q1.2,←q2.2]
theorem Cw.one {c:ax} {t:Qs} {a:List AV} {bs:List ab} {r r':AV×List ab} (h:Cw c t a bs r) (h':Cw c t a bs r'):r=r':=by
 cases h with
 | fn hf hl h=>
  cases h' with
  | fn hf' hl' h'=>
   rw [hf] at hf';cases hf';rw [hl] at hl';cases hl';obtain ⟨e,v',b',p1,p2⟩:=h.both _ h';unfold Ax at p1 p2;cases e with
   | normal=>rw [p1] at p2;cases p2;rfl
   | ret=>rw [p1] at p2;cases p2;rfl
   | exit i=>exact p1.elim
 | fB hl hn he hk h1 h2 h3=>
  cases h' with
  | fB hl' hn' he' hk' h1' h2' h3'=>rw [hl] at hl';cases hl';obtain ⟨e,v1,b1,p1,p2⟩:=h1.both _ h1';obtain ⟨e2,v2,b2,q1,q2⟩:=(h3 _ _ _ p1).both _ (h3' _ _ _ p2);rw [←q1.2,←q2.2]
noncomputable def mC (c:ax):aG:=fun f args bs=>
 open Classical in if h: ∃r,Cw c f args bs r then some (Classical.choose h) else none
theorem iX {c:ax} {f:Qs} {args:List AV} {bs:List ab} {r:AV×List ab}:mC c f args bs=some r↔Cw c f args bs r:=by
 unfold mC;constructor
 ·intro h;split at h
  ·rename_i hx;cases h;exact Classical.choose_spec hx
  ·cases h
 ·intro h;have hx: ∃r,Cw c f args bs r:=⟨r,h⟩;rw [dif_pos hx];rw [Cw.one (Classical.choose_spec hx) h]
noncomputable abbrev ar (c:ax) (f:FuncId):List AV→List ab→Option (AV×List ab):=mC c (.fn f)
def Wp (c:ax):IR→cy→List (Option AV)→List ab→Prop
 | .skip,Q,v,b=>Q .normal v b
 | .ret,Q,v,b=>Q .ret v b
 | .stuck,_,_,_=>False
 | .own l,Q,v,b=>Q .normal (gU l v b).1 (gU l v b).2
 | .exit i,Q,v,b=>Q (.exit i) v b
 | .seq x y,Q,v,b=>Wp c x (Aw (Wp c y) Q) v b
 | .block i x,Q,v,b=>Wp c x (fun e v b=>Q (leave i e) v b) v b
 | .al n kl its,Q,v,b=>nW (bh c (mC c) b.length kl its v (b++List.replicate n .dead)) Q
 | .cond x p q,Q,v,b=>xb (kA v x) (Wp c p Q (v.set x none) b) (Wp c q Q (v.set x none) b)
 | .loop k x,Q,v,b=> ∃n,nC (Wp c x) k Q n v b
 | .qN x s,Q,v,b=>JC (yr c (mC c) x s v b) Q
 | .zh x k n its,Q,v,b=> ∃i m clock seen es,kA v x=some (.kq i)∧ab.at b i= .iter (.map m seen clock)∧ab.at b m= .mp es clock∧
   ((∀e∈es,seen.contains e.2.2=true)→nW (bh c (mC c) b.length [] its (v.set k (some (.aO [.bool false]))) (b++List.replicate n .dead)) Q)∧
   (∀e∈es,seen.contains e.2.2=false→nW (bh c (mC c) b.length [] its (v.set k (some (.aO [.bool true,e.1,e.2.1]))) (b.set i (.iter (.map m (seen++ [e.2.2]) clock))++List.replicate n .dead)) Q)
 | .alt l,Q,v,b=>l≠ []∧ ∀x∈l,nW (bh c (mC c) b.length x.2.1 x.2.2 v (b++List.replicate x.1 .dead)) Q
theorem tF {r:Option (List (Option AV)×List ab)} {Q:cy} (h:nW r Q): ∃v b,r=some (v,b)∧Q .normal v b:=by
 unfold nW at h;split at h
 ·exact ⟨_,_,rfl,h⟩
 ·exact h.elim
theorem rC {r:Option (List (Option AV)×List ab)} {Q Q':cy} (hq: ∀e v b,Q e v b→Q' e v b) (h:nW r Q):nW r Q':=by obtain ⟨v,b,rfl,h⟩:=tF h;exact hq _ _ _ h
theorem qd {W:cy→List (Option AV)→List ab→Prop} (hW: ∀{Q Q':cy},(∀e v b,Q e v b→Q' e v b)→ ∀v b,W Q v b→W Q' v b) {k:List Nat} {Q Q':cy} (h: ∀e v b,Q e v b→Q' e v b): ∀(n:Nat) (v:List (Option AV)) (b:List ab),nC W k Q n v b→nC W k Q' n v b
 | 0,_,_,hr=>hr
 | n+1,v,b,hr=>by
  refine hW (fun e v' b' hq=> ?_) _ _ hr;cases e with
  | normal=>exact qd hW h n _ _ hq
  | ret=>exact h _ _ _ hq
  | exit i=>exact h _ _ _ hq
theorem Wp.mono {c:ax}: ∀(ir:IR) {Q Q':cy},(∀e v b,Q e v b→Q' e v b)→ ∀v b,Wp c ir Q v b→Wp c ir Q' v b
 | .skip,_,_,h,v,b,hw=>h _ _ _ hw
 | .ret,_,_,h,v,b,hw=>h _ _ _ hw
 | .stuck,_,_,_,_,_,hw=>hw
 | .own l,_,_,h,v,b,hw=>h _ _ _ hw
 | .exit _,_,_,h,v,b,hw=>h _ _ _ hw
 | .seq x y,Q,Q',h,v,b,hw=>Wp.mono x (fun e v b hq=>by
   cases e with
   | normal=>exact Wp.mono y h v b hq
   | ret=>exact h _ _ _ hq
   | exit i=>exact h _ _ _ hq) v b hw
 | .block i x,Q,Q',h,v,b,hw=>Wp.mono x (fun e v b hq=>h _ _ _ hq) v b hw
 | .al n kl its,Q,Q',h,v,b,hw=>by
  simp only [Wp,nW] at hw⊢;split at hw
  ·exact h _ _ _ hw
  ·exact hw
 | .cond x p q,Q,Q',h,v,b,hw=>by
  simp only [Wp,xb] at hw⊢;split at hw
  ·exact Wp.mono p h _ b hw
  ·exact Wp.mono q h _ b hw
  ·exact hw
 | .loop k x,Q,Q',h,v,b,hw=>by
  obtain ⟨n,hn⟩:=hw;exact ⟨n,qd (fun h v b=>Wp.mono x h v b) h n v b hn⟩
 | .qN x s,Q,Q',h,v,b,hw=>by
  simp only [Wp,JC] at hw⊢;split at hw
  ·exact h _ _ _ hw
  ·exact hw
 | .zh x k n its,Q,Q',h,v,b,hw=>by
  obtain ⟨i,m,clock,seen,es,h1,h2,h3,h4,h5⟩:=hw;exact ⟨i,m,clock,seen,es,h1,h2,h3,fun p=>rC h (h4 p),fun e he p=>rC h (h5 e he p)⟩
 | .alt l,Q,Q',h,v,b,hw=>⟨hw.1,fun x hx=>rC h (hw.2 x hx)⟩
theorem uP {c:ax} {x:IR} {k:List Nat} (ih: ∀(Q:cy) (v:List (Option AV)) (b:List ab),Wp c x Q v b→kB c x Q v b) {Q:cy}:
  ∀(m:Nat) (v:List (Option AV)) (b:List ab),nC (Wp c x) k Q m v b→kB c (.loop k x) Q v b
 | 0,_,_,h=>h.elim
 | m+1,v,b,h=>by
  refine .loop (ih _ _ _ h) (fun v' b' h'=>uP ih m _ _ h') (fun e v' b' hne h'=> ?_);cases e with
  | normal=>exact absurd rfl hne
  | ret=>exact h'
  | exit i=>exact h'
theorem o0 {c:ax}: ∀(x:IR) (Q:cy) (v:List (Option AV)) (b:List ab),Wp c x Q v b→kB c x Q v b
 | .skip,Q,v,b,h=> .skip h
 | .ret,Q,v,b,h=> .ret h
 | .stuck,Q,v,b,h=>h.elim
 | .own l,Q,v,b,h=> .own h
 | .exit i,Q,v,b,h=> .exit h
 | .seq x y,Q,v,b,h=> .seq (o0 x _ v b h) (fun v' b' h'=>o0 y _ v' b' h') (fun e v' b' hne h'=>by
   cases e with
   | normal=>exact absurd rfl hne
   | ret=>exact h'
   | exit i=>exact h')
 | .block i x,Q,v,b,h=> .block (o0 x _ v b h)
 | .al m kl its,Q,v,b,h=>by
  simp only [Wp,nW] at h;split at h
  ·rename_i v' b' hrun;exact .al (mC c) (fun _ _ _ _ hr=>iX.1 hr) hrun h
  ·exact h.elim
 | .cond x p q,Q,v,b,h=>by
  simp only [Wp,xb] at h;split at h
  ·rename_i hx;exact .yes hx (o0 p _ _ b h)
  ·rename_i hx;exact .no hx (o0 q _ _ b h)
  ·exact h.elim
 | .loop k x,Q,v,b,h=>by
  obtain ⟨m,hm⟩:=h;exact uP (fun Q v b h=>o0 x Q v b h) m v b hm
 | .qN x s,Q,v,b,h=>by
  simp only [Wp,JC] at h;split at h
  ·rename_i e v' b' hrun;exact .qN (mC c) (fun _ _ _ _ hr=>iX.1 hr) hrun h
  ·exact h.elim
 | .zh x k n its,Q,v,b,h=>by
  obtain ⟨i,m,clock,seen,es,h1,h2,h3,h4,h5⟩:=h;exact .zh (mC c) (fun _ _ _ _ hr=>iX.1 hr) h1 h2 h3 (fun p=>tF (h4 p)) (fun e he p=>tF (h5 e he p))
 | .alt l,Q,v,b,h=> .alt (mC c) (fun _ _ _ _ hr=>iX.1 hr) h.1 (fun x hx=>tF (h.2 x hx))
theorem ad {c:ax} {f:FuncId} {fn:Func} {L:cj} {args:List AV} {bs:List ab} {r:AV×List ab} (hf:c.fn.get none f=some fn) (hl:aH c fn=some L)
  (hw:Wp c L.code (Ax c (c.own f) L.res bs.length r) (gT L.keep args) bs):ar c f args bs=some r:=
 iX.2 (.fn hf hl (o0 _ _ _ _ hw))
end Go.Am
