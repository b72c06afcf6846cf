/-
 What the plainer form does: an evaluator with fuel, a predicate transformer, and that both are sound for the model.
-/
import Derived.Test.YtfnkchadeaedlaaGreatDoorAmIr2
set_option linter.all false
namespace Go.Am
def zc (n:Nat) (v:List (Option AV)) (b:List ad):List (Option AV):=
 match decide (b.length≤n) with
 | true=>v
 | false=>v.map (Option.map (forget n))
def eP (n:Nat) (b:List ad):List ad:=
 match decide (b.length≤n) with
 | true=>b
 | false=>(b.take n).map (bG n)
def jP:List Nat→List (Option AV)→List (Option AV)
 | [],v=>v
 | i::r,v=>jP r (v.set i none)
def rP (k:List Nat) (n:Nat):Nat→List (Option AV)→Bool
 | _, []=>true
 | i,none::r=>rP k n (i+1) r
 | i,some a::r=>(a.under n || !k.contains (i+1000))&&rP k n (i+1) r
def ia (n:Nat) (b:List ad) (v:AV):AV:=
 match v.under n with
 | true=>v
 | false=>match v.hand n b with
  | some v'=>match v'.under n with
   | true=>v'
   | false=> .any
  | none=> .any
def sV (n:Nat) (v:List (Option AV)) (b:List ad):List (Option AV):=v.map (Option.map (ia n b))
def qd (k:List Nat) (n:Nat) (v:List (Option AV)) (b:List ad):List (Option AV):=
 match decide (b.length≤n) with
 | true=>v
 | false=>match rP k n 0 (jP k v) with
  | true=>sV n v b
  | false=>v
def qe (k:List Nat) (n:Nat) (v:List (Option AV)) (b:List ad):List ad:=
 match decide (b.length≤n) with
 | true=>b
 | false=>match rP k n 0 (jP k v) with
  | true=>eP n b
  | false=>b
def leave (i:Nat):Ex→Ex
 | .exit j=>if j=i then .normal else .exit j
 | e=>e
def AV.isNil:AV→Bool
 | .ah nl _ es=>(nl==some true)&&es.isEmpty
 | _=>false
def H9 (x:AV) (b:List ad):List ad:=
 match x with
 | .ay k _=>match ad.at b k with
  | .sl sh sz es=>b.set k (.sl ⟨true,sh.ty,none⟩ sz es)
  | _=>b
 | _=>b
def Gb (o:qh) (v:List (Option AV)) (b:List ad):List (Option AV)×List ad:=
 match o.cell with
 | none=>match kL v o.slot with
  | some x=>if x.isNil=true then (if o.sz=0 then (v,b) else (v.set o.slot (some (.ay b.length 0)),b++ [.sl ⟨false,some o.el,none⟩ o.sz []])) else (v,if o.sz=0 then H9 x b else b)
  | none=>(v,b)
 | some off=>match kL v o.slot with
  | some (.ptr k base)=>match ad.at b k with
   | .var ty cs=>match cs[base+off]? with
    | some x=>if x.isNil=true then (v,b.set k (.var ty (cs.set (base+off) (.ay b.length 0)))++ [.sl ⟨false,some o.el,none⟩ o.sz []]) else (v,b)
    | none=>(v,b)
   | _=>(v,b)
  | _=>(v,b)
def hZ:List qh→List (Option AV)→List ad→List (Option AV)×List ad
 | [],v,b=>(v,b)
 | o::r,v,b=>hZ r (Gb o v b).1 (Gb o v b).2
def gZ (keep:List Nat) (args:List AV):List (Option AV):=
 match keep with
 | []=> []
 | i::r=>args[i]?::gZ r args
def Kz (c:ax) (v:List (Option AV)) (b:List ad):JN→Option AV
 | .v i=>kL v i
 | .cell i ty=>match kL v i with
  | some (.ptr k off)=>match ad.at b k,c.ti ty with
   | .var _ cs,some i=>gK i cs off
   | _,_=>none
  | _=>none
def kR (c:ax) (v:List (Option AV)) (b:List ad):List JN→Option (List AV)
 | []=>some []
 | r::l=>match Kz c v b r with
  | some x=>match kR c v b l with
   | some y=>some (x::y)
   | none=>none
  | none=>none
def Ia (n:Nat) (b:List ad) (v:AV):Option (AV×List ad):=
 match v.hand n b with
 | some v'=>match v'.under n with
  | true=>some (v',eP n b)
  | false=>some (v,b)
 | none=>none
def Ib (own:Bool) (n:Nat) (b:List ad) (v:AV):Option (AV×List ad):=
 match own&& !v.under n with
 | true=>some (v,b)
 | false=>Ia n b v
def Gc (c:ax) (own:Bool) (res:List JN) (n:Nat) (v:List (Option AV)) (b:List ad):Option (AV×List ad):=
 match kR c v b res with
 | some vs=>Ib own n b (Ao vs)
 | none=>none
def sW:Ex→NI
 | .normal=> .ready
 | e=> .done e
def Ex.mM:Ex→Bool
 | .normal=>true
 | _=>false
def HW (n k:Nat) (r:Option (Ex×List (Option AV)×List ad)):Option (AV×List ad):=
 match r with
 | some (e,_,b)=>match ad.at b k with
  | .loop .busy=>some (.bool e.mM,eP n (b.set k (.loop (sW e))))
  | _=>none
 | none=>none
def KA (v:List (Option AV)) (n:Nat) (r:Option (AV×List ad)):Option (Ex×List (Option AV)×List ad):=
 match r with
 | some (_,b')=>match ad.at b' n with
  | .loop .ready=>some (.normal,zc n v b',eP n b')
  | .loop (.done e)=>some (e,zc n v b',eP n b')
  | _=>none
 | none=>none
def yW (c:ax) (cf:aL) (x:Nat) (s:Site) (v:List (Option AV)) (b:List ad):Option (Ex×List (Option AV)×List ad):=
 match kL v x with
 | some (.fn f [] caps)=>match c.ext f with
  | some _=>none
  | none=>KA v b.length (cf (.fn f) (.fL b.length s (v.map (·.getD .any))::caps) (b++ [.loop .ready]))
 | _=>none
section
variable {c:ax} {f g:aL}
theorem kS (h:Ha f g) {op:Op} {φ:Operand→AV} {bs:List ad} {id:Nat} {r:AV×cY} (hr:dL c f op φ bs id=some r):dL c g op φ bs id=some r:=by
 unfold dL at hr⊢;split at hr
 ·split at hr
  ·split at hr
   ·split at hr
    ·exact hr
    ·exact Ic h hr
   ·split at hr
    ·rename_i hf;rw [h _ _ _ _ hf];exact hr
    ·cases hr
   ·cases hr
  ·exact hr
 ·exact hr
theorem Ie {f g:aL} (h:Ha f g):Ha (pW f) (pW g):=fun t args bs r hr=>by
 unfold pW at hr⊢;split at hr
 ·split at hr
  ·rename_i hf;rw [h _ _ _ _ hf];exact hr
  ·rename_i hf;rw [h _ _ _ _ hf];exact hr
  ·cases hr
 ·exact h _ _ _ _ hr
theorem mN {f g:aL} (h:Ha f g): ∀b,Ha (e9 f b) (e9 g b)
 | true=>h
 | false=>Ie h
theorem KB (h:Ha f g) {base:Nat} {mask:Option (List Nat)} {k:Nat} {o:Op} {vs:List (Nat×AV)} {bs:List ad} {r:AV×List ad} (hr:F6 c f base mask k o vs bs=some r):F6 c g base mask k o vs bs=some r:=by
 unfold F6 at hr⊢;split at hr
 ·unfold EU at hr⊢;split at hr
  ·rename_i hd;rw [kS h hd];exact hr
  ·cases hr
 ·unfold ET at hr⊢;split at hr
  ·rename_i hd;rw [kS (mN h _) hd];exact hr
  ·rename_i hd;rw [kS (mN h _) hd];exact hr
  ·rename_i hd;rw [kS (mN h _) hd];exact hr
  ·rename_i hd;rw [kS (mN h _) hd];exact hr
  ·rename_i hd;rw [kS (mN h _) hd];exact hr
  ·cases hr
theorem dN (h:Ha f g) {base:Nat} {kl:List Nat}: ∀(its:List It) (env:List (Option AV)) (bs:List ad) (r:List (Option AV)×List ad),br c f base kl its env bs=some r→br c g base kl its env bs=some r
 | [],_,_,_,hr=>hr
 | .par l::its,env,bs,r,hr=>by
  simp only [br] at hr⊢;split at hr
  ·exact dN h its _ _ r hr
  ·cases hr
 | .dT mask k d g' o xs::its,env,bs,r,hr=>by
  simp only [br] at hr⊢;split at hr
  ·split at hr
   ·split at hr
    ·rename_i he;rw [KB h he];exact dN h its _ _ r hr
    ·cases hr
   ·cases hr
  ·exact dN h its _ _ r hr
  ·cases hr
end
theorem E0 {c:ax} {f g:aL} (h:Ha f g) {x:Nat} {s:Site} {v:List (Option AV)} {b:List ad} {r:Ex×List (Option AV)×List ad} (hr:yW c f x s v b=some r):yW c g x s v b=some r:=by
 unfold yW at hr⊢;split at hr
 ·split at hr
  ·cases hr
  ·unfold KA at hr⊢;split at hr
   ·rename_i hf;rw [h _ _ _ _ hf];exact hr
   ·cases hr
 ·cases hr
abbrev cH:=Ex→List (Option AV)→List ad→Prop
def Bd (W:cH→List (Option AV)→List ad→Prop) (Q:cH):cH:=fun e v b=>
 match e with
 | .normal=>W Q v b
 | e=>Q e v b
def nK (W:cH→List (Option AV)→List ad→Prop) (k:List Nat) (Q:cH):Nat→List (Option AV)→List ad→Prop
 | 0,_,_=>False
 | n+1,v,b=>W (fun e v' b'=>match e with
  | .normal=>nK W k Q n (qd k b.length v' b') (qe k b.length v' b')
  | e=>Q e v' b') (jP k v) b
def oh (r:Option (List (Option AV)×List ad)) (Q:cH):Prop:=
 match r with
 | some (v,b)=>Q .normal v b
 | none=>False
def xG (x:Option AV) (p q:Prop):Prop:=
 match x with
 | some (.bool true)=>p
 | some (.bool false)=>q
 | _=>False
def KC (r:Option (Ex×List (Option AV)×List ad)) (Q:cH):Prop:=
 match r with
 | some (e,v,b)=>Q e v b
 | none=>False
def Be (c:ax) (own:Bool) (res:List JN) (n:Nat) (r:AV×List ad):cH:=fun e v b=>
 match e with
 | .exit _=>False
 | _=>Gc c own res n v b=some r
mutual
inductive kM (c:ax):IR→cH→List (Option AV)→List ad→Prop where
 | skip {Q:cH} {v:List (Option AV)} {b:List ad} (h:Q .normal v b):kM c .skip Q v b
 | ret {Q:cH} {v:List (Option AV)} {b:List ad} (h:Q .ret v b):kM c .ret Q v b
 | own {l:List qh} {Q:cH} {v:List (Option AV)} {b:List ad} (h:Q .normal (hZ l v b).1 (hZ l v b).2):kM c (.own l) Q v b
 | exit {i:Nat} {Q:cH} {v:List (Option AV)} {b:List ad} (h:Q (.exit i) v b):kM c (.exit i) Q v b
 | seq {x y:IR} {Q R:cH} {v:List (Option AV)} {b:List ad} (h1:kM c x R v b) (h2: ∀v' b',R .normal v' b'→kM c y Q v' b') (h3: ∀e v' b',e≠ .normal→R e v' b'→Q e v' b'):kM c (.seq x y) Q v b
 | block {i:Nat} {x:IR} {Q:cH} {v:List (Option AV)} {b:List ad} (h:kM c x (fun e v b=>Q (leave i e) v b) v b):kM c (.block i x) Q v b
 | cg {m:Nat} {kl:List Nat} {its:List It} {Q:cH} {v v':List (Option AV)} {b b':List ad} (cf:aL) (h: ∀f a bs r,cf f a bs=some r→Df c f a bs r) (hr:br c cf b.length kl its v (b++List.replicate m .dead)=some (v',b')) (hq:Q .normal v' b'):kM c (.cg m kl its) Q v b
 | yes {k:Nat} {x y:IR} {Q:cH} {v:List (Option AV)} {b:List ad} (hx:kL v k=some (.bool true)) (h:kM c x Q (v.set k none) b):kM c (.cond k x y) Q v b
 | no {k:Nat} {x y:IR} {Q:cH} {v:List (Option AV)} {b:List ad} (hx:kL v k=some (.bool false)) (h:kM c y Q (v.set k none) b):kM c (.cond k x y) Q v b
 | loop {k:List Nat} {x:IR} {Q R:cH} {v:List (Option AV)} {b:List ad} (h1:kM c x R (jP k v) b) (h2: ∀v' b',R .normal v' b'→kM c (.loop k x) Q (qd k b.length v' b') (qe k b.length v' b')) (h3: ∀e v' b',e≠ .normal→R e v' b'→Q e v' b'):kM c (.loop k x) Q v b
 | q8 {x:Nat} {s:Site} {Q:cH} {v v':List (Option AV)} {b b':List ad} {e:Ex} (cf:aL) (h: ∀f a bs r,cf f a bs=some r→Df c f a bs r) (hr:yW c cf x s v b=some (e,v',b')) (hq:Q e v' b'):kM c (.q8 x s) Q v b
 | AR {x k n i m clock:Nat} {seen:List Nat} {es:List (AV×AV×Nat)} {its:List It} {Q:cH} {v:List (Option AV)} {b:List ad} (cf:aL) (h: ∀f a bs r,cf f a bs=some r→Df c f a bs r) (hx:kL v x=some (.kD i)) (hi:ad.at b i= .iter (.map m seen clock)) (hm:ad.at b m= .mp es clock)
   (h0:(∀e∈es,seen.contains e.2.2=true)→ ∃v' b',br c cf b.length [] its (v.set k (some (.aT [.bool false]))) (b++List.replicate n .dead)=some (v',b')∧Q .normal v' b')
   (h1: ∀e∈es,seen.contains e.2.2=false→ ∃v' b',br c cf b.length [] its (v.set k (some (.aT [.bool true,e.1,e.2.1]))) (b.set i (.iter (.map m (seen++ [e.2.2]) clock))++List.replicate n .dead)=some (v',b')∧Q .normal v' b'):kM c (.AR x k n its) Q v b
 | alt {l:List (Nat×List Nat×List It)} {Q:cH} {v:List (Option AV)} {b:List ad} (cf:aL) (h: ∀f a bs r,cf f a bs=some r→Df c f a bs r) (hne:l≠ [])
   (hr: ∀x∈l,∃v' b',br c cf b.length x.2.1 x.2.2 v (b++List.replicate x.1 .dead)=some (v',b')∧Q .normal v' b'):kM c (.alt l) Q v b
inductive Df (c:ax):R4→List AV→List ad→AV×List ad→Prop where
 | fn {f:FuncId} {fn:Func} {L:bT} {args:List AV} {bs:List ad} {r:AV×List ad} (hf:c.fn.get none f=some fn) (hl:an c fn=some L) (h:kM c L.code (Be c (c.own f) L.res bs.length r) (gZ L.keep args) bs):Df c (.fn f) args bs r
 | fL {k:Nat} {s:Site} {env args:List AV} {bs:List ad} {r:AV×List ad} {asg body:IR} {R:cH} (hl:tT c s=some (asg,body)) (hn:args.length=s.ps.size) (he:env.length=s.keep.length) (hk:ad.at bs k= .loop .ready) (h1:kM c asg R (yV s env args) bs)
   (h2: ∀e v1 b1,R e v1 b1→e= .normal∧ad.at b1 k= .loop .ready) (h3: ∀e v1 b1,R e v1 b1→kM c body (fun e _ b2=>ad.at b2 k= .loop .busy∧(AV.bool e.mM,eP bs.length (b2.set k (.loop (sW e))))=r) v1 (b1.set k (.loop .busy))):Df c (.fL k s env) args bs r
end
def E1 (f g:aL):aL:=fun t a b=>match f t a b with
 | some r=>some r
 | none=>g t a b
theorem qn (f g:aL):Ha f (E1 f g):=fun t a b r h=>by simp only [E1,h]
theorem qo {f g:aL} (h: ∀t a b r r',f t a b=some r→g t a b=some r'→r=r'):Ha g (E1 f g):=fun t a b r hr=>by
 unfold E1;cases hf:f t a b with
 | none=>exact hr
 | some r0=>rw [h t a b r0 r hf hr]
theorem kM.both {c:ax} {x:IR} {Q:cH} {v:List (Option AV)} {b:List ad} (h:kM c x Q v b): ∀Q',kM c x Q' v b→ ∃e v' b',Q e v' b'∧Q' e v' b':=by
 refine kM.rec (c:=c) (motive_1:=fun x Q v b _=> ∀Q',kM c x Q' v b→ ∃e v' b',Q e v' b'∧Q' e v' b') (motive_2:=fun t a bs r _=> ∀r',Df c t a bs r'→r=r')
  ?_ ?_ ?_ ?_ ?_ ?_ ?_ ?_ ?_ ?_ ?_ ?_ ?_ ?_ ?_ h
 ·intro Q v b h Q' k;cases k with | skip h'=>exact ⟨_,_,_,h,h'⟩
 ·intro Q v b h Q' k;cases k with | ret h'=>exact ⟨_,_,_,h,h'⟩
 ·intro l Q v b h Q' k;cases k with | own h'=>exact ⟨_,_,_,h,h'⟩
 ·intro i Q v b h Q' k;cases k with | exit h'=>exact ⟨_,_,_,h,h'⟩
 ·intro x y Q R v b h1 h2 h3 ih1 ih2 Q' k;cases k with
  | seq k1 k2 k3=>
   obtain ⟨e,v',b',p1,p2⟩:=ih1 _ k1;cases e with
   | normal=>exact ih2 v' b' p1 _ (k2 v' b' p2)
   | ret=>exact ⟨_,_,_,h3 _ _ _ (by simp) p1,k3 _ _ _ (by simp) p2⟩
   | exit i=>exact ⟨_,_,_,h3 _ _ _ (by simp) p1,k3 _ _ _ (by simp) p2⟩
 ·intro i x Q v b h ih Q' k;cases k with
  | block h'=>obtain ⟨e,v',b',p1,p2⟩:=ih _ h';exact ⟨_,_,_,p1,p2⟩
 ·intro m kl its Q v v' b b' cf h hr hq ih Q' k;cases k with
  | cg cf' h' hr' hq'=>have hj: ∀t a b r r',cf t a b=some r→cf' t a b=some r'→r=r':=fun t a b r r' h1 h2=>ih t a b r h1 _ (h' t a b r' h2);have e1:=dN (qn cf cf') _ _ _ _ hr;have e2:=dN (qo hj) _ _ _ _ hr';rw [e1] at e2;cases e2;exact ⟨_,_,_,hq,hq'⟩
 ·intro k x y Q v b hx h ih Q' h';cases h' with
  | yes hx' h'=>exact ih _ h'
  | no hx' h'=>rw [hx] at hx';cases hx'
 ·intro k x y Q v b hx h ih Q' h';cases h' with
  | yes hx' h'=>rw [hx] at hx';cases hx'
  | no hx' h'=>exact ih _ h'
 ·intro k x Q R v b h1 h2 h3 ih1 ih2 Q' h';cases h' with
  | loop k1 k2 k3=>
   obtain ⟨e,v',b',p1,p2⟩:=ih1 _ k1;cases e with
   | normal=>exact ih2 v' b' p1 _ (k2 v' b' p2)
   | ret=>exact ⟨_,_,_,h3 _ _ _ (by simp) p1,k3 _ _ _ (by simp) p2⟩
   | exit i=>exact ⟨_,_,_,h3 _ _ _ (by simp) p1,k3 _ _ _ (by simp) p2⟩
 ·intro x s Q v v' b b' e cf h hr hq ih Q' k;cases k with
  | q8 cf' h' hr' hq'=>have hj: ∀t a b r r',cf t a b=some r→cf' t a b=some r'→r=r':=fun t a b r r' h1 h2=>ih t a b r h1 _ (h' t a b r' h2);have e1:=E0 (qn cf cf') hr;have e2:=E0 (qo hj) hr';rw [e1] at e2;cases e2;exact ⟨_,_,_,hq,hq'⟩
 ·intro x n0 n i m clock seen es its Q v b cf h hx hi hm h0 h1 ih Q' k;cases k with
  | AR cf' h' hx' hi' hm' h0' h1'=>
   rw [hx] at hx';cases hx';rw [hi] at hi';cases hi';rw [hm] at hm';cases hm';have hj: ∀t a b r r',cf t a b=some r→cf' t a b=some r'→r=r':=fun t a b r r' h1 h2=>ih t a b r h1 _ (h' t a b r' h2);by_cases hall: ∀e∈es,seen.contains e.2.2=true
   ·obtain ⟨v1,b1,r1,q1⟩:=h0 hall;obtain ⟨v2,b2,r2,q2⟩:=h0' hall;have e1:=dN (qn cf cf') _ _ _ _ r1;have e2:=dN (qo hj) _ _ _ _ r2;rw [e1] at e2;cases e2;exact ⟨_,_,_,q1,q2⟩
   ·have: ∃e∈es,seen.contains e.2.2=false:=by simpa using hall
    obtain ⟨e,he,hn⟩:=this;obtain ⟨v1,b1,r1,q1⟩:=h1 e he hn;obtain ⟨v2,b2,r2,q2⟩:=h1' e he hn;have e1:=dN (qn cf cf') _ _ _ _ r1;have e2:=dN (qo hj) _ _ _ _ r2;rw [e1] at e2;cases e2;exact ⟨_,_,_,q1,q2⟩
 ·intro l Q v b cf h hne hr ih Q' k;cases k with
  | alt cf' h' hne' hr'=>
   have hj: ∀t a b r r',cf t a b=some r→cf' t a b=some r'→r=r':=fun t a b r r' h1 h2=>ih t a b r h1 _ (h' t a b r' h2);cases l with
   | nil=>exact absurd rfl hne
   | cons x l=>obtain ⟨v1,b1,r1,q1⟩:=hr x List.mem_cons_self;obtain ⟨v2,b2,r2,q2⟩:=hr' x List.mem_cons_self;have e1:=dN (qn cf cf') _ _ _ _ r1;have e2:=dN (qo hj) _ _ _ _ r2;rw [e1] at e2;cases e2;exact ⟨_,_,_,q1,q2⟩
 ·intro f fn L args bs r hf hl h ih r' k;cases k with
  | fn hf' hl' h'=>
   rw [hf] at hf';cases hf';rw [hl] at hl';cases hl';obtain ⟨e,v',b',p1,p2⟩:=ih _ h';unfold Be at p1 p2;cases e with
   | normal=>rw [p1] at p2;cases p2;rfl
   | ret=>rw [p1] at p2;cases p2;rfl
   | exit i=>exact p1.elim
 ·intro k s env args bs r asg body R hl hn he hk h1 h2 h3 ih1 ih3 r' k';cases k' with
  | fL hl' hn' he' hk' h1' h2' h3'=>rw [hl] at hl';cases hl';obtain ⟨e,v1,b1,p1,p2⟩:=ih1 _ h1';obtain ⟨e2,v2,b2,q1,q2⟩:=ih3 _ _ _ p1 _ (h3' _ _ _ p2);rw [←q1.2,←q2.2]
theorem Df.one {c:ax} {t:R4} {a:List AV} {bs:List ad} {r r':AV×List ad} (h:Df c t a bs r) (h':Df c t a bs r'):r=r':=by
 cases h with
 | fn hf hl h=>
  cases h' with
  | fn hf' hl' h'=>
   rw [hf] at hf';cases hf';rw [hl] at hl';cases hl';obtain ⟨e,v',b',p1,p2⟩:=h.both _ h';unfold Be at p1 p2;cases e with
   | normal=>rw [p1] at p2;cases p2;rfl
   | ret=>rw [p1] at p2;cases p2;rfl
   | exit i=>exact p1.elim
 | fL hl hn he hk h1 h2 h3=>
  cases h' with
  | fL hl' hn' he' hk' h1' h2' h3'=>rw [hl] at hl';cases hl';obtain ⟨e,v1,b1,p1,p2⟩:=h1.both _ h1';obtain ⟨e2,v2,b2,q1,q2⟩:=(h3 _ _ _ p1).both _ (h3' _ _ _ p2);rw [←q1.2,←q2.2]
noncomputable def mO (c:ax):aL:=fun f args bs=>
 open Classical in if h: ∃r,Df c f args bs r then some (Classical.choose h) else none
theorem jf {c:ax} {f:R4} {args:List AV} {bs:List ad} {r:AV×List ad}:mO c f args bs=some r↔Df c f args bs r:=by
 unfold mO;constructor
 ·intro h;split at h
  ·rename_i hx;cases h;exact Classical.choose_spec hx
  ·cases h
 ·intro h;have hx: ∃r,Df c f args bs r:=⟨r,h⟩;rw [dif_pos hx];rw [Df.one (Classical.choose_spec hx) h]
noncomputable abbrev ar (c:ax) (f:FuncId):List AV→List ad→Option (AV×List ad):=mO c (.fn f)
def Wp (c:ax):IR→cH→List (Option AV)→List ad→Prop
 | .skip,Q,v,b=>Q .normal v b
 | .ret,Q,v,b=>Q .ret v b
 | .stuck,_,_,_=>False
 | .own l,Q,v,b=>Q .normal (hZ l v b).1 (hZ l v b).2
 | .exit i,Q,v,b=>Q (.exit i) v b
 | .seq x y,Q,v,b=>Wp c x (Bd (Wp c y) Q) v b
 | .block i x,Q,v,b=>Wp c x (fun e v b=>Q (leave i e) v b) v b
 | .cg n kl its,Q,v,b=>oh (br c (mO c) b.length kl its v (b++List.replicate n .dead)) Q
 | .cond x p q,Q,v,b=>xG (kL v x) (Wp c p Q (v.set x none) b) (Wp c q Q (v.set x none) b)
 | .loop k x,Q,v,b=> ∃n,nK (Wp c x) k Q n v b
 | .q8 x s,Q,v,b=>KC (yW c (mO c) x s v b) Q
 | .AR x k n its,Q,v,b=> ∃i m clock seen es,kL v x=some (.kD i)∧ad.at b i= .iter (.map m seen clock)∧ad.at b m= .mp es clock∧
   ((∀e∈es,seen.contains e.2.2=true)→oh (br c (mO c) b.length [] its (v.set k (some (.aT [.bool false]))) (b++List.replicate n .dead)) Q)∧
   (∀e∈es,seen.contains e.2.2=false→oh (br c (mO c) b.length [] its (v.set k (some (.aT [.bool true,e.1,e.2.1]))) (b.set i (.iter (.map m (seen++ [e.2.2]) clock))++List.replicate n .dead)) Q)
 | .alt l,Q,v,b=>l≠ []∧ ∀x∈l,oh (br c (mO c) b.length x.2.1 x.2.2 v (b++List.replicate x.1 .dead)) Q
theorem tX {r:Option (List (Option AV)×List ad)} {Q:cH} (h:oh r Q): ∃v b,r=some (v,b)∧Q .normal v b:=by
 unfold oh at h;split at h
 ·exact ⟨_,_,rfl,h⟩
 ·exact h.elim
theorem rQ {r:Option (List (Option AV)×List ad)} {Q Q':cH} (hq: ∀e v b,Q e v b→Q' e v b) (h:oh r Q):oh r Q':=by obtain ⟨v,b,rfl,h⟩:=tX h;exact hq _ _ _ h
theorem qp {W:cH→List (Option AV)→List ad→Prop} (hW: ∀{Q Q':cH},(∀e v b,Q e v b→Q' e v b)→ ∀v b,W Q v b→W Q' v b) {k:List Nat} {Q Q':cH} (h: ∀e v b,Q e v b→Q' e v b): ∀(n:Nat) (v:List (Option AV)) (b:List ad),nK W k Q n v b→nK W k Q' n v b
 | 0,_,_,hr=>hr
 | n+1,v,b,hr=>by
  refine hW (fun e v' b' hq=> ?_) _ _ hr;cases e with
  | normal=>exact qp hW h n _ _ hq
  | ret=>exact h _ _ _ hq
  | exit i=>exact h _ _ _ hq
theorem Wp.mono {c:ax}: ∀(ir:IR) {Q Q':cH},(∀e v b,Q e v b→Q' e v b)→ ∀v b,Wp c ir Q v b→Wp c ir Q' v b
 | .skip,_,_,h,v,b,hw=>h _ _ _ hw
 | .ret,_,_,h,v,b,hw=>h _ _ _ hw
 | .stuck,_,_,_,_,_,hw=>hw
 | .own l,_,_,h,v,b,hw=>h _ _ _ hw
 | .exit _,_,_,h,v,b,hw=>h _ _ _ hw
 | .seq x y,Q,Q',h,v,b,hw=>Wp.mono x (fun e v b hq=>by
   cases e with
   | normal=>exact Wp.mono y h v b hq
   | ret=>exact h _ _ _ hq
   | exit i=>exact h _ _ _ hq) v b hw
 | .block i x,Q,Q',h,v,b,hw=>Wp.mono x (fun e v b hq=>h _ _ _ hq) v b hw
 | .cg n kl its,Q,Q',h,v,b,hw=>by
  simp only [Wp,oh] at hw⊢;split at hw
  ·exact h _ _ _ hw
  ·exact hw
 | .cond x p q,Q,Q',h,v,b,hw=>by
  simp only [Wp,xG] at hw⊢;split at hw
  ·exact Wp.mono p h _ b hw
  ·exact Wp.mono q h _ b hw
  ·exact hw
 | .loop k x,Q,Q',h,v,b,hw=>by
  obtain ⟨n,hn⟩:=hw;exact ⟨n,qp (fun h v b=>Wp.mono x h v b) h n v b hn⟩
 | .q8 x s,Q,Q',h,v,b,hw=>by
  simp only [Wp,KC] at hw⊢;split at hw
  ·exact h _ _ _ hw
  ·exact hw
 | .AR x k n its,Q,Q',h,v,b,hw=>by
  obtain ⟨i,m,clock,seen,es,h1,h2,h3,h4,h5⟩:=hw;exact ⟨i,m,clock,seen,es,h1,h2,h3,fun p=>rQ h (h4 p),fun e he p=>rQ h (h5 e he p)⟩
 | .alt l,Q,Q',h,v,b,hw=>⟨hw.1,fun x hx=>rQ h (hw.2 x hx)⟩
theorem vj {c:ax} {x:IR} {k:List Nat} (ih: ∀(Q:cH) (v:List (Option AV)) (b:List ad),Wp c x Q v b→kM c x Q v b) {Q:cH}:
  ∀(m:Nat) (v:List (Option AV)) (b:List ad),nK (Wp c x) k Q m v b→kM c (.loop k x) Q v b
 | 0,_,_,h=>h.elim
 | m+1,v,b,h=>by
  refine .loop (ih _ _ _ h) (fun v' b' h'=>vj ih m _ _ h') (fun e v' b' hne h'=> ?_);cases e with
  | normal=>exact absurd rfl hne
  | ret=>exact h'
  | exit i=>exact h'
theorem pk {c:ax}: ∀(x:IR) (Q:cH) (v:List (Option AV)) (b:List ad),Wp c x Q v b→kM c x Q v b
 | .skip,Q,v,b,h=> .skip h
 | .ret,Q,v,b,h=> .ret h
 | .stuck,Q,v,b,h=>h.elim
 | .own l,Q,v,b,h=> .own h
 | .exit i,Q,v,b,h=> .exit h
 | .seq x y,Q,v,b,h=> .seq (pk x _ v b h) (fun v' b' h'=>pk y _ v' b' h') (fun e v' b' hne h'=>by
   cases e with
   | normal=>exact absurd rfl hne
   | ret=>exact h'
   | exit i=>exact h')
 | .block i x,Q,v,b,h=> .block (pk x _ v b h)
 | .cg m kl its,Q,v,b,h=>by
  simp only [Wp,oh] at h;split at h
  ·rename_i v' b' hrun;exact .cg (mO c) (fun _ _ _ _ hr=>jf.1 hr) hrun h
  ·exact h.elim
 | .cond x p q,Q,v,b,h=>by
  simp only [Wp,xG] at h;split at h
  ·rename_i hx;exact .yes hx (pk p _ _ b h)
  ·rename_i hx;exact .no hx (pk q _ _ b h)
  ·exact h.elim
 | .loop k x,Q,v,b,h=>by
  obtain ⟨m,hm⟩:=h;exact vj (fun Q v b h=>pk x Q v b h) m v b hm
 | .q8 x s,Q,v,b,h=>by
  simp only [Wp,KC] at h;split at h
  ·rename_i e v' b' hrun;exact .q8 (mO c) (fun _ _ _ _ hr=>jf.1 hr) hrun h
  ·exact h.elim
 | .AR x k n its,Q,v,b,h=>by
  obtain ⟨i,m,clock,seen,es,h1,h2,h3,h4,h5⟩:=h;exact .AR (mO c) (fun _ _ _ _ hr=>jf.1 hr) h1 h2 h3 (fun p=>tX (h4 p)) (fun e he p=>tX (h5 e he p))
 | .alt l,Q,v,b,h=> .alt (mO c) (fun _ _ _ _ hr=>jf.1 hr) h.1 (fun x hx=>tX (h.2 x hx))
theorem ab {c:ax} {f:FuncId} {fn:Func} {L:bT} {args:List AV} {bs:List ad} {r:AV×List ad} (hf:c.fn.get none f=some fn) (hl:an c fn=some L)
  (hw:Wp c L.code (Be c (c.own f) L.res bs.length r) (gZ L.keep args) bs):ar c f args bs=some r:=
 jf.2 (.fn hf hl (pk _ _ _ _ hw))
end Go.Am
