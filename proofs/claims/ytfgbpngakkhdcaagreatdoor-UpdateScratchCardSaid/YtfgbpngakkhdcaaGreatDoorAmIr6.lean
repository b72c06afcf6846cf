/- What the plainer form does: -/
import Derived.Test.YtfgbpngakkhdcaaGreatDoorAmIr2
set_option linter.all false
namespace Go.Am
def AZ (n:Nat) (v:List (Option AV)) (b:List ad):List (Option AV):=
 match decide (b.length<=n) with
 | true=>v
 | false=>v.map (Option.map (forget n))
def eO (n:Nat) (b:List ad):List ad:=
 match decide (b.length<=n) with
 | true=>b
 | false=>(b.take n).map (bO n)
def kD:List Nat->List (Option AV)->List (Option AV)
 | [],v=>v
 | i::r,v=>kD r (v.set i none)
def tv (k:List Nat) (n:Nat):Nat->List (Option AV)->Bool
 | _, []=>true
 | i,none::r=>tv k n (i+1) r
 | i,some a::r=>(a.under n || !k.contains (i+1000))&&tv k n (i+1) r
def je (n:Nat) (b:List ad) (v:AV):AV:=
 match v.under n with
 | true=>v
 | false=>match v.hand n b with
  | some v'=>match v'.under n with
   | true=>v'
   | false=> .any
  | none=> .any
def uI (n:Nat) (v:List (Option AV)) (b:List ad):List (Option AV):=v.map (Option.map (je n b))
def rI (k:List Nat) (n:Nat) (v:List (Option AV)) (b:List ad):List (Option AV):=
 match decide (b.length<=n) with
 | true=>v
 | false=>match tv k n 0 (kD k v) with
  | true=>uI n v b
  | false=>v
def rJ (k:List Nat) (n:Nat) (v:List (Option AV)) (b:List ad):List ad:=
 match decide (b.length<=n) with
 | true=>b
 | false=>match tv k n 0 (kD k v) with
  | true=>eO n b
  | false=>b
def leave (i:Nat):Ex->Ex
 | .exit j=>if j=i then .normal else .exit j
 | e=>e
def AV.isNil:AV->Bool
 | .ag nl _ es=>(nl==some true)&&es.isEmpty
 | _=>false
def Kw (x:AV) (b:List ad):List ad:=
 match x with
 | .ax k _=>match ad.at b k with
  | .sl sh sz es=>b.set k (.sl ⟨true,sh.ty,none⟩ sz es)
  | _=>b
 | _=>b
def Ii (o:rO) (v:List (Option AV)) (b:List ad):List (Option AV)×List ad:=
 match o.cell with
 | none=>match lK v o.slot with
  | some x=>if x.isNil=true then (if o.sz=0 then (v,b) else (v.set o.slot (some (.ax b.length 0)),b++ [.sl ⟨false,some o.el,none⟩ o.sz []])) else (v,if o.sz=0 then Kw x b else b)
  | none=>(v,b)
 | some off=>match lK v o.slot with
  | some (.ptr k base)=>match ad.at b k with
   | .var ty cs=>match cs[base+off]? with
    | some x=>if x.isNil=true then (v,b.set k (.var ty (cs.set (base+off) (.ax b.length 0)))++ [.sl ⟨false,some o.el,none⟩ o.sz []]) else (v,b)
    | none=>(v,b)
   | _=>(v,b)
  | _=>(v,b)
def jd:List rO->List (Option AV)->List ad->List (Option AV)×List ad
 | [],v,b=>(v,b)
 | o::r,v,b=>jd r (Ii o v b).1 (Ii o v b).2
def jc (keep:List Nat) (args:List AV):List (Option AV):=
 match keep with
 | []=> []
 | i::r=>args[i]?::jc r args
def Nw (c:av) (v:List (Option AV)) (b:List ad):Mz->Option AV
 | .v i=>lK v i
 | .cell i ty=>match lK v i with
  | some (.ptr k off)=>match ad.at b k,c.ti ty with
   | .var _ cs,some i=>iF i cs off
   | _,_=>none
  | _=>none
def lQ (c:av) (v:List (Option AV)) (b:List ad):List Mz->Option (List AV)
 | []=>some []
 | r::l=>match Nw c v b r with
  | some x=>match lQ c v b l with
   | some y=>some (x::y)
   | none=>none
  | none=>none
def Kx (n:Nat) (b:List ad) (v:AV):Option (AV×List ad):=
 match v.hand n b with
 | some v'=>match v'.under n with
  | true=>some (v',eO n b)
  | false=>some (v,b)
 | none=>none
def Ky (own:Bool) (n:Nat) (b:List ad) (v:AV):Option (AV×List ad):=
 match own&& !v.under n with
 | true=>some (v,b)
 | false=>Kx n b v
def Ij (c:av) (own:Bool) (res:List Mz) (n:Nat) (v:List (Option AV)) (b:List ad):Option (AV×List ad):=
 match lQ c v b res with
 | some vs=>Ky own n b (Ce vs)
 | none=>none
def xf:Ex->QP
 | .normal=> .ready
 | e=> .done e
def Ex.rU:Ex->Bool
 | .normal=>true
 | _=>false
def Nx (v:List (Option AV)) (n:Nat) (r:Option (AV×List ad)):Option (Ex×List (Option AV)×List ad):=
 match r with
 | some (_,b')=>match ad.at b' n with
  | .loop .ready=>some (.normal,AZ n v b',eO n b')
  | .loop (.done e)=>some (e,AZ n v b',eO n b')
  | _=>none
 | none=>none
def AJ (c:av) (cf:aF) (x:Nat) (s:Site) (v:List (Option AV)) (b:List ad):Option (Ex×List (Option AV)×List ad):=
 match lK v x with
 | some (.fn f [] caps)=>match c.ext f with
  | some _=>none
  | none=>Nx v b.length (cf (.fn f) (.gm b.length s (v.map (·.getD .any))::caps) (b++ [.loop .ready]))
 | _=>none
section
variable {c:av} {f g:aF}
theorem jT (h:Jt f g) {op:Op} {φ:Operand->AV} {bs:List ad} {id:Nat} {r:AV×c9} (hr:eb c f op φ bs id=some r):eb c g op φ bs id=some r:=by
 unfold eb at hr⊢;split at hr
 ·split at hr
  ·split at hr
   ·split at hr
    ·exact hr
    ·exact Kz h hr
   ·split at hr
    ·rename_i hf;rw [h _ _ _ _ hf];exact hr
    ·cases hr
   ·cases hr
  ·exact hr
 ·exact hr
theorem KA {f g:aF} (h:Jt f g):Jt (rq f) (rq g):=fun t args bs r hr=>by
 unfold rq at hr⊢;split at hr
 ·split at hr
  ·rename_i hf;rw [h _ _ _ _ hf];exact hr
  ·rename_i hf;rw [h _ _ _ _ hf];exact hr
  ·cases hr
 ·exact h _ _ _ _ hr
theorem lR {f g:aF} (h:Jt f g): ∀b,Jt (cx f b) (cx g b)
 | true=>h
 | false=>KA h
theorem Ny (h:Jt f g) {base:Nat} {mask:Option (List Nat)} {k:Nat} {o:Op} {vs:List (Nat×AV)} {bs:List ad} {r:AV×List ad} (hr:Ia c f base mask k o vs bs=some r):Ia c g base mask k o vs bs=some r:=by
 unfold Ia at hr⊢;split at hr
 ·unfold GZ at hr⊢;split at hr
  ·rename_i hd;rw [jT h hd];exact hr
  ·cases hr
 ·unfold GY at hr⊢;split at hr
  ·rename_i hd;rw [jT (lR h _) hd];exact hr
  ·rename_i hd;rw [jT (lR h _) hd];exact hr
  ·rename_i hd;rw [jT (lR h _) hd];exact hr
  ·rename_i hd;rw [jT (lR h _) hd];exact hr
  ·rename_i hd;rw [jT (lR h _) hd];exact hr
  ·rename_i hd;rw [jT (lR h _) hd];exact hr
  ·cases hr
theorem ed (h:Jt f g) {base:Nat} {kl:List Nat}: ∀(its:List It) (env:List (Option AV)) (bs:List ad) (r:List (Option AV)×List ad),bD c f base kl its env bs=some r->bD c g base kl its env bs=some r
 | [],_,_,_,hr=>hr
 | .par l::its,env,bs,r,hr=>by
  simp only [bD] at hr⊢;split at hr
  ·exact ed h its _ _ r hr
  ·cases hr
 | .dm mask k d g' o xs::its,env,bs,r,hr=>by
  simp only [bD] at hr⊢;split at hr
  ·split at hr
   ·split at hr
    ·rename_i he;rw [Ny h he];exact ed h its _ _ r hr
    ·cases hr
   ·cases hr
  ·exact ed h its _ _ r hr
  ·cases hr
end
theorem G6 {c:av} {f g:aF} (h:Jt f g) {x:Nat} {s:Site} {v:List (Option AV)} {b:List ad} {r:Ex×List (Option AV)×List ad} (hr:AJ c f x s v b=some r):AJ c g x s v b=some r:=by
 unfold AJ at hr⊢;split at hr
 ·split at hr
  ·cases hr
  ·unfold Nx at hr⊢;split at hr
   ·rename_i hf;rw [h _ _ _ _ hf];exact hr
   ·cases hr
 ·cases hr
abbrev cV:=Ex->List (Option AV)->List ad->Prop
def C2 (W:cV->List (Option AV)->List ad->Prop) (Q:cV):cV:=fun e v b=>
 match e with
 | .normal=>W Q v b
 | e=>Q e v b
def o6 (W:cV->List (Option AV)->List ad->Prop) (k:List Nat) (Q:cV):Nat->List (Option AV)->List ad->Prop
 | 0,_,_=>False
 | n+1,v,b=>W (fun e v' b'=>match e with
  | .normal=>o6 W k Q n (rI k b.length v' b') (rJ k b.length v' b')
  | e=>Q e v' b') (kD k v) b
def pH (r:Option (List (Option AV)×List ad)) (Q:cV):Prop:=
 match r with
 | some (v,b)=>Q .normal v b
 | none=>False
def zf (x:Option AV) (p q:Prop):Prop:=
 match x with
 | some (.bool true)=>p
 | some (.bool false)=>q
 | _=>False
def Nz (r:Option (Ex×List (Option AV)×List ad)) (Q:cV):Prop:=
 match r with
 | some (e,v,b)=>Q e v b
 | none=>False
def C3 (c:av) (own:Bool) (res:List Mz) (n:Nat) (r:AV×List ad):cV:=fun e v b=>
 match e with
 | .exit _=>False
 | _=>Ij c own res n v b=some r
mutual
inductive lL (c:av):IR->cV->List (Option AV)->List ad->Prop where
 | skip {Q:cV} {v:List (Option AV)} {b:List ad} (h:Q .normal v b):lL c .skip Q v b
 | ret {Q:cV} {v:List (Option AV)} {b:List ad} (h:Q .ret v b):lL c .ret Q v b
 | own {l:List rO} {Q:cV} {v:List (Option AV)} {b:List ad} (h:Q .normal (jd l v b).1 (jd l v b).2):lL c (.own l) Q v b
 | exit {i:Nat} {Q:cV} {v:List (Option AV)} {b:List ad} (h:Q (.exit i) v b):lL c (.exit i) Q v b
 | seq {x y:IR} {Q R:cV} {v:List (Option AV)} {b:List ad} (h1:lL c x R v b) (h2: ∀v' b',R .normal v' b'->lL c y Q v' b') (h3: ∀e v' b',e≠ .normal->R e v' b'->Q e v' b'):lL c (.seq x y) Q v b
 | block {i:Nat} {x:IR} {Q:cV} {v:List (Option AV)} {b:List ad} (h:lL c x (fun e v b=>Q (leave i e) v b) v b):lL c (.block i x) Q v b
 | bW {m:Nat} {kl:List Nat} {its:List It} {Q:cV} {v v':List (Option AV)} {b b':List ad} (cf:aF) (h: ∀f a bs r,cf f a bs=some r->Fa c f a bs r) (hr:bD c cf b.length kl its v (b++List.replicate m .dead)=some (v',b')) (hq:Q .normal v' b'):lL c (.bW m kl its) Q v b
 | yes {k:Nat} {x y:IR} {Q:cV} {v:List (Option AV)} {b:List ad} (hx:lK v k=some (.bool true)) (h:lL c x Q (v.set k none) b):lL c (.cond k x y) Q v b
 | no {k:Nat} {x y:IR} {Q:cV} {v:List (Option AV)} {b:List ad} (hx:lK v k=some (.bool false)) (h:lL c y Q (v.set k none) b):lL c (.cond k x y) Q v b
 | loop {k:List Nat} {x:IR} {Q R:cV} {v:List (Option AV)} {b:List ad} (h1:lL c x R (kD k v) b) (h2: ∀v' b',R .normal v' b'->lL c (.loop k x) Q (rI k b.length v' b') (rJ k b.length v' b')) (h3: ∀e v' b',e≠ .normal->R e v' b'->Q e v' b'):lL c (.loop k x) Q v b
 | sP {x:Nat} {s:Site} {Q:cV} {v v':List (Option AV)} {b b':List ad} {e:Ex} (cf:aF) (h: ∀f a bs r,cf f a bs=some r->Fa c f a bs r) (hr:AJ c cf x s v b=some (e,v',b')) (hq:Q e v' b'):lL c (.sP x s) Q v b
 | CF {x k n i m clock:Nat} {seen:List Nat} {es:List (AV×AV×Nat)} {its:List It} {Q:cV} {v:List (Option AV)} {b:List ad} (cf:aF) (h: ∀f a bs r,cf f a bs=some r->Fa c f a bs r) (hx:lK v x=some (.lE i)) (hi:ad.at b i= .iter (.map m seen clock)) (hm:ad.at b m= .mp es clock)
   (h0:(∀e∈es,seen.contains e.2.2=true)-> ∃v' b',bD c cf b.length [] its (v.set k (some (.aL [.bool false]))) (b++List.replicate n .dead)=some (v',b')∧Q .normal v' b')
   (h1: ∀e∈es,seen.contains e.2.2=false-> ∃v' b',bD c cf b.length [] its (v.set k (some (.aL [.bool true,e.1,e.2.1]))) (b.set i (.iter (.map m (seen++ [e.2.2]) clock))++List.replicate n .dead)=some (v',b')∧Q .normal v' b'):lL c (.CF x k n its) Q v b
 | alt {l:List (Nat×List Nat×List It)} {Q:cV} {v:List (Option AV)} {b:List ad} (cf:aF) (h: ∀f a bs r,cf f a bs=some r->Fa c f a bs r) (hne:l≠ [])
   (hr: ∀x∈l,∃v' b',bD c cf b.length x.2.1 x.2.2 v (b++List.replicate x.1 .dead)=some (v',b')∧Q .normal v' b'):lL c (.alt l) Q v b
inductive Fa (c:av):Vq->List AV->List ad->AV×List ad->Prop where
 | fn {f:FuncId} {fn:Func} {L:ca} {args:List AV} {bs:List ad} {r:AV×List ad} (hf:c.fn.get none f=some fn) (hl:al c fn=some L) (h:lL c L.code (C3 c (c.own f) L.res bs.length r) (jc L.keep args) bs):Fa c (.fn f) args bs r
 | gm {k:Nat} {s:Site} {env args:List AV} {bs:List ad} {r:AV×List ad} {asg body:IR} {R:cV} (hl:vA c s=some (asg,body)) (hn:args.length=s.ps.size) (he:env.length=s.keep.length) (hk:ad.at bs k= .loop .ready) (h1:lL c asg R (AI s env args) bs)
   (h2: ∀e v1 b1,R e v1 b1->e= .normal∧ad.at b1 k= .loop .ready) (h3: ∀e v1 b1,R e v1 b1->lL c body (fun e _ b2=>ad.at b2 k= .loop .busy∧(AV.bool e.rU,eO bs.length (b2.set k (.loop (xf e))))=r) v1 (b1.set k (.loop .busy))):Fa c (.gm k s env) args bs r
end
def G7 (f g:aF):aF:=fun t a b=>match f t a b with
 | some r=>some r
 | none=>g t a b
theorem rV (f g:aF):Jt f (G7 f g):=fun t a b r h=>by simp only [G7,h]
theorem rW {f g:aF} (h: ∀t a b r r',f t a b=some r->g t a b=some r'->r=r'):Jt g (G7 f g):=fun t a b r hr=>by
 unfold G7;cases hf:f t a b with
 | none=>exact hr
 | some r0=>rw [h t a b r0 r hf hr]
theorem lL.both {c:av} {x:IR} {Q:cV} {v:List (Option AV)} {b:List ad} (h:lL c x Q v b): ∀Q',lL c x Q' v b-> ∃e v' b',Q e v' b'∧Q' e v' b':=by
 refine lL.rec (c:=c) (motive_1:=fun x Q v b _=> ∀Q',lL c x Q' v b-> ∃e v' b',Q e v' b'∧Q' e v' b') (motive_2:=fun t a bs r _=> ∀r',Fa c t a bs r'->r=r')
  ?_ ?_ ?_ ?_ ?_ ?_ ?_ ?_ ?_ ?_ ?_ ?_ ?_ ?_ ?_ h
 ·intro Q v b h Q' k;cases k with | skip h'=>exact ⟨_,_,_,h,h'⟩
 ·intro Q v b h Q' k;cases k with | ret h'=>exact ⟨_,_,_,h,h'⟩
 ·intro l Q v b h Q' k;cases k with | own h'=>exact ⟨_,_,_,h,h'⟩
 ·intro i Q v b h Q' k;cases k with | exit h'=>exact ⟨_,_,_,h,h'⟩
 ·intro x y Q R v b h1 h2 h3 ih1 ih2 Q' k;cases k with
  | seq k1 k2 k3=>
   obtain ⟨e,v',b',p1,p2⟩:=ih1 _ k1;cases e with
   | normal=>exact ih2 v' b' p1 _ (k2 v' b' p2)
   | ret=>exact ⟨_,_,_,h3 _ _ _ (by simp) p1,k3 _ _ _ (by simp) p2⟩
   | exit i=>exact ⟨_,_,_,h3 _ _ _ (by simp) p1,k3 _ _ _ (by simp) p2⟩
 ·intro i x Q v b h ih Q' k;cases k with
  | block h'=>obtain ⟨e,v',b',p1,p2⟩:=ih _ h';exact ⟨_,_,_,p1,p2⟩
 ·intro m kl its Q v v' b b' cf h hr hq ih Q' k;cases k with
  | bW cf' h' hr' hq'=>have hj: ∀t a b r r',cf t a b=some r->cf' t a b=some r'->r=r':=fun t a b r r' h1 h2=>ih t a b r h1 _ (h' t a b r' h2);have e1:=ed (rV cf cf') _ _ _ _ hr;have e2:=ed (rW hj) _ _ _ _ hr';rw [e1] at e2;cases e2;exact ⟨_,_,_,hq,hq'⟩
 ·intro k x y Q v b hx h ih Q' h';cases h' with
  | yes hx' h'=>exact ih _ h'
  | no hx' h'=>rw [hx] at hx';cases hx'
 ·intro k x y Q v b hx h ih Q' h';cases h' with
  | yes hx' h'=>rw [hx] at hx';cases hx'
  | no hx' h'=>exact ih _ h'
 ·intro k x Q R v b h1 h2 h3 ih1 ih2 Q' h';cases h' with
  | loop k1 k2 k3=>
   obtain ⟨e,v',b',p1,p2⟩:=ih1 _ k1;cases e with
   | normal=>exact ih2 v' b' p1 _ (k2 v' b' p2)
   | ret=>exact ⟨_,_,_,h3 _ _ _ (by simp) p1,k3 _ _ _ (by simp) p2⟩
   | exit i=>exact ⟨_,_,_,h3 _ _ _ (by simp) p1,k3 _ _ _ (by simp) p2⟩
 ·intro x s Q v v' b b' e cf h hr hq ih Q' k;cases k with
  | sP cf' h' hr' hq'=>have hj: ∀t a b r r',cf t a b=some r->cf' t a b=some r'->r=r':=fun t a b r r' h1 h2=>ih t a b r h1 _ (h' t a b r' h2);have e1:=G6 (rV cf cf') hr;have e2:=G6 (rW hj) hr';rw [e1] at e2;cases e2;exact ⟨_,_,_,hq,hq'⟩
 ·intro x n0 n i m clock seen es its Q v b cf h hx hi hm h0 h1 ih Q' k;cases k with
  | CF cf' h' hx' hi' hm' h0' h1'=>
   rw [hx] at hx';cases hx';rw [hi] at hi';cases hi';rw [hm] at hm';cases hm';have hj: ∀t a b r r',cf t a b=some r->cf' t a b=some r'->r=r':=fun t a b r r' h1 h2=>ih t a b r h1 _ (h' t a b r' h2);by_cases hall: ∀e∈es,seen.contains e.2.2=true
   ·obtain ⟨v1,b1,r1,q1⟩:=h0 hall;obtain ⟨v2,b2,r2,q2⟩:=h0' hall;have e1:=ed (rV cf cf') _ _ _ _ r1;have e2:=ed (rW hj) _ _ _ _ r2;rw [e1] at e2;cases e2;exact ⟨_,_,_,q1,q2⟩
   ·have: ∃e∈es,seen.contains e.2.2=false:=by simpa using hall
    obtain ⟨e,he,hn⟩:=this;obtain ⟨v1,b1,r1,q1⟩:=h1 e he hn;obtain ⟨v2,b2,r2,q2⟩:=h1' e he hn;have e1:=ed (rV cf cf') _ _ _ _ r1;have e2:=ed (rW hj) _ _ _ _ r2;rw [e1] at e2;cases e2;exact ⟨_,_,_,q1,q2⟩
 ·intro l Q v b cf h hne hr ih Q' k;cases k with
  | alt cf' h' hne' hr'=>
   have hj: ∀t a b r r',cf t a b=some r->cf' t a b=some r'->r=r':=fun t a b r r' h1 h2=>ih t a b r h1 _ (h' t a b r' h2);cases l with
   | nil=>exact absurd rfl hne
   | cons x l=>obtain ⟨v1,b1,r1,q1⟩:=hr x List.mem_cons_self;obtain ⟨v2,b2,r2,q2⟩:=hr' x List.mem_cons_self;have e1:=ed (rV cf cf') _ _ _ _ r1;have e2:=ed (rW hj) _ _ _ _ r2;rw [e1] at e2;cases e2;exact ⟨_,_,_,q1,q2⟩
 ·intro f fn L args bs r hf hl h ih r' k;cases k with
  | fn hf' hl' h'=>
   rw [hf] at hf';cases hf';rw [hl] at hl';cases hl';obtain ⟨e,v',b',p1,p2⟩:=ih _ h';unfold C3 at p1 p2;cases e with
   | normal=>rw [p1] at p2;cases p2;rfl
   | ret=>rw [p1] at p2;cases p2;rfl
   | exit i=>exact p1.elim
 ·intro k s env args bs r asg body R hl hn he hk h1 h2 h3 ih1 ih3 r' k';cases k' with
  | gm hl' hn' he' hk' h1' h2' h3'=>rw [hl] at hl';cases hl';obtain ⟨e,v1,b1,p1,p2⟩:=ih1 _ h1';obtain ⟨e2,v2,b2,q1,q2⟩:=ih3 _ _ _ p1 _ (h3' _ _ _ p2);rw [<-q1.2,<-q2.2]
theorem Fa.one {c:av} {t:Vq} {a:List AV} {bs:List ad} {r r':AV×List ad} (h:Fa c t a bs r) (h':Fa c t a bs r'):r=r':=by
 cases h with
 | fn hf hl h=>
  cases h' with
  | fn hf' hl' h'=>
   rw [hf] at hf';cases hf';rw [hl] at hl';cases hl';obtain ⟨e,v',b',p1,p2⟩:=h.both _ h';unfold C3 at p1 p2;cases e with
   | normal=>rw [p1] at p2;cases p2;rfl
   | ret=>rw [p1] at p2;cases p2;rfl
   | exit i=>exact p1.elim
 | gm hl hn he hk h1 h2 h3=>
  cases h' with
  | gm hl' hn' he' hk' h1' h2' h3'=>rw [hl] at hl';cases hl';obtain ⟨e,v1,b1,p1,p2⟩:=h1.both _ h1';obtain ⟨e2,v2,b2,q1,q2⟩:=(h3 _ _ _ p1).both _ (h3' _ _ _ p2);rw [<-q1.2,<-q2.2]
noncomputable def oe (c:av):aF:=fun f args bs=>
 open Classical in if h: ∃r,Fa c f args bs r then some (Classical.choose h) else none
theorem jP {c:av} {f:Vq} {args:List AV} {bs:List ad} {r:AV×List ad}:oe c f args bs=some r↔Fa c f args bs r:=by
 unfold oe;constructor
 ·intro h;split at h
  ·rename_i hx;cases h;exact Classical.choose_spec hx
  ·cases h
 ·intro h;have hx: ∃r,Fa c f args bs r:=⟨r,h⟩;rw [dif_pos hx];rw [Fa.one (Classical.choose_spec hx) h]
noncomputable abbrev aq (c:av) (f:FuncId):List AV->List ad->Option (AV×List ad):=oe c (.fn f)
def Wp (c:av):IR->cV->List (Option AV)->List ad->Prop
 | .skip,Q,v,b=>Q .normal v b
 | .ret,Q,v,b=>Q .ret v b
 | .stuck,_,_,_=>False
 | .own l,Q,v,b=>Q .normal (jd l v b).1 (jd l v b).2
 | .exit i,Q,v,b=>Q (.exit i) v b
 | .seq x y,Q,v,b=>Wp c x (C2 (Wp c y) Q) v b
 | .block i x,Q,v,b=>Wp c x (fun e v b=>Q (leave i e) v b) v b
 | .bW n kl its,Q,v,b=>pH (bD c (oe c) b.length kl its v (b++List.replicate n .dead)) Q
 | .cond x p q,Q,v,b=>zf (lK v x) (Wp c p Q (v.set x none) b) (Wp c q Q (v.set x none) b)
 | .loop k x,Q,v,b=> ∃n,o6 (Wp c x) k Q n v b
 | .sP x s,Q,v,b=>Nz (AJ c (oe c) x s v b) Q
 | .CF x k n its,Q,v,b=> ∃i m clock seen es,lK v x=some (.lE i)∧ad.at b i= .iter (.map m seen clock)∧ad.at b m= .mp es clock∧
   ((∀e∈es,seen.contains e.2.2=true)->pH (bD c (oe c) b.length [] its (v.set k (some (.aL [.bool false]))) (b++List.replicate n .dead)) Q)∧
   (∀e∈es,seen.contains e.2.2=false->pH (bD c (oe c) b.length [] its (v.set k (some (.aL [.bool true,e.1,e.2.1]))) (b.set i (.iter (.map m (seen++ [e.2.2]) clock))++List.replicate n .dead)) Q)
 | .alt l,Q,v,b=>l≠ []∧ ∀x∈l,pH (bD c (oe c) b.length x.2.1 x.2.2 v (b++List.replicate x.1 .dead)) Q
theorem vF {r:Option (List (Option AV)×List ad)} {Q:cV} (h:pH r Q): ∃v b,r=some (v,b)∧Q .normal v b:=by
 unfold pH at h;split at h
 ·exact ⟨_,_,rfl,h⟩
 ·exact h.elim
theorem tw {r:Option (List (Option AV)×List ad)} {Q Q':cV} (hq: ∀e v b,Q e v b->Q' e v b) (h:pH r Q):pH r Q':=by obtain ⟨v,b,rfl,h⟩:=vF h;exact hq _ _ _ h
theorem rX {W:cV->List (Option AV)->List ad->Prop} (hW: ∀{Q Q':cV},(∀e v b,Q e v b->Q' e v b)-> ∀v b,W Q v b->W Q' v b) {k:List Nat} {Q Q':cV} (h: ∀e v b,Q e v b->Q' e v b): ∀(n:Nat) (v:List (Option AV)) (b:List ad),o6 W k Q n v b->o6 W k Q' n v b
 | 0,_,_,hr=>hr
 | n+1,v,b,hr=>by
  refine hW (fun e v' b' hq=> ?_) _ _ hr;cases e with
  | normal=>exact rX hW h n _ _ hq
  | ret=>exact h _ _ _ hq
  | exit i=>exact h _ _ _ hq
theorem Wp.mono {c:av}: ∀(ir:IR) {Q Q':cV},(∀e v b,Q e v b->Q' e v b)-> ∀v b,Wp c ir Q v b->Wp c ir Q' v b
 | .skip,_,_,h,v,b,hw=>h _ _ _ hw
 | .ret,_,_,h,v,b,hw=>h _ _ _ hw
 | .stuck,_,_,_,_,_,hw=>hw
 | .own l,_,_,h,v,b,hw=>h _ _ _ hw
 | .exit _,_,_,h,v,b,hw=>h _ _ _ hw
 | .seq x y,Q,Q',h,v,b,hw=>Wp.mono x (fun e v b hq=>by
   cases e with
   | normal=>exact Wp.mono y h v b hq
   | ret=>exact h _ _ _ hq
   | exit i=>exact h _ _ _ hq) v b hw
 | .block i x,Q,Q',h,v,b,hw=>Wp.mono x (fun e v b hq=>h _ _ _ hq) v b hw
 | .bW n kl its,Q,Q',h,v,b,hw=>by
  simp only [Wp,pH] at hw⊢;split at hw
  ·exact h _ _ _ hw
  ·exact hw
 | .cond x p q,Q,Q',h,v,b,hw=>by
  simp only [Wp,zf] at hw⊢;split at hw
  ·exact Wp.mono p h _ b hw
  ·exact Wp.mono q h _ b hw
  ·exact hw
 | .loop k x,Q,Q',h,v,b,hw=>by
  obtain ⟨n,hn⟩:=hw;exact ⟨n,rX (fun h v b=>Wp.mono x h v b) h n v b hn⟩
 | .sP x s,Q,Q',h,v,b,hw=>by
  simp only [Wp,Nz] at hw⊢;split at hw
  ·exact h _ _ _ hw
  ·exact hw
 | .CF x k n its,Q,Q',h,v,b,hw=>by
  obtain ⟨i,m,clock,seen,es,h1,h2,h3,h4,h5⟩:=hw;exact ⟨i,m,clock,seen,es,h1,h2,h3,fun p=>tw h (h4 p),fun e he p=>tw h (h5 e he p)⟩
 | .alt l,Q,Q',h,v,b,hw=>⟨hw.1,fun x hx=>tw h (hw.2 x hx)⟩
theorem xg {c:av} {x:IR} {k:List Nat} (ih: ∀(Q:cV) (v:List (Option AV)) (b:List ad),Wp c x Q v b->lL c x Q v b) {Q:cV}:
  ∀(m:Nat) (v:List (Option AV)) (b:List ad),o6 (Wp c x) k Q m v b->lL c (.loop k x) Q v b
 | 0,_,_,h=>h.elim
 | m+1,v,b,h=>by
  refine .loop (ih _ _ _ h) (fun v' b' h'=>xg ih m _ _ h') (fun e v' b' hne h'=> ?_);cases e with
  | normal=>exact absurd rfl hne
  | ret=>exact h'
  | exit i=>exact h'
theorem qD {c:av}: ∀(x:IR) (Q:cV) (v:List (Option AV)) (b:List ad),Wp c x Q v b->lL c x Q v b
 | .skip,Q,v,b,h=> .skip h
 | .ret,Q,v,b,h=> .ret h
 | .stuck,Q,v,b,h=>h.elim
 | .own l,Q,v,b,h=> .own h
 | .exit i,Q,v,b,h=> .exit h
 | .seq x y,Q,v,b,h=> .seq (qD x _ v b h) (fun v' b' h'=>qD y _ v' b' h') (fun e v' b' hne h'=>by
   cases e with
   | normal=>exact absurd rfl hne
   | ret=>exact h'
   | exit i=>exact h')
 | .block i x,Q,v,b,h=> .block (qD x _ v b h)
 | .bW m kl its,Q,v,b,h=>by
  simp only [Wp,pH] at h;split at h
  ·rename_i v' b' hrun;exact .bW (oe c) (fun _ _ _ _ hr=>jP.1 hr) hrun h
  ·exact h.elim
 | .cond x p q,Q,v,b,h=>by
  simp only [Wp,zf] at h;split at h
  ·rename_i hx;exact .yes hx (qD p _ _ b h)
  ·rename_i hx;exact .no hx (qD q _ _ b h)
  ·exact h.elim
 | .loop k x,Q,v,b,h=>by
  obtain ⟨m,hm⟩:=h;exact xg (fun Q v b h=>qD x Q v b h) m v b hm
 | .sP x s,Q,v,b,h=>by
  simp only [Wp,Nz] at h;split at h
  ·rename_i e v' b' hrun;exact .sP (oe c) (fun _ _ _ _ hr=>jP.1 hr) hrun h
  ·exact h.elim
 | .CF x k n its,Q,v,b,h=>by
  obtain ⟨i,m,clock,seen,es,h1,h2,h3,h4,h5⟩:=h;exact .CF (oe c) (fun _ _ _ _ hr=>jP.1 hr) h1 h2 h3 (fun p=>vF (h4 p)) (fun e he p=>vF (h5 e he p))
 | .alt l,Q,v,b,h=> .alt (oe c) (fun _ _ _ _ hr=>jP.1 hr) h.1 (fun x hx=>vF (h.2 x hx))
theorem aa {c:av} {f:FuncId} {fn:Func} {L:ca} {args:List AV} {bs:List ad} {r:AV×List ad} (hf:c.fn.get none f=some fn) (hl:al c fn=some L)
  (hw:Wp c L.code (C3 c (c.own f) L.res bs.length r) (jc L.keep args) bs):aq c f args bs=some r:=
 jP.2 (.fn hf hl (qD _ _ _ _ hw))
end Go.Am
