/-
 What the plainer form does: an evaluator with fuel, a predicate transformer, and that both are sound for the model.
-/
import Derived.Test.YtfnkchadeaedlaaGreatDoorAmIr2
set_option linter.all false
namespace Go.Am
def x6 (n:Nat) (v:List (Option AV)) (b:List ad):List (Option AV):=
 match decide (b.length≤n) with
 | true=>v
 | false=>v.map (Option.map (forget n))
def de (n:Nat) (b:List ad):List ad:=
 match decide (b.length≤n) with
 | true=>b
 | false=>(b.take n).map (bp n)
def jt:List Nat→List (Option AV)→List (Option AV)
 | [],v=>v
 | i::r,v=>jt r (v.set i none)
def eH (k:List Nat) (n:Nat):Nat→List (Option AV)→Bool
 | _, []=>true
 | i,none::r=>eH k n (i+1) r
 | i,some a::r=>(a.under n || !k.contains (i+1000))&&eH k n (i+1) r
def eX (n:Nat) (b:List ad) (v:AV):AV:=
 match v.under n with
 | true=>v
 | false=>match v.hand n b with
  | some v'=>match v'.under n with
   | true=>v'
   | false=> .any
  | none=> .any
def rQ (n:Nat) (v:List (Option AV)) (b:List ad):List (Option AV):=v.map (Option.map (eX n b))
def po (k:List Nat) (n:Nat) (v:List (Option AV)) (b:List ad):List (Option AV):=
 match decide (b.length≤n) with
 | true=>v
 | false=>match eH k n 0 (jt k v) with
  | true=>rQ n v b
  | false=>v
def pq (k:List Nat) (n:Nat) (v:List (Option AV)) (b:List ad):List ad:=
 match decide (b.length≤n) with
 | true=>b
 | false=>match eH k n 0 (jt k v) with
  | true=>de n b
  | false=>b
def leave (i:Nat):Ex→Ex
 | .exit j=>if j=i then .normal else .exit j
 | e=>e
def AV.isNil:AV→Bool
 | .ak nl _ es=>(nl==some true)&&es.isEmpty
 | _=>false
def Gx (x:AV) (b:List ad):List ad:=
 match x with
 | .az k _=>match ad.at b k with
  | .sl sh sz es=>b.set k (.sl ⟨true,sh.ty,none⟩ sz es)
  | _=>b
 | _=>b
def ED (o:pw) (v:List (Option AV)) (b:List ad):List (Option AV)×List ad:=
 match o.cell with
 | none=>match j9 v o.slot with
  | some x=>if x.isNil=true then (if o.sz=0 then (v,b) else (v.set o.slot (some (.az b.length 0)),b++ [.sl ⟨false,some o.el,none⟩ o.sz []])) else (v,if o.sz=0 then Gx x b else b)
  | none=>(v,b)
 | some off=>match j9 v o.slot with
  | some (.ptr k base)=>match ad.at b k with
   | .var ty cs=>match cs[base+off]? with
    | some x=>if x.isNil=true then (v,b.set k (.var ty (cs.set (base+off) (.az b.length 0)))++ [.sl ⟨false,some o.el,none⟩ o.sz []]) else (v,b)
    | none=>(v,b)
   | _=>(v,b)
  | _=>(v,b)
def gF:List pw→List (Option AV)→List ad→List (Option AV)×List ad
 | [],v,b=>(v,b)
 | o::r,v,b=>gF r (ED o v b).1 (ED o v b).2
def gE (keep:List Nat) (args:List AV):List (Option AV):=
 match keep with
 | []=> []
 | i::r=>args[i]?::gE r args
def Ix (c:ax) (v:List (Option AV)) (b:List ad):HI→Option AV
 | .v i=>j9 v i
 | .cell i ty=>match j9 v i with
  | some (.ptr k off)=>match ad.at b k,c.ti ty with
   | .var _ cs,some i=>gk i cs off
   | _,_=>none
  | _=>none
def ki (c:ax) (v:List (Option AV)) (b:List ad):List HI→Option (List AV)
 | []=>some []
 | r::l=>match Ix c v b r with
  | some x=>match ki c v b l with
   | some y=>some (x::y)
   | none=>none
  | none=>none
def Gy (n:Nat) (b:List ad) (v:AV):Option (AV×List ad):=
 match v.hand n b with
 | some v'=>match v'.under n with
  | true=>some (v',de n b)
  | false=>some (v,b)
 | none=>none
def Gz (own:Bool) (n:Nat) (b:List ad) (v:AV):Option (AV×List ad):=
 match own&& !v.under n with
 | true=>some (v,b)
 | false=>Gy n b v
def EF (c:ax) (own:Bool) (res:List HI) (n:Nat) (v:List (Option AV)) (b:List ad):Option (AV×List ad):=
 match ki c v b res with
 | some vs=>Gz own n b (y7 vs)
 | none=>none
def rR:Ex→Ls
 | .normal=> .ready
 | e=> .done e
def Ex.mb:Ex→Bool
 | .normal=>true
 | _=>false
def Gk (n k:Nat) (r:Option (Ex×List (Option AV)×List ad)):Option (AV×List ad):=
 match r with
 | some (e,_,b)=>match ad.at b k with
  | .loop .busy=>some (.bool e.mb,de n (b.set k (.loop (rR e))))
  | _=>none
 | none=>none
def Iy (v:List (Option AV)) (n:Nat) (r:Option (AV×List ad)):Option (Ex×List (Option AV)×List ad):=
 match r with
 | some (_,b')=>match ad.at b' n with
  | .loop .ready=>some (.normal,x6 n v b',de n b')
  | .loop (.done e)=>some (e,x6 n v b',de n b')
  | _=>none
 | none=>none
def xS (c:ax) (cf:aG) (x:Nat) (s:Site) (v:List (Option AV)) (b:List ad):Option (Ex×List (Option AV)×List ad):=
 match j9 v x with
 | some (.fn f [] caps)=>match c.ext f with
  | some _=>none
  | none=>Iy v b.length (cf (.fn f) (.fg b.length s (v.map (·.getD .any))::caps) (b++ [.loop .ready]))
 | _=>none
section
variable {c:ax} {f g:aG}
theorem kj (h:Ft f g) {op:Op} {φ:Operand→AV} {bs:List ad} {id:Nat} {r:AV×cJ} (hr:dv c f op φ bs id=some r):dv c g op φ bs id=some r:=by
 unfold dv at hr⊢;split at hr
 ·split at hr
  ·split at hr
   ·split at hr
    ·exact hr
    ·exact GA h hr
   ·split at hr
    ·rename_i hf;rw [h _ _ _ _ hf];exact hr
    ·cases hr
   ·cases hr
  ·exact hr
 ·exact hr
theorem GB {f g:aG} (h:Ft f g):Ft (pd f) (pd g):=fun t args bs r hr=>by
 unfold pd at hr⊢;split at hr
 ·split at hr
  ·rename_i hf;rw [h _ _ _ _ hf];exact hr
  ·rename_i hf;rw [h _ _ _ _ hf];exact hr
  ·cases hr
 ·exact h _ _ _ _ hr
theorem mc {f g:aG} (h:Ft f g): ∀b,Ft (eE f b) (eE g b)
 | true=>h
 | false=>GB h
theorem Iz (h:Ft f g) {base:Nat} {mask:Option (List Nat)} {k:Nat} {o:Op} {vs:List (Nat×AV)} {bs:List ad} {r:AV×List ad} (hr:Ey c f base mask k o vs bs=some r):Ey c g base mask k o vs bs=some r:=by
 unfold Ey at hr⊢;split at hr
 ·unfold Dx at hr⊢;split at hr
  ·rename_i hd;rw [kj h hd];exact hr
  ·cases hr
 ·unfold Dw at hr⊢;split at hr
  ·rename_i hd;rw [kj (mc h _) hd];exact hr
  ·rename_i hd;rw [kj (mc h _) hd];exact hr
  ·rename_i hd;rw [kj (mc h _) hd];exact hr
  ·rename_i hd;rw [kj (mc h _) hd];exact hr
  ·rename_i hd;rw [kj (mc h _) hd];exact hr
  ·cases hr
theorem dx (h:Ft f g) {base:Nat} {kl:List Nat}: ∀(its:List It) (env:List (Option AV)) (bs:List ad) (r:List (Option AV)×List ad),ba c f base kl its env bs=some r→ba c g base kl its env bs=some r
 | [],_,_,_,hr=>hr
 | .par l::its,env,bs,r,hr=>by
  simp only [ba] at hr⊢;split at hr
  ·exact dx h its _ _ r hr
  ·cases hr
 | .cW mask k d g' o xs::its,env,bs,r,hr=>by
  simp only [ba] at hr⊢;split at hr
  ·split at hr
   ·split at hr
    ·rename_i he;rw [Iz h he];exact dx h its _ _ r hr
    ·cases hr
   ·cases hr
  ·exact dx h its _ _ r hr
  ·cases hr
end
theorem DE {c:ax} {f g:aG} (h:Ft f g) {x:Nat} {s:Site} {v:List (Option AV)} {b:List ad} {r:Ex×List (Option AV)×List ad} (hr:xS c f x s v b=some r):xS c g x s v b=some r:=by
 unfold xS at hr⊢;split at hr
 ·split at hr
  ·cases hr
  ·unfold Iy at hr⊢;split at hr
   ·rename_i hf;rw [h _ _ _ _ hf];exact hr
   ·cases hr
 ·cases hr
abbrev cw:=Ex→List (Option AV)→List ad→Prop
def zP (W:cw→List (Option AV)→List ad→Prop) (Q:cw):cw:=fun e v b=>
 match e with
 | .normal=>W Q v b
 | e=>Q e v b
def mX (W:cw→List (Option AV)→List ad→Prop) (k:List Nat) (Q:cw):Nat→List (Option AV)→List ad→Prop
 | 0,_,_=>False
 | n+1,v,b=>W (fun e v' b'=>match e with
  | .normal=>mX W k Q n (po k b.length v' b') (pq k b.length v' b')
  | e=>Q e v' b') (jt k v) b
def ny (r:Option (List (Option AV)×List ad)) (Q:cw):Prop:=
 match r with
 | some (v,b)=>Q .normal v b
 | none=>False
def wF (x:Option AV) (p q:Prop):Prop:=
 match x with
 | some (.bool true)=>p
 | some (.bool false)=>q
 | _=>False
def IA (r:Option (Ex×List (Option AV)×List ad)) (Q:cw):Prop:=
 match r with
 | some (e,v,b)=>Q e v b
 | none=>False
def zQ (c:ax) (own:Bool) (res:List HI) (n:Nat) (r:AV×List ad):cw:=fun e v b=>
 match e with
 | .exit _=>False
 | _=>EF c own res n v b=some r
mutual
inductive ka (c:ax):IR→cw→List (Option AV)→List ad→Prop where
 | skip {Q:cw} {v:List (Option AV)} {b:List ad} (h:Q .normal v b):ka c .skip Q v b
 | ret {Q:cw} {v:List (Option AV)} {b:List ad} (h:Q .ret v b):ka c .ret Q v b
 | own {l:List pw} {Q:cw} {v:List (Option AV)} {b:List ad} (h:Q .normal (gF l v b).1 (gF l v b).2):ka c (.own l) Q v b
 | exit {i:Nat} {Q:cw} {v:List (Option AV)} {b:List ad} (h:Q (.exit i) v b):ka c (.exit i) Q v b
 | seq {x y:IR} {Q R:cw} {v:List (Option AV)} {b:List ad} (h1:ka c x R v b) (h2: ∀v' b',R .normal v' b'→ka c y Q v' b') (h3: ∀e v' b',e≠ .normal→R e v' b'→Q e v' b'):ka c (.seq x y) Q v b
 | block {i:Nat} {x:IR} {Q:cw} {v:List (Option AV)} {b:List ad} (h:ka c x (fun e v b=>Q (leave i e) v b) v b):ka c (.block i x) Q v b
 | bH {m:Nat} {kl:List Nat} {its:List It} {Q:cw} {v v':List (Option AV)} {b b':List ad} (cf:aG) (h: ∀f a bs r,cf f a bs=some r→B4 c f a bs r) (hr:ba c cf b.length kl its v (b++List.replicate m .dead)=some (v',b')) (hq:Q .normal v' b'):ka c (.bH m kl its) Q v b
 | yes {k:Nat} {x y:IR} {Q:cw} {v:List (Option AV)} {b:List ad} (hx:j9 v k=some (.bool true)) (h:ka c x Q (v.set k none) b):ka c (.cond k x y) Q v b
 | no {k:Nat} {x y:IR} {Q:cw} {v:List (Option AV)} {b:List ad} (hx:j9 v k=some (.bool false)) (h:ka c y Q (v.set k none) b):ka c (.cond k x y) Q v b
 | loop {k:List Nat} {x:IR} {Q R:cw} {v:List (Option AV)} {b:List ad} (h1:ka c x R (jt k v) b) (h2: ∀v' b',R .normal v' b'→ka c (.loop k x) Q (po k b.length v' b') (pq k b.length v' b')) (h3: ∀e v' b',e≠ .normal→R e v' b'→Q e v' b'):ka c (.loop k x) Q v b
 | qo {x:Nat} {s:Site} {Q:cw} {v v':List (Option AV)} {b b':List ad} {e:Ex} (cf:aG) (h: ∀f a bs r,cf f a bs=some r→B4 c f a bs r) (hr:xS c cf x s v b=some (e,v',b')) (hq:Q e v' b'):ka c (.qo x s) Q v b
 | zw {x k n i m clock:Nat} {seen:List Nat} {es:List (AV×AV×Nat)} {its:List It} {Q:cw} {v:List (Option AV)} {b:List ad} (cf:aG) (h: ∀f a bs r,cf f a bs=some r→B4 c f a bs r) (hx:j9 v x=some (.jZ i)) (hi:ad.at b i= .iter (.map m seen clock)) (hm:ad.at b m= .mp es clock)
   (h0:(∀e∈es,seen.contains e.2.2=true)→ ∃v' b',ba c cf b.length [] its (v.set k (some (.aI [.bool false]))) (b++List.replicate n .dead)=some (v',b')∧Q .normal v' b')
   (h1: ∀e∈es,seen.contains e.2.2=false→ ∃v' b',ba c cf b.length [] its (v.set k (some (.aI [.bool true,e.1,e.2.1]))) (b.set i (.iter (.map m (seen++ [e.2.2]) clock))++List.replicate n .dead)=some (v',b')∧Q .normal v' b'):ka c (.zw x k n its) Q v b
 | alt {l:List (Nat×List Nat×List It)} {Q:cw} {v:List (Option AV)} {b:List ad} (cf:aG) (h: ∀f a bs r,cf f a bs=some r→B4 c f a bs r) (hne:l≠ [])
   (hr: ∀x∈l,∃v' b',ba c cf b.length x.2.1 x.2.2 v (b++List.replicate x.1 .dead)=some (v',b')∧Q .normal v' b'):ka c (.alt l) Q v b
inductive B4 (c:ax):PS→List AV→List ad→AV×List ad→Prop where
 | fn {f:FuncId} {fn:Func} {L:bY} {args:List AV} {bs:List ad} {r:AV×List ad} (hf:c.fn.get none f=some fn) (hl:ao c fn=some L) (h:ka c L.code (zQ c (c.own f) L.res bs.length r) (gE L.keep args) bs):B4 c (.fn f) args bs r
 | fg {k:Nat} {s:Site} {env args:List AV} {bs:List ad} {r:AV×List ad} {asg body:IR} {R:cw} (hl:sK c s=some (asg,body)) (hn:args.length=s.ps.size) (he:env.length=s.keep.length) (hk:ad.at bs k= .loop .ready) (h1:ka c asg R (xR s env args) bs)
   (h2: ∀e v1 b1,R e v1 b1→e= .normal∧ad.at b1 k= .loop .ready) (h3: ∀e v1 b1,R e v1 b1→ka c body (fun e _ b2=>ad.at b2 k= .loop .busy∧(AV.bool e.mb,de bs.length (b2.set k (.loop (rR e))))=r) v1 (b1.set k (.loop .busy))):B4 c (.fg k s env) args bs r
end
def DF (f g:aG):aG:=fun t a b=>match f t a b with
 | some r=>some r
 | none=>g t a b
theorem pE (f g:aG):Ft f (DF f g):=fun t a b r h=>by simp only [DF,h]
theorem pF {f g:aG} (h: ∀t a b r r',f t a b=some r→g t a b=some r'→r=r'):Ft g (DF f g):=fun t a b r hr=>by
 unfold DF;cases hf:f t a b with
 | none=>exact hr
 | some r0=>rw [h t a b r0 r hf hr]
theorem ka.both {c:ax} {x:IR} {Q:cw} {v:List (Option AV)} {b:List ad} (h:ka c x Q v b): ∀Q',ka c x Q' v b→ ∃e v' b',Q e v' b'∧Q' e v' b':=by
 refine ka.rec (c:=c) (motive_1:=fun x Q v b _=> ∀Q',ka c x Q' v b→ ∃e v' b',Q e v' b'∧Q' e v' b') (motive_2:=fun t a bs r _=> ∀r',B4 c t a bs r'→r=r')
  ?_ ?_ ?_ ?_ ?_ ?_ ?_ ?_ ?_ ?_ ?_ ?_ ?_ ?_ ?_ h
 ·intro Q v b h Q' k;cases k with | skip h'=>exact ⟨_,_,_,h,h'⟩
 ·intro Q v b h Q' k;cases k with | ret h'=>exact ⟨_,_,_,h,h'⟩
 ·intro l Q v b h Q' k;cases k with | own h'=>exact ⟨_,_,_,h,h'⟩
 ·intro i Q v b h Q' k;cases k with | exit h'=>exact ⟨_,_,_,h,h'⟩
 ·intro x y Q R v b h1 h2 h3 ih1 ih2 Q' k;cases k with
  | seq k1 k2 k3=>
   obtain ⟨e,v',b',p1,p2⟩:=ih1 _ k1;cases e with
   | normal=>exact ih2 v' b' p1 _ (k2 v' b' p2)
   | ret=>exact ⟨_,_,_,h3 _ _ _ (by simp) p1,k3 _ _ _ (by simp) p2⟩
   | exit i=>exact ⟨_,_,_,h3 _ _ _ (by simp) p1,k3 _ _ _ (by simp) p2⟩
 ·intro i x Q v b h ih Q' k;cases k with
  | block h'=>obtain ⟨e,v',b',p1,p2⟩:=ih _ h';exact ⟨_,_,_,p1,p2⟩
 ·intro m kl its Q v v' b b' cf h hr hq ih Q' k;cases k with
  | bH cf' h' hr' hq'=>have hj: ∀t a b r r',cf t a b=some r→cf' t a b=some r'→r=r':=fun t a b r r' h1 h2=>ih t a b r h1 _ (h' t a b r' h2);have e1:=dx (pE cf cf') _ _ _ _ hr;have e2:=dx (pF hj) _ _ _ _ hr';rw [e1] at e2;cases e2;exact ⟨_,_,_,hq,hq'⟩
 ·intro k x y Q v b hx h ih Q' h';cases h' with
  | yes hx' h'=>exact ih _ h'
  | no hx' h'=>rw [hx] at hx';cases hx'
 ·intro k x y Q v b hx h ih Q' h';cases h' with
  | yes hx' h'=>rw [hx] at hx';cases hx'
  | no hx' h'=>exact ih _ h'
 ·intro k x Q R v b h1 h2 h3 ih1 ih2 Q' h';cases h' with
  | loop k1 k2 k3=>
   obtain ⟨e,v',b',p1,p2⟩:=ih1 _ k1;cases e with
   | normal=>exact ih2 v' b' p1 _ (k2 v' b' p2)
   | ret=>exact ⟨_,_,_,h3 _ _ _ (by simp) p1,k3 _ _ _ (by simp) p2⟩
   | exit i=>exact ⟨_,_,_,h3 _ _ _ (by simp) p1,k3 _ _ _ (by simp) p2⟩
 ·intro x s Q v v' b b' e cf h hr hq ih Q' k;cases k with
  | qo cf' h' hr' hq'=>have hj: ∀t a b r r',cf t a b=some r→cf' t a b=some r'→r=r':=fun t a b r r' h1 h2=>ih t a b r h1 _ (h' t a b r' h2);have e1:=DE (pE cf cf') hr;have e2:=DE (pF hj) hr';rw [e1] at e2;cases e2;exact ⟨_,_,_,hq,hq'⟩
 ·intro x n0 n i m clock seen es its Q v b cf h hx hi hm h0 h1 ih Q' k;cases k with
  | zw cf' h' hx' hi' hm' h0' h1'=>
   rw [hx] at hx';cases hx';rw [hi] at hi';cases hi';rw [hm] at hm';cases hm';have hj: ∀t a b r r',cf t a b=some r→cf' t a b=some r'→r=r':=fun t a b r r' h1 h2=>ih t a b r h1 _ (h' t a b r' h2);by_cases hall: ∀e∈es,seen.contains e.2.2=true
   ·obtain ⟨v1,b1,r1,q1⟩:=h0 hall;obtain ⟨v2,b2,r2,q2⟩:=h0' hall;have e1:=dx (pE cf cf') _ _ _ _ r1;have e2:=dx (pF hj) _ _ _ _ r2;rw [e1] at e2;cases e2;exact ⟨_,_,_,q1,q2⟩
   ·have: ∃e∈es,seen.contains e.2.2=false:=by simpa using hall
    obtain ⟨e,he,hn⟩:=this;obtain ⟨v1,b1,r1,q1⟩:=h1 e he hn;obtain ⟨v2,b2,r2,q2⟩:=h1' e he hn;have e1:=dx (pE cf cf') _ _ _ _ r1;have e2:=dx (pF hj) _ _ _ _ r2;rw [e1] at e2;cases e2;exact ⟨_,_,_,q1,q2⟩
 ·intro l Q v b cf h hne hr ih Q' k;cases k with
  | alt cf' h' hne' hr'=>
   have hj: ∀t a b r r',cf t a b=some r→cf' t a b=some r'→r=r':=fun t a b r r' h1 h2=>ih t a b r h1 _ (h' t a b r' h2);cases l with
   | nil=>exact absurd rfl hne
   | cons x l=>obtain ⟨v1,b1,r1,q1⟩:=hr x List.mem_cons_self;obtain ⟨v2,b2,r2,q2⟩:=hr' x List.mem_cons_self;have e1:=dx (pE cf cf') _ _ _ _ r1;have e2:=dx (pF hj) _ _ _ _ r2;rw [e1] at e2;cases e2;exact ⟨_,_,_,q1,q2⟩
 ·intro f fn L args bs r hf hl h ih r' k;cases k with
  | fn hf' hl' h'=>
   rw [hf] at hf';cases hf';rw [hl] at hl';cases hl';obtain ⟨e,v',b',p1,p2⟩:=ih _ h';unfold zQ at p1 p2;cases e with
   | normal=>rw [p1] at p2;cases p2;rfl
   | ret=>rw [p1] at p2;cases p2;rfl
   | exit i=>exact p1.elim
 ·intro k s env args bs r asg body R hl hn he hk h1 h2 h3 ih1 ih3 r' k';cases k' with
  | fg hl' hn' he' hk' h1' h2' h3'=>rw [hl] at hl';cases hl';obtain ⟨e,v1,b1,p1,p2⟩:=ih1 _ h1';obtain ⟨e2,v2,b2,q1,q2⟩:=ih3 _ _ _ p1 _ (h3' _ _ _ p2);rw [←q1.2,←q2.2]
theorem B4.one {c:ax} {t:PS} {a:List AV} {bs:List ad} {r r':AV×List ad} (h:B4 c t a bs r) (h':B4 c t a bs r'):r=r':=by
 cases h with
 | fn hf hl h=>
  cases h' with
  | fn hf' hl' h'=>
   rw [hf] at hf';cases hf';rw [hl] at hl';cases hl';obtain ⟨e,v',b',p1,p2⟩:=h.both _ h';unfold zQ at p1 p2;cases e with
   | normal=>rw [p1] at p2;cases p2;rfl
   | ret=>rw [p1] at p2;cases p2;rfl
   | exit i=>exact p1.elim
 | fg hl hn he hk h1 h2 h3=>
  cases h' with
  | fg hl' hn' he' hk' h1' h2' h3'=>rw [hl] at hl';cases hl';obtain ⟨e,v1,b1,p1,p2⟩:=h1.both _ h1';obtain ⟨e2,v2,b2,q1,q2⟩:=(h3 _ _ _ p1).both _ (h3' _ _ _ p2);rw [←q1.2,←q2.2]
noncomputable def me (c:ax):aG:=fun f args bs=>
 open Classical in if h: ∃r,B4 c f args bs r then some (Classical.choose h) else none
theorem iF {c:ax} {f:PS} {args:List AV} {bs:List ad} {r:AV×List ad}:me c f args bs=some r↔B4 c f args bs r:=by
 unfold me;constructor
 ·intro h;split at h
  ·rename_i hx;cases h;exact Classical.choose_spec hx
  ·cases h
 ·intro h;have hx: ∃r,B4 c f args bs r:=⟨r,h⟩;rw [dif_pos hx];rw [B4.one (Classical.choose_spec hx) h]
noncomputable abbrev aq (c:ax) (f:FuncId):List AV→List ad→Option (AV×List ad):=me c (.fn f)
def Wp (c:ax):IR→cw→List (Option AV)→List ad→Prop
 | .skip,Q,v,b=>Q .normal v b
 | .ret,Q,v,b=>Q .ret v b
 | .stuck,_,_,_=>False
 | .own l,Q,v,b=>Q .normal (gF l v b).1 (gF l v b).2
 | .exit i,Q,v,b=>Q (.exit i) v b
 | .seq x y,Q,v,b=>Wp c x (zP (Wp c y) Q) v b
 | .block i x,Q,v,b=>Wp c x (fun e v b=>Q (leave i e) v b) v b
 | .bH n kl its,Q,v,b=>ny (ba c (me c) b.length kl its v (b++List.replicate n .dead)) Q
 | .cond x p q,Q,v,b=>wF (j9 v x) (Wp c p Q (v.set x none) b) (Wp c q Q (v.set x none) b)
 | .loop k x,Q,v,b=> ∃n,mX (Wp c x) k Q n v b
 | .qo x s,Q,v,b=>IA (xS c (me c) x s v b) Q
 | .zw x k n its,Q,v,b=> ∃i m clock seen es,j9 v x=some (.jZ i)∧ad.at b i= .iter (.map m seen clock)∧ad.at b m= .mp es clock∧
   ((∀e∈es,seen.contains e.2.2=true)→ny (ba c (me c) b.length [] its (v.set k (some (.aI [.bool false]))) (b++List.replicate n .dead)) Q)∧
   (∀e∈es,seen.contains e.2.2=false→ny (ba c (me c) b.length [] its (v.set k (some (.aI [.bool true,e.1,e.2.1]))) (b.set i (.iter (.map m (seen++ [e.2.2]) clock))++List.replicate n .dead)) Q)
 | .alt l,Q,v,b=>l≠ []∧ ∀x∈l,ny (ba c (me c) b.length x.2.1 x.2.2 v (b++List.replicate x.1 .dead)) Q
theorem sO {r:Option (List (Option AV)×List ad)} {Q:cw} (h:ny r Q): ∃v b,r=some (v,b)∧Q .normal v b:=by
 unfold ny at h;split at h
 ·exact ⟨_,_,rfl,h⟩
 ·exact h.elim
theorem qQ {r:Option (List (Option AV)×List ad)} {Q Q':cw} (hq: ∀e v b,Q e v b→Q' e v b) (h:ny r Q):ny r Q':=by obtain ⟨v,b,rfl,h⟩:=sO h;exact hq _ _ _ h
theorem pG {W:cw→List (Option AV)→List ad→Prop} (hW: ∀{Q Q':cw},(∀e v b,Q e v b→Q' e v b)→ ∀v b,W Q v b→W Q' v b) {k:List Nat} {Q Q':cw} (h: ∀e v b,Q e v b→Q' e v b): ∀(n:Nat) (v:List (Option AV)) (b:List ad),mX W k Q n v b→mX W k Q' n v b
 | 0,_,_,hr=>hr
 | n+1,v,b,hr=>by
  refine hW (fun e v' b' hq=> ?_) _ _ hr;cases e with
  | normal=>exact pG hW h n _ _ hq
  | ret=>exact h _ _ _ hq
  | exit i=>exact h _ _ _ hq
theorem Wp.mono {c:ax}: ∀(ir:IR) {Q Q':cw},(∀e v b,Q e v b→Q' e v b)→ ∀v b,Wp c ir Q v b→Wp c ir Q' v b
 | .skip,_,_,h,v,b,hw=>h _ _ _ hw
 | .ret,_,_,h,v,b,hw=>h _ _ _ hw
 | .stuck,_,_,_,_,_,hw=>hw
 | .own l,_,_,h,v,b,hw=>h _ _ _ hw
 | .exit _,_,_,h,v,b,hw=>h _ _ _ hw
 | .seq x y,Q,Q',h,v,b,hw=>Wp.mono x (fun e v b hq=>by
   cases e with
   | normal=>exact Wp.mono y h v b hq
   | ret=>exact h _ _ _ hq
   | exit i=>exact h _ _ _ hq) v b hw
 | .block i x,Q,Q',h,v,b,hw=>Wp.mono x (fun e v b hq=>h _ _ _ hq) v b hw
 | .bH n kl its,Q,Q',h,v,b,hw=>by
  simp only [Wp,ny] at hw⊢;split at hw
  ·exact h _ _ _ hw
  ·exact hw
 | .cond x p q,Q,Q',h,v,b,hw=>by
  simp only [Wp,wF] at hw⊢;split at hw
  ·exact Wp.mono p h _ b hw
  ·exact Wp.mono q h _ b hw
  ·exact hw
 | .loop k x,Q,Q',h,v,b,hw=>by
  obtain ⟨n,hn⟩:=hw;exact ⟨n,pG (fun h v b=>Wp.mono x h v b) h n v b hn⟩
 | .qo x s,Q,Q',h,v,b,hw=>by
  simp only [Wp,IA] at hw⊢;split at hw
  ·exact h _ _ _ hw
  ·exact hw
 | .zw x k n its,Q,Q',h,v,b,hw=>by
  obtain ⟨i,m,clock,seen,es,h1,h2,h3,h4,h5⟩:=hw;exact ⟨i,m,clock,seen,es,h1,h2,h3,fun p=>qQ h (h4 p),fun e he p=>qQ h (h5 e he p)⟩
 | .alt l,Q,Q',h,v,b,hw=>⟨hw.1,fun x hx=>qQ h (hw.2 x hx)⟩
theorem uf {c:ax} {x:IR} {k:List Nat} (ih: ∀(Q:cw) (v:List (Option AV)) (b:List ad),Wp c x Q v b→ka c x Q v b) {Q:cw}:
  ∀(m:Nat) (v:List (Option AV)) (b:List ad),mX (Wp c x) k Q m v b→ka c (.loop k x) Q v b
 | 0,_,_,h=>h.elim
 | m+1,v,b,h=>by
  refine .loop (ih _ _ _ h) (fun v' b' h'=>uf ih m _ _ h') (fun e v' b' hne h'=> ?_);cases e with
  | normal=>exact absurd rfl hne
  | ret=>exact h'
  | exit i=>exact h'
theorem oG {c:ax}: ∀(x:IR) (Q:cw) (v:List (Option AV)) (b:List ad),Wp c x Q v b→ka c x Q v b
 | .skip,Q,v,b,h=> .skip h
 | .ret,Q,v,b,h=> .ret h
 | .stuck,Q,v,b,h=>h.elim
 | .own l,Q,v,b,h=> .own h
 | .exit i,Q,v,b,h=> .exit h
 | .seq x y,Q,v,b,h=> .seq (oG x _ v b h) (fun v' b' h'=>oG y _ v' b' h') (fun e v' b' hne h'=>by
   cases e with
   | normal=>exact absurd rfl hne
   | ret=>exact h'
   | exit i=>exact h')
 | .block i x,Q,v,b,h=> .block (oG x _ v b h)
 | .bH m kl its,Q,v,b,h=>by
  simp only [Wp,ny] at h;split at h
  ·rename_i v' b' hrun;exact .bH (me c) (fun _ _ _ _ hr=>iF.1 hr) hrun h
  ·exact h.elim
 | .cond x p q,Q,v,b,h=>by
  simp only [Wp,wF] at h;split at h
  ·rename_i hx;exact .yes hx (oG p _ _ b h)
  ·rename_i hx;exact .no hx (oG q _ _ b h)
  ·exact h.elim
 | .loop k x,Q,v,b,h=>by
  obtain ⟨m,hm⟩:=h;exact uf (fun Q v b h=>oG x Q v b h) m v b hm
 | .qo x s,Q,v,b,h=>by
  simp only [Wp,IA] at h;split at h
  ·rename_i e v' b' hrun;exact .qo (me c) (fun _ _ _ _ hr=>iF.1 hr) hrun h
  ·exact h.elim
 | .zw x k n its,Q,v,b,h=>by
  obtain ⟨i,m,clock,seen,es,h1,h2,h3,h4,h5⟩:=h;exact .zw (me c) (fun _ _ _ _ hr=>iF.1 hr) h1 h2 h3 (fun p=>sO (h4 p)) (fun e he p=>sO (h5 e he p))
 | .alt l,Q,v,b,h=> .alt (me c) (fun _ _ _ _ hr=>iF.1 hr) h.1 (fun x hx=>sO (h.2 x hx))
theorem ab {c:ax} {f:FuncId} {fn:Func} {L:bY} {args:List AV} {bs:List ad} {r:AV×List ad} (hf:c.fn.get none f=some fn) (hl:ao c fn=some L)
  (hw:Wp c L.code (zQ c (c.own f) L.res bs.length r) (gE L.keep args) bs):aq c f args bs=some r:=
 iF.2 (.fn hf hl (oG _ _ _ _ hw))
end Go.Am
