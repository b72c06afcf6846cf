/- What the plainer form does: -/
import Derived.Test.YtnlndhjfmghajaaGreatDoorAmIr2
set_option linter.all false
namespace Go.Am
def cutV (n:Nat) (v:List (Option AV)) (b:List Box):List (Option AV):=
 match decide (b.length≤n) with
 | true=>v
 | false=>v.map (Option.map (forget n))
def cutB (n:Nat) (b:List Box):List Box:=
 match decide (b.length≤n) with
 | true=>b
 | false=>(b.take n).map (forgetBox n)
def killV:List Nat→List (Option AV)→List (Option AV)
 | [],v=>v
 | i::r,v=>killV r (v.set i none)
def underV (k:List Nat) (n:Nat):Nat→List (Option AV)→Bool
 | _, []=>true
 | i,none::r=>underV k n (i+1) r
 | i,some a::r=>(a.under n || !k.contains (i+1000))&&underV k n (i+1) r
def keepBy (n:Nat) (b:List Box) (v:AV):AV:=
 match v.under n with
 | true=>v
 | false=>match v.hand n b with
  | some v'=>match v'.under n with
   | true=>v'
   | false=> .any
  | none=> .any
def handV (n:Nat) (v:List (Option AV)) (b:List Box):List (Option AV):=v.map (Option.map (keepBy n b))
def turnV (k:List Nat) (n:Nat) (v:List (Option AV)) (b:List Box):List (Option AV):=
 match decide (b.length≤n) with
 | true=>v
 | false=>match underV k n 0 (killV k v) with
  | true=>handV n v b
  | false=>v
def turnB (k:List Nat) (n:Nat) (v:List (Option AV)) (b:List Box):List Box:=
 match decide (b.length≤n) with
 | true=>b
 | false=>match underV k n 0 (killV k v) with
  | true=>cutB n b
  | false=>b
def leave (i:Nat):Ex→Ex
 | .exit j=>if j=i then .normal else .exit j
 | e=>e
def AV.isNil:AV→Bool
 | .lst nl _ es=>(nl==some true)&&es.isEmpty
 | _=>false
def lent1 (x:AV) (b:List Box):List Box:=
 match x with
 | .osl k _=>match Box.at b k with
  | .sl sh sz es=>b.set k (.sl ⟨true,sh.ty,none⟩ sz es)
  | _=>b
 | _=>b
def own1 (o:Own) (v:List (Option AV)) (b:List Box):List (Option AV)×List Box:=
 match o.cell with
 | none=>match vget v o.slot with
  | some x=>if x.isNil=true then (if o.sz=0 then (v,b) else (v.set o.slot (some (.osl b.length 0)),b++ [.sl ⟨false,some o.el,none⟩ o.sz []])) else (v,if o.sz=0 then lent1 x b else b)
  | none=>(v,b)
 | some off=>match vget v o.slot with
  | some (.ptr k base)=>match Box.at b k with
   | .var ty cs=>match cs[base+off]? with
    | some x=>if x.isNil=true then (v,b.set k (.var ty (cs.set (base+off) (.osl b.length 0)))++ [.sl ⟨false,some o.el,none⟩ o.sz []]) else (v,b)
    | none=>(v,b)
   | _=>(v,b)
  | _=>(v,b)
def ownAll:List Own→List (Option AV)→List Box→List (Option AV)×List Box
 | [],v,b=>(v,b)
 | o::r,v,b=>ownAll r (own1 o v b).1 (own1 o v b).2
def startV (keep:List Nat) (args:List AV):List (Option AV):=
 match keep with
 | []=> []
 | i::r=>args[i]?::startV r args
def resI (c:Cfg) (v:List (Option AV)) (b:List Box):Res→Option AV
 | .v i=>vget v i
 | .cell i ty=>match vget v i with
  | some (.ptr k off)=>match Box.at b k,c.ti ty with
   | .var _ cs,some i=>partA i cs off
   | _,_=>none
  | _=>none
def resultsI (c:Cfg) (v:List (Option AV)) (b:List Box):List Res→Option (List AV)
 | []=>some []
 | r::l=>match resI c v b r with
  | some x=>match resultsI c v b l with
   | some y=>some (x::y)
   | none=>none
  | none=>none
def handI (n:Nat) (b:List Box) (v:AV):Option (AV×List Box):=
 match v.hand n b with
 | some v'=>match v'.under n with
  | true=>some (v',cutB n b)
  | false=>some (v,b)
 | none=>none
def handW (own:Bool) (n:Nat) (b:List Box) (v:AV):Option (AV×List Box):=
 match own&& !v.under n with
 | true=>some (v,b)
 | false=>handI n b v
def endI (c:Cfg) (own:Bool) (res:List Res) (n:Nat) (v:List (Option AV)) (b:List Box):Option (AV×List Box):=
 match resultsI c v b res with
 | some vs=>handW own n b (oneOr vs)
 | none=>none
def endX (c:Cfg) (own:Bool) (res:List Res) (n:Nat) (r:Option (Ex×List (Option AV)×List Box)):Option (AV×List Box):=
 match r with
 | some (.normal,v,b)=>endI c own res n v b
 | some (.ret,v,b)=>endI c own res n v b
 | _=>none
def endSt:Ex→LSt
 | .normal=> .ready
 | e=> .done e
def Ex.isNormal:Ex→Bool
 | .normal=>true
 | _=>false
def yldEnd (n k:Nat) (r:Option (Ex×List (Option AV)×List Box)):Option (AV×List Box):=
 match r with
 | some (e,_,b)=>match Box.at b k with
  | .loop .busy=>some (.bool e.isNormal,cutB n (b.set k (.loop (endSt e))))
  | _=>none
 | none=>none
def rngE (v:List (Option AV)) (n:Nat) (r:Option (AV×List Box)):Option (Ex×List (Option AV)×List Box):=
 match r with
 | some (_,b')=>match Box.at b' n with
  | .loop .ready=>some (.normal,cutV n v b',cutB n b')
  | .loop (.done e)=>some (e,cutV n v b',cutB n b')
  | _=>none
 | none=>none
def rngI (c:Cfg) (cf:CallF) (x:Nat) (s:Site) (v:List (Option AV)) (b:List Box):Option (Ex×List (Option AV)×List Box):=
 match vget v x with
 | some (.fn f [] caps)=>match c.ext f with
  | some _=>none
  | none=>rngE v b.length (cf (.fn f) (.yld b.length s (v.map (·.getD .any))::caps) (b++ [.loop .ready]))
 | _=>none
section
variable {c:Cfg} {f g:CallF}
theorem doOpE_le (h:CLe f g) {op:Op} {φ:Operand→AV} {bs:List Box} {id:Nat} {r:AV×Eff} (hr:doOpE c f op φ bs id=some r):doOpE c g op φ bs id=some r:=by
 unfold doOpE at hr⊢
 split at hr
 ·split at hr
  ·split at hr
   ·split at hr
    ·exact hr
    ·exact callA_le h hr
   ·split at hr
    ·rename_i hf;rw [h _ _ _ _ hf];exact hr
    ·cases hr
   ·cases hr
  ·exact hr
 ·exact hr
theorem softC_le {f g:CallF} (h:CLe f g):CLe (softC f) (softC g):=fun t args bs r hr=>by
 unfold softC at hr⊢
 split at hr
 ·split at hr
  ·rename_i hf;rw [h _ _ _ _ hf];exact hr
  ·rename_i hf;rw [h _ _ _ _ hf];exact hr
  ·cases hr
 ·exact h _ _ _ _ hr
theorem softF_le {f g:CallF} (h:CLe f g): ∀b,CLe (softF f b) (softF g b)
 | true=>h
 | false=>softC_le h
theorem effI_le (h:CLe f g) {base:Nat} {mask:Option (List Nat)} {k:Nat} {o:Op} {vs:List (Nat×AV)} {bs:List Box} {r:AV×List Box} (hr:effI c f base mask k o vs bs=some r):effI c g base mask k o vs bs=some r:=by
 unfold effI at hr⊢
 split at hr
 ·unfold hardI at hr⊢
  split at hr
  ·rename_i hd;rw [doOpE_le h hd];exact hr
  ·cases hr
 ·unfold softI at hr⊢
  split at hr
  ·rename_i hd;rw [doOpE_le (softF_le h _) hd];exact hr
  ·rename_i hd;rw [doOpE_le (softF_le h _) hd];exact hr
  ·rename_i hd;rw [doOpE_le (softF_le h _) hd];exact hr
  ·rename_i hd;rw [doOpE_le (softF_le h _) hd];exact hr
  ·rename_i hd;rw [doOpE_le (softF_le h _) hd];exact hr
  ·rename_i hd;rw [doOpE_le (softF_le h _) hd];exact hr
  ·cases hr
theorem runIts_le (h:CLe f g) {base:Nat} {kl:List Nat}: ∀(its:List It) (env:List (Option AV)) (bs:List Box) (r:List (Option AV)×List Box),runIts c f base kl its env bs=some r→runIts c g base kl its env bs=some r
 | [],_,_,_,hr=>hr
 | .par l::its,env,bs,r,hr=>by
  simp only [runIts] at hr⊢
  split at hr
  ·exact runIts_le h its _ _ r hr
  ·cases hr
 | .eff mask k d g' o xs::its,env,bs,r,hr=>by
  simp only [runIts] at hr⊢
  split at hr
  ·split at hr
   ·split at hr
    ·rename_i he;rw [effI_le h he];exact runIts_le h its _ _ r hr
    ·cases hr
   ·cases hr
  ·exact runIts_le h its _ _ r hr
  ·cases hr
end
theorem rngI_le {c:Cfg} {f g:CallF} (h:CLe f g) {x:Nat} {s:Site} {v:List (Option AV)} {b:List Box} {r:Ex×List (Option AV)×List Box} (hr:rngI c f x s v b=some r):rngI c g x s v b=some r:=by
 unfold rngI at hr⊢
 split at hr
 ·split at hr
  ·cases hr
  ·unfold rngE at hr⊢
   split at hr
   ·rename_i hf;rw [h _ _ _ _ hf];exact hr
   ·cases hr
 ·cases hr
abbrev Post:=Ex→List (Option AV)→List Box→Prop
def thenW (W:Post→List (Option AV)→List Box→Prop) (Q:Post):Post:=fun e v b=>
 match e with
 | .normal=>W Q v b
 | e=>Q e v b
def roundsW (W:Post→List (Option AV)→List Box→Prop) (k:List Nat) (Q:Post):Nat→List (Option AV)→List Box→Prop
 | 0,_,_=>False
 | n+1,v,b=>W (fun e v' b'=>match e with
  | .normal=>roundsW W k Q n (turnV k b.length v' b') (turnB k b.length v' b')
  | e=>Q e v' b') (killV k v) b
def regW (r:Option (List (Option AV)×List Box)) (Q:Post):Prop:=
 match r with
 | some (v,b)=>Q .normal v b
 | none=>False
def condW (x:Option AV) (p q:Prop):Prop:=
 match x with
 | some (.bool true)=>p
 | some (.bool false)=>q
 | _=>False
def rngW (r:Option (Ex×List (Option AV)×List Box)) (Q:Post):Prop:=
 match r with
 | some (e,v,b)=>Q e v b
 | none=>False
def endW (c:Cfg) (own:Bool) (res:List Res) (n:Nat) (r:AV×List Box):Post:=fun e v b=>
 match e with
 | .exit _=>False
 | _=>endI c own res n v b=some r
mutual
inductive Run (c:Cfg):IR→Post→List (Option AV)→List Box→Prop where
 | skip {Q:Post} {v:List (Option AV)} {b:List Box} (h:Q .normal v b):Run c .skip Q v b
 | ret {Q:Post} {v:List (Option AV)} {b:List Box} (h:Q .ret v b):Run c .ret Q v b
 | own {l:List Own} {Q:Post} {v:List (Option AV)} {b:List Box} (h:Q .normal (ownAll l v b).1 (ownAll l v b).2):Run c (.own l) Q v b
 | exit {i:Nat} {Q:Post} {v:List (Option AV)} {b:List Box} (h:Q (.exit i) v b):Run c (.exit i) Q v b
 | seq {x y:IR} {Q R:Post} {v:List (Option AV)} {b:List Box} (h1:Run c x R v b) (h2: ∀v' b',R .normal v' b'→Run c y Q v' b') (h3: ∀e v' b',e≠ .normal→R e v' b'→Q e v' b'):Run c (.seq x y) Q v b
 | block {i:Nat} {x:IR} {Q:Post} {v:List (Option AV)} {b:List Box} (h:Run c x (fun e v b=>Q (leave i e) v b) v b):Run c (.block i x) Q v b
 | reg {m:Nat} {kl:List Nat} {its:List It} {Q:Post} {v v':List (Option AV)} {b b':List Box} (cf:CallF) (h: ∀f a bs r,cf f a bs=some r→Ret c f a bs r) (hr:runIts c cf b.length kl its v (b++List.replicate m .dead)=some (v',b')) (hq:Q .normal v' b'):Run c (.reg m kl its) Q v b
 | yes {k:Nat} {x y:IR} {Q:Post} {v:List (Option AV)} {b:List Box} (hx:vget v k=some (.bool true)) (h:Run c x Q (v.set k none) b):Run c (.cond k x y) Q v b
 | no {k:Nat} {x y:IR} {Q:Post} {v:List (Option AV)} {b:List Box} (hx:vget v k=some (.bool false)) (h:Run c y Q (v.set k none) b):Run c (.cond k x y) Q v b
 | loop {k:List Nat} {x:IR} {Q R:Post} {v:List (Option AV)} {b:List Box} (h1:Run c x R (killV k v) b) (h2: ∀v' b',R .normal v' b'→Run c (.loop k x) Q (turnV k b.length v' b') (turnB k b.length v' b')) (h3: ∀e v' b',e≠ .normal→R e v' b'→Q e v' b'):Run c (.loop k x) Q v b
 | rng {x:Nat} {s:Site} {Q:Post} {v v':List (Option AV)} {b b':List Box} {e:Ex} (cf:CallF) (h: ∀f a bs r,cf f a bs=some r→Ret c f a bs r) (hr:rngI c cf x s v b=some (e,v',b')) (hq:Q e v' b'):Run c (.rng x s) Q v b
 | nxt {x k n i m clock:Nat} {seen:List Nat} {es:List (AV×AV×Nat)} {its:List It} {Q:Post} {v:List (Option AV)} {b:List Box} (cf:CallF) (h: ∀f a bs r,cf f a bs=some r→Ret c f a bs r) (hx:vget v x=some (.itv i)) (hi:Box.at b i= .iter (.map m seen clock)) (hm:Box.at b m= .mp es clock)
   (h0:(∀e∈es,seen.contains e.2.2=true)→ ∃v' b',runIts c cf b.length [] its (v.set k (some (.tup [.bool false]))) (b++List.replicate n .dead)=some (v',b')∧Q .normal v' b')
   (h1: ∀e∈es,seen.contains e.2.2=false→ ∃v' b',runIts c cf b.length [] its (v.set k (some (.tup [.bool true,e.1,e.2.1]))) (b.set i (.iter (.map m (seen++ [e.2.2]) clock))++List.replicate n .dead)=some (v',b')∧Q .normal v' b'):Run c (.nxt x k n its) Q v b
 | alt {l:List (Nat×List Nat×List It)} {Q:Post} {v:List (Option AV)} {b:List Box} (cf:CallF) (h: ∀f a bs r,cf f a bs=some r→Ret c f a bs r) (hne:l≠ [])
   (hr: ∀x∈l,∃v' b',runIts c cf b.length x.2.1 x.2.2 v (b++List.replicate x.1 .dead)=some (v',b')∧Q .normal v' b'):Run c (.alt l) Q v b
inductive Ret (c:Cfg):Tgt→List AV→List Box→AV×List Box→Prop where
 | fn {f:FuncId} {fn:Func} {L:Low} {args:List AV} {bs:List Box} {r:AV×List Box} (hf:c.fn.get none f=some fn) (hl:lowF c fn=some L) (h:Run c L.code (endW c (c.own f) L.res bs.length r) (startV L.keep args) bs):Ret c (.fn f) args bs r
 | yld {k:Nat} {s:Site} {env args:List AV} {bs:List Box} {r:AV×List Box} {asg body:IR} {R:Post} (hl:lowSite c s=some (asg,body)) (hn:args.length=s.ps.size) (he:env.length=s.keep.length) (hk:Box.at bs k= .loop .ready) (h1:Run c asg R (roundV s env args) bs)
   (h2: ∀e v1 b1,R e v1 b1→e= .normal∧Box.at b1 k= .loop .ready) (h3: ∀e v1 b1,R e v1 b1→Run c body (fun e _ b2=>Box.at b2 k= .loop .busy∧(AV.bool e.isNormal,cutB bs.length (b2.set k (.loop (endSt e))))=r) v1 (b1.set k (.loop .busy))):Ret c (.yld k s env) args bs r
end
def joinC (f g:CallF):CallF:=fun t a b=>match f t a b with
 | some r=>some r
 | none=>g t a b
theorem joinC_l (f g:CallF):CLe f (joinC f g):=fun t a b r h=>by simp only [joinC,h]
theorem joinC_r {f g:CallF} (h: ∀t a b r r',f t a b=some r→g t a b=some r'→r=r'):CLe g (joinC f g):=fun t a b r hr=>by
 unfold joinC
 cases hf:f t a b with
 | none=>exact hr
 | some r0=>rw [h t a b r0 r hf hr]
theorem leave_normal' {i:Nat} {e e':Ex} (h:e=e'):leave i e=leave i e':=by rw [h]
theorem Run.both {c:Cfg} {x:IR} {Q:Post} {v:List (Option AV)} {b:List Box} (h:Run c x Q v b): ∀Q',Run c x Q' v b→ ∃e v' b',Q e v' b'∧Q' e v' b':=by
 refine Run.rec (c:=c) (motive_1:=fun x Q v b _=> ∀Q',Run c x Q' v b→ ∃e v' b',Q e v' b'∧Q' e v' b') (motive_2:=fun t a bs r _=> ∀r',Ret c t a bs r'→r=r')
  ?_ ?_ ?_ ?_ ?_ ?_ ?_ ?_ ?_ ?_ ?_ ?_ ?_ ?_ ?_ h
 ·intro Q v b h Q' k;cases k with | skip h'=>exact ⟨_,_,_,h,h'⟩
 ·intro Q v b h Q' k;cases k with | ret h'=>exact ⟨_,_,_,h,h'⟩
 ·intro l Q v b h Q' k;cases k with | own h'=>exact ⟨_,_,_,h,h'⟩
 ·intro i Q v b h Q' k;cases k with | exit h'=>exact ⟨_,_,_,h,h'⟩
 ·intro x y Q R v b h1 h2 h3 ih1 ih2 Q' k
  cases k with
  | seq k1 k2 k3=>
   obtain ⟨e,v',b',p1,p2⟩:=ih1 _ k1
   cases e with
   | normal=>exact ih2 v' b' p1 _ (k2 v' b' p2)
   | ret=>exact ⟨_,_,_,h3 _ _ _ (by simp) p1,k3 _ _ _ (by simp) p2⟩
   | exit i=>exact ⟨_,_,_,h3 _ _ _ (by simp) p1,k3 _ _ _ (by simp) p2⟩
 ·intro i x Q v b h ih Q' k
  cases k with
  | block h'=>
   obtain ⟨e,v',b',p1,p2⟩:=ih _ h'
   exact ⟨_,_,_,p1,p2⟩
 ·intro m kl its Q v v' b b' cf h hr hq ih Q' k
  cases k with
  | reg cf' h' hr' hq'=>
   have hj: ∀t a b r r',cf t a b=some r→cf' t a b=some r'→r=r':=fun t a b r r' h1 h2=>ih t a b r h1 _ (h' t a b r' h2)
   have e1:=runIts_le (joinC_l cf cf') _ _ _ _ hr
   have e2:=runIts_le (joinC_r hj) _ _ _ _ hr'
   rw [e1] at e2
   cases e2
   exact ⟨_,_,_,hq,hq'⟩
 ·intro k x y Q v b hx h ih Q' h'
  cases h' with
  | yes hx' h'=>exact ih _ h'
  | no hx' h'=>rw [hx] at hx';cases hx'
 ·intro k x y Q v b hx h ih Q' h'
  cases h' with
  | yes hx' h'=>rw [hx] at hx';cases hx'
  | no hx' h'=>exact ih _ h'
 ·intro k x Q R v b h1 h2 h3 ih1 ih2 Q' h'
  cases h' with
  | loop k1 k2 k3=>
   obtain ⟨e,v',b',p1,p2⟩:=ih1 _ k1
   cases e with
   | normal=>exact ih2 v' b' p1 _ (k2 v' b' p2)
   | ret=>exact ⟨_,_,_,h3 _ _ _ (by simp) p1,k3 _ _ _ (by simp) p2⟩
   | exit i=>exact ⟨_,_,_,h3 _ _ _ (by simp) p1,k3 _ _ _ (by simp) p2⟩
 ·intro x s Q v v' b b' e cf h hr hq ih Q' k
  cases k with
  | rng cf' h' hr' hq'=>
   have hj: ∀t a b r r',cf t a b=some r→cf' t a b=some r'→r=r':=fun t a b r r' h1 h2=>ih t a b r h1 _ (h' t a b r' h2)
   have e1:=rngI_le (joinC_l cf cf') hr
   have e2:=rngI_le (joinC_r hj) hr'
   rw [e1] at e2
   cases e2
   exact ⟨_,_,_,hq,hq'⟩
 ·intro x n0 n i m clock seen es its Q v b cf h hx hi hm h0 h1 ih Q' k
  cases k with
  | nxt cf' h' hx' hi' hm' h0' h1'=>
   rw [hx] at hx';cases hx'
   rw [hi] at hi';cases hi'
   rw [hm] at hm';cases hm'
   have hj: ∀t a b r r',cf t a b=some r→cf' t a b=some r'→r=r':=fun t a b r r' h1 h2=>ih t a b r h1 _ (h' t a b r' h2)
   by_cases hall: ∀e∈es,seen.contains e.2.2=true
   ·obtain ⟨v1,b1,r1,q1⟩:=h0 hall
    obtain ⟨v2,b2,r2,q2⟩:=h0' hall
    have e1:=runIts_le (joinC_l cf cf') _ _ _ _ r1
    have e2:=runIts_le (joinC_r hj) _ _ _ _ r2
    rw [e1] at e2
    cases e2
    exact ⟨_,_,_,q1,q2⟩
   ·have: ∃e∈es,seen.contains e.2.2=false:=by
     simpa using hall
    obtain ⟨e,he,hn⟩:=this
    obtain ⟨v1,b1,r1,q1⟩:=h1 e he hn
    obtain ⟨v2,b2,r2,q2⟩:=h1' e he hn
    have e1:=runIts_le (joinC_l cf cf') _ _ _ _ r1
    have e2:=runIts_le (joinC_r hj) _ _ _ _ r2
    rw [e1] at e2
    cases e2
    exact ⟨_,_,_,q1,q2⟩
 ·intro l Q v b cf h hne hr ih Q' k
  cases k with
  | alt cf' h' hne' hr'=>
   have hj: ∀t a b r r',cf t a b=some r→cf' t a b=some r'→r=r':=fun t a b r r' h1 h2=>ih t a b r h1 _ (h' t a b r' h2)
   cases l with
   | nil=>exact absurd rfl hne
   | cons x l=>
    obtain ⟨v1,b1,r1,q1⟩:=hr x List.mem_cons_self
    obtain ⟨v2,b2,r2,q2⟩:=hr' x List.mem_cons_self
    have e1:=runIts_le (joinC_l cf cf') _ _ _ _ r1
    have e2:=runIts_le (joinC_r hj) _ _ _ _ r2
    rw [e1] at e2
    cases e2
    exact ⟨_,_,_,q1,q2⟩
 ·intro f fn L args bs r hf hl h ih r' k
  cases k with
  | fn hf' hl' h'=>
   rw [hf] at hf';cases hf'
   rw [hl] at hl';cases hl'
   obtain ⟨e,v',b',p1,p2⟩:=ih _ h'
   unfold endW at p1 p2
   cases e with
   | normal=>rw [p1] at p2;cases p2;rfl
   | ret=>rw [p1] at p2;cases p2;rfl
   | exit i=>exact p1.elim
 ·intro k s env args bs r asg body R hl hn he hk h1 h2 h3 ih1 ih3 r' k'
  cases k' with
  | yld hl' hn' he' hk' h1' h2' h3'=>
   rw [hl] at hl';cases hl'
   obtain ⟨e,v1,b1,p1,p2⟩:=ih1 _ h1'
   obtain ⟨e2,v2,b2,q1,q2⟩:=ih3 _ _ _ p1 _ (h3' _ _ _ p2)
   rw [←q1.2,←q2.2]
theorem Ret.one {c:Cfg} {t:Tgt} {a:List AV} {bs:List Box} {r r':AV×List Box} (h:Ret c t a bs r) (h':Ret c t a bs r'):r=r':=by
 cases h with
 | fn hf hl h=>
  cases h' with
  | fn hf' hl' h'=>
   rw [hf] at hf';cases hf'
   rw [hl] at hl';cases hl'
   obtain ⟨e,v',b',p1,p2⟩:=h.both _ h'
   unfold endW at p1 p2
   cases e with
   | normal=>rw [p1] at p2;cases p2;rfl
   | ret=>rw [p1] at p2;cases p2;rfl
   | exit i=>exact p1.elim
 | yld hl hn he hk h1 h2 h3=>
  cases h' with
  | yld hl' hn' he' hk' h1' h2' h3'=>
   rw [hl] at hl';cases hl'
   obtain ⟨e,v1,b1,p1,p2⟩:=h1.both _ h1'
   obtain ⟨e2,v2,b2,q1,q2⟩:=(h3 _ _ _ p1).both _ (h3' _ _ _ p2)
   rw [←q1.2,←q2.2]
noncomputable def ansT (c:Cfg):CallF:=fun f args bs=>
 open Classical in if h: ∃r,Ret c f args bs r then some (Classical.choose h) else none
theorem ansT_iff {c:Cfg} {f:Tgt} {args:List AV} {bs:List Box} {r:AV×List Box}:ansT c f args bs=some r↔Ret c f args bs r:=by
 unfold ansT
 constructor
 ·intro h
  split at h
  ·rename_i hx;cases h;exact Classical.choose_spec hx
  ·cases h
 ·intro h
  have hx: ∃r,Ret c f args bs r:=⟨r,h⟩
  rw [dif_pos hx]
  rw [Ret.one (Classical.choose_spec hx) h]
noncomputable abbrev ansF (c:Cfg) (f:FuncId):List AV→List Box→Option (AV×List Box):=ansT c (.fn f)
def Wp (c:Cfg):IR→Post→List (Option AV)→List Box→Prop
 | .skip,Q,v,b=>Q .normal v b
 | .ret,Q,v,b=>Q .ret v b
 | .stuck,_,_,_=>False
 | .own l,Q,v,b=>Q .normal (ownAll l v b).1 (ownAll l v b).2
 | .exit i,Q,v,b=>Q (.exit i) v b
 | .seq x y,Q,v,b=>Wp c x (thenW (Wp c y) Q) v b
 | .block i x,Q,v,b=>Wp c x (fun e v b=>Q (leave i e) v b) v b
 | .reg n kl its,Q,v,b=>regW (runIts c (ansT c) b.length kl its v (b++List.replicate n .dead)) Q
 | .cond x p q,Q,v,b=>condW (vget v x) (Wp c p Q (v.set x none) b) (Wp c q Q (v.set x none) b)
 | .loop k x,Q,v,b=> ∃n,roundsW (Wp c x) k Q n v b
 | .rng x s,Q,v,b=>rngW (rngI c (ansT c) x s v b) Q
 | .nxt x k n its,Q,v,b=> ∃i m clock seen es,vget v x=some (.itv i)∧Box.at b i= .iter (.map m seen clock)∧Box.at b m= .mp es clock∧
   ((∀e∈es,seen.contains e.2.2=true)→regW (runIts c (ansT c) b.length [] its (v.set k (some (.tup [.bool false]))) (b++List.replicate n .dead)) Q)∧
   (∀e∈es,seen.contains e.2.2=false→regW (runIts c (ansT c) b.length [] its (v.set k (some (.tup [.bool true,e.1,e.2.1]))) (b.set i (.iter (.map m (seen++ [e.2.2]) clock))++List.replicate n .dead)) Q)
 | .alt l,Q,v,b=>l≠ []∧ ∀x∈l,regW (runIts c (ansT c) b.length x.2.1 x.2.2 v (b++List.replicate x.1 .dead)) Q
theorem regW_ex {r:Option (List (Option AV)×List Box)} {Q:Post} (h:regW r Q): ∃v b,r=some (v,b)∧Q .normal v b:=by
 unfold regW at h
 split at h
 ·exact ⟨_,_,rfl,h⟩
 ·exact h.elim
theorem regW_mono {r:Option (List (Option AV)×List Box)} {Q Q':Post} (hq: ∀e v b,Q e v b→Q' e v b) (h:regW r Q):regW r Q':=by
 obtain ⟨v,b,rfl,h⟩:=regW_ex h
 exact hq _ _ _ h
theorem roundsW_mono {W:Post→List (Option AV)→List Box→Prop} (hW: ∀{Q Q':Post},(∀e v b,Q e v b→Q' e v b)→ ∀v b,W Q v b→W Q' v b) {k:List Nat} {Q Q':Post} (h: ∀e v b,Q e v b→Q' e v b): ∀(n:Nat) (v:List (Option AV)) (b:List Box),roundsW W k Q n v b→roundsW W k Q' n v b
 | 0,_,_,hr=>hr
 | n+1,v,b,hr=>by
  refine hW (fun e v' b' hq=> ?_) _ _ hr
  cases e with
  | normal=>exact roundsW_mono hW h n _ _ hq
  | ret=>exact h _ _ _ hq
  | exit i=>exact h _ _ _ hq
theorem Wp.mono {c:Cfg}: ∀(ir:IR) {Q Q':Post},(∀e v b,Q e v b→Q' e v b)→ ∀v b,Wp c ir Q v b→Wp c ir Q' v b
 | .skip,_,_,h,v,b,hw=>h _ _ _ hw
 | .ret,_,_,h,v,b,hw=>h _ _ _ hw
 | .stuck,_,_,_,_,_,hw=>hw
 | .own l,_,_,h,v,b,hw=>h _ _ _ hw
 | .exit _,_,_,h,v,b,hw=>h _ _ _ hw
 | .seq x y,Q,Q',h,v,b,hw=>Wp.mono x (fun e v b hq=>by
   cases e with
   | normal=>exact Wp.mono y h v b hq
   | ret=>exact h _ _ _ hq
   | exit i=>exact h _ _ _ hq) v b hw
 | .block i x,Q,Q',h,v,b,hw=>Wp.mono x (fun e v b hq=>h _ _ _ hq) v b hw
 | .reg n kl its,Q,Q',h,v,b,hw=>by
  simp only [Wp,regW] at hw⊢
  split at hw
  ·exact h _ _ _ hw
  ·exact hw
 | .cond x p q,Q,Q',h,v,b,hw=>by
  simp only [Wp,condW] at hw⊢
  split at hw
  ·exact Wp.mono p h _ b hw
  ·exact Wp.mono q h _ b hw
  ·exact hw
 | .loop k x,Q,Q',h,v,b,hw=>by
  obtain ⟨n,hn⟩:=hw
  exact ⟨n,roundsW_mono (fun h v b=>Wp.mono x h v b) h n v b hn⟩
 | .rng x s,Q,Q',h,v,b,hw=>by
  simp only [Wp,rngW] at hw⊢
  split at hw
  ·exact h _ _ _ hw
  ·exact hw
 | .nxt x k n its,Q,Q',h,v,b,hw=>by
  obtain ⟨i,m,clock,seen,es,h1,h2,h3,h4,h5⟩:=hw
  exact ⟨i,m,clock,seen,es,h1,h2,h3,fun p=>regW_mono h (h4 p),fun e he p=>regW_mono h (h5 e he p)⟩
 | .alt l,Q,Q',h,v,b,hw=>⟨hw.1,fun x hx=>regW_mono h (hw.2 x hx)⟩
theorem rounds_run {c:Cfg} {x:IR} {k:List Nat} (ih: ∀(Q:Post) (v:List (Option AV)) (b:List Box),Wp c x Q v b→Run c x Q v b) {Q:Post}:
  ∀(m:Nat) (v:List (Option AV)) (b:List Box),roundsW (Wp c x) k Q m v b→Run c (.loop k x) Q v b
 | 0,_,_,h=>h.elim
 | m+1,v,b,h=>by
  refine .loop (ih _ _ _ h) (fun v' b' h'=>rounds_run ih m _ _ h') (fun e v' b' hne h'=> ?_)
  cases e with
  | normal=>exact absurd rfl hne
  | ret=>exact h'
  | exit i=>exact h'
theorem wp_run {c:Cfg}: ∀(x:IR) (Q:Post) (v:List (Option AV)) (b:List Box),Wp c x Q v b→Run c x Q v b
 | .skip,Q,v,b,h=> .skip h
 | .ret,Q,v,b,h=> .ret h
 | .stuck,Q,v,b,h=>h.elim
 | .own l,Q,v,b,h=> .own h
 | .exit i,Q,v,b,h=> .exit h
 | .seq x y,Q,v,b,h=> .seq (wp_run x _ v b h) (fun v' b' h'=>wp_run y _ v' b' h') (fun e v' b' hne h'=>by
   cases e with
   | normal=>exact absurd rfl hne
   | ret=>exact h'
   | exit i=>exact h')
 | .block i x,Q,v,b,h=> .block (wp_run x _ v b h)
 | .reg m kl its,Q,v,b,h=>by
  simp only [Wp,regW] at h
  split at h
  ·rename_i v' b' hrun
   exact .reg (ansT c) (fun _ _ _ _ hr=>ansT_iff.1 hr) hrun h
  ·exact h.elim
 | .cond x p q,Q,v,b,h=>by
  simp only [Wp,condW] at h
  split at h
  ·rename_i hx;exact .yes hx (wp_run p _ _ b h)
  ·rename_i hx;exact .no hx (wp_run q _ _ b h)
  ·exact h.elim
 | .loop k x,Q,v,b,h=>by
  obtain ⟨m,hm⟩:=h
  exact rounds_run (fun Q v b h=>wp_run x Q v b h) m v b hm
 | .rng x s,Q,v,b,h=>by
  simp only [Wp,rngW] at h
  split at h
  ·rename_i e v' b' hrun
   exact .rng (ansT c) (fun _ _ _ _ hr=>ansT_iff.1 hr) hrun h
  ·exact h.elim
 | .nxt x k n its,Q,v,b,h=>by
  obtain ⟨i,m,clock,seen,es,h1,h2,h3,h4,h5⟩:=h
  exact .nxt (ansT c) (fun _ _ _ _ hr=>ansT_iff.1 hr) h1 h2 h3 (fun p=>regW_ex (h4 p)) (fun e he p=>regW_ex (h5 e he p))
 | .alt l,Q,v,b,h=> .alt (ansT c) (fun _ _ _ _ hr=>ansT_iff.1 hr) h.1 (fun x hx=>regW_ex (h.2 x hx))
theorem ans_of_wp {c:Cfg} {f:FuncId} {fn:Func} {L:Low} {args:List AV} {bs:List Box} {r:AV×List Box} (hf:c.fn.get none f=some fn) (hl:lowF c fn=some L)
  (hw:Wp c L.code (endW c (c.own f) L.res bs.length r) (startV L.keep args) bs):ansF c f args bs=some r:=
 ansT_iff.2 (.fn hf hl (wp_run _ _ _ _ hw))
end Go.Am
