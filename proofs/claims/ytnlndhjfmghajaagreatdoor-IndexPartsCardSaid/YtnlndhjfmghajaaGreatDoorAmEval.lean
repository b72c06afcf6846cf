/- The plainer form, run by the kernel on given values: -/
import Derived.Test.YtnlndhjfmghajaaGreatDoorAmIr7
set_option linter.all false
namespace Go.Am
mutual
def eqA:AV→AV→Bool
 | .int k n,.int k' m=>decide (k=k')&&n==m
 | .bool a,.bool b=>a==b
 | .str s,.str t=>s==t
 | .agg a,.agg b=>eqAs a b
 | .tup a,.tup b=>eqAs a b
 | .lst n s a,.lst m t b=>n==m&&s==t&&eqAs a b
 | .cap0 a,.cap0 b=>a==b
 | .osl k n,.osl l m=>k==l&&n==m
 | .ptr k n,.ptr l m=>k==l&&n==m
 | .mapv k,.mapv l=>k==l
 | .nilp,.nilp=>true
 | .nilm,.nilm=>true
 | .nilf,.nilf=>true
 | .any,.any=>true
 | .unk,.unk=>true
 | .ifc a,.ifc b=>a==b
 | _,_=>false
def eqAs:List AV→List AV→Bool
 | [], []=>true
 | a::r,b::s=>eqA a b&&eqAs r s
 | _,_=>false
end
mutual
theorem eqA_ok: ∀a b:AV,eqA a b=true→a=b
 | .int k n,b,h=>by cases b <;> simp [eqA] at h;obtain ⟨rfl,rfl⟩:=h;rfl
 | .bool a,b,h=>by cases b <;> simp [eqA] at h;subst h;rfl
 | .str a,b,h=>by cases b <;> simp [eqA] at h;subst h;rfl
 | .agg a,b,h=>by cases b <;> simp [eqA] at h;rw [eqAs_ok _ _ h]
 | .tup a,b,h=>by cases b <;> simp [eqA] at h;rw [eqAs_ok _ _ h]
 | .lst n s a,b,h=>by cases b <;> simp [eqA] at h;obtain ⟨⟨rfl,rfl⟩,h⟩:=h;rw [eqAs_ok _ _ h]
 | .cap0 a,b,h=>by cases b <;> simp [eqA] at h;subst h;rfl
 | .osl k n,b,h=>by cases b <;> simp [eqA] at h;obtain ⟨rfl,rfl⟩:=h;rfl
 | .ptr k n,b,h=>by cases b <;> simp [eqA] at h;obtain ⟨rfl,rfl⟩:=h;rfl
 | .mapv k,b,h=>by cases b <;> simp [eqA] at h;subst h;rfl
 | .nilp,b,h=>by cases b <;> simp [eqA] at h;rfl
 | .nilm,b,h=>by cases b <;> simp [eqA] at h;rfl
 | .nilf,b,h=>by cases b <;> simp [eqA] at h;rfl
 | .any,b,h=>by cases b <;> simp [eqA] at h;rfl
 | .unk,b,h=>by cases b <;> simp [eqA] at h;rfl
 | .ifc a,b,h=>by cases b <;> simp [eqA] at h;subst h;rfl
 | .sptr _ _ _ _,b,h=>by cases b <;> simp [eqA] at h
 | .eptr _,b,h=>by cases b <;> simp [eqA] at h
 | .osv _ _ _ _,b,h=>by cases b <;> simp [eqA] at h
 | .fn _ _ _,b,h=>by cases b <;> simp [eqA] at h
 | .ifi _ _ _,b,h=>by cases b <;> simp [eqA] at h
 | .yld _ _ _,b,h=>by cases b <;> simp [eqA] at h
 | .itv _,b,h=>by cases b <;> simp [eqA] at h
theorem eqAs_ok: ∀a b:List AV,eqAs a b=true→a=b
 | [],b,h=>by cases b <;> simp [eqAs] at h;rfl
 | x::r,b,h=>by cases b <;> simp [eqAs] at h;rw [eqA_ok _ _ h.1,eqAs_ok _ _ h.2]
end
def eqM:List (AV×AV×Nat)→List (AV×AV×Nat)→Bool
 | [], []=>true
 | a::r,b::s=>eqA a.1 b.1&&eqA a.2.1 b.2.1&&a.2.2==b.2.2&&eqM r s
 | _,_=>false
theorem eqM_ok: ∀a b:List (AV×AV×Nat),eqM a b=true→a=b
 | [],b,h=>by cases b <;> simp [eqM] at h;rfl
 | (x,y,z)::r,b,h=>by
  cases b with
  | nil=>simp [eqM] at h
  | cons q s=>
   obtain ⟨x',y',z'⟩:=q
   simp [eqM] at h
   obtain ⟨⟨⟨h1,h2⟩,rfl⟩,h4⟩:=h
   rw [eqA_ok _ _ h1,eqA_ok _ _ h2,eqM_ok _ _ h4]
def eqH:Hd→Hd→Bool
 | ⟨a,b,c⟩,⟨a',b',c'⟩=>a==a'&&b==b'&&c==c'
theorem eqH_ok (a b:Hd) (h:eqH a b=true):a=b:=by
 obtain ⟨a1,a2,a3⟩:=a
 obtain ⟨b1,b2,b3⟩:=b
 simp [eqH] at h
 obtain ⟨⟨rfl,rfl⟩,rfl⟩:=h;rfl
def eqB:Box→Box→Bool
 | .dead,.dead=>true
 | .gone,.gone=>true
 | .var t cs,.var u ds=>t==u&&eqAs cs ds
 | .sl h s es,.sl h' s' es'=>eqH h h'&&s==s'&&eqAs es es'
 | .mp es c,.mp fs d=>c==d&&eqM es fs
 | .iter (.str s p),.iter (.str t q)=>s==t&&p==q
 | .iter (.map m s c),.iter (.map m' s' c')=>m==m'&&s==s'&&c==c'
 | _,_=>false
theorem eqB_ok (a b:Box) (h:eqB a b=true):a=b:=by
 cases a with
 | dead=>cases b <;> simp [eqB] at h;rfl
 | gone=>cases b <;> simp [eqB] at h;rfl
 | var t cs=>cases b <;> simp [eqB] at h;obtain ⟨rfl,h⟩:=h;rw [eqAs_ok _ _ h]
 | sl hd s es=>cases b <;> simp [eqB] at h;obtain ⟨⟨h1,rfl⟩,h⟩:=h;rw [eqH_ok _ _ h1,eqAs_ok _ _ h]
 | mp es c=>cases b <;> simp [eqB] at h;obtain ⟨rfl,h⟩:=h;rw [eqM_ok _ _ h]
 | loop st=>cases b <;> simp [eqB] at h
 | iter o=>
  cases b with
  | iter o'=>
   cases o with
   | str s p=>cases o' <;> simp [eqB] at h;obtain ⟨rfl,rfl⟩:=h;rfl
   | map m s c=>cases o' <;> simp [eqB] at h;obtain ⟨⟨rfl,rfl⟩,rfl⟩:=h;rfl
  | _=>cases o <;> simp [eqB] at h
def eqBs:List Box→List Box→Bool
 | [], []=>true
 | a::r,b::s=>eqB a b&&eqBs r s
 | _,_=>false
theorem eqBs_ok: ∀a b:List Box,eqBs a b=true→a=b
 | [],b,h=>by cases b <;> simp [eqBs] at h;rfl
 | x::r,b,h=>by cases b <;> simp [eqBs] at h;rw [eqB_ok _ _ h.1,eqBs_ok _ _ h.2]
def allR (r:AV×List Box):List (Option (AV×List Box))→Bool
 | []=>true
 | some x::l=>eqA x.1 r.1&&eqBs x.2 r.2&&allR r l
 | none::_=>false
theorem allR_ok {r:AV×List Box}: ∀{l:List (Option (AV×List Box))},allR r l=true→ ∀x∈l,x=some r
 | [],_,_,h=>by cases h
 | none::_,h,_,_=>by simp [allR] at h
 | some y::l,h,x,hx=>by
  simp only [allR,Bool.and_eq_true] at h
  rcases List.mem_cons.1 hx with rfl | hx
  ·obtain ⟨y1,y2⟩:=y
   obtain ⟨r1,r2⟩:=r
   obtain ⟨⟨h1,h2⟩,_⟩:=h
   obtain rfl:y1=r1:=eqA_ok _ _ h1
   obtain rfl:y2=r2:=eqBs_ok _ _ h2
   rfl
  ·exact allR_ok h.2 x hx
def oneR:List (Option (AV×List Box))→Option (AV×List Box)
 | some r::l=>match allR r l with
  | true=>some r
  | false=>none
 | _=>none
theorem oneR_ok {r:AV×List Box} {l:List (Option (AV×List Box))} (h:oneR l=some r): ∀x∈l,x=some r:=by
 unfold oneR at h
 split at h
 ·split at h
  ·rename_i ha
   cases h
   intro x hx
   rcases List.mem_cons.1 hx with rfl | hx
   ·rfl
   ·exact allR_ok ha x hx
  ·cases h
 ·cases h
abbrev Oc:=Ex×List (Option AV)×List Box
def allL {α β:Type} (f:α→Option (List β)):List α→Option (List β)
 | []=>some []
 | a::r=>match f a with
  | some x=>match allL f r with
   | some y=>some (x++y)
   | none=>none
  | none=>none
theorem allL_mem {α β:Type} {f:α→Option (List β)}: ∀{l:List α} {L:List β},allL f l=some L→ ∀a∈l,∃x,f a=some x∧ ∀y∈x,y∈L
 | [],_,_,_,h=>by cases h
 | a::r,L,h,b,hb=>by
  simp only [allL] at h
  split at h
  ·rename_i x hx
   split at h
   ·rename_i y hy
    cases h
    rcases List.mem_cons.1 hb with rfl | hb
    ·exact ⟨x,hx,fun z hz=>List.mem_append_left _ hz⟩
    ·obtain ⟨z,h1,h2⟩:=allL_mem hy b hb
     exact ⟨z,h1,fun q hq=>List.mem_append_right _ (h2 q hq)⟩
   ·cases h
  ·cases h
def thenE (r:Option (List Oc)) (f:List (Option AV)→List Box→Option (List Oc)):Option (List Oc):=
 match r with
 | some l=>allL (fun p=>match p with
  | (.normal,v,b)=>f v b
  | p=>some [p]) l
 | none=>none
def leaveE (i:Nat) (r:Option (List Oc)):Option (List Oc):=
 match r with
 | some l=>some (l.map fun p=>(leave i p.1,p.2.1,p.2.2))
 | none=>none
def condE (x:Option AV) (p q:Option (List Oc)):Option (List Oc):=
 match x with
 | some (.bool true)=>p
 | some (.bool false)=>q
 | _=>none
def regE (r:Option (List (Option AV)×List Box)):Option (List Oc):=
 match r with
 | some (v,b)=>some [(.normal,v,b)]
 | none=>none
def rngE' (r:Option Oc):Option (List Oc):=
 match r with
 | some p=>some [p]
 | none=>none
def nxtE (c:Cfg) (cf:CallF) (x k n:Nat) (its:List It) (v:List (Option AV)) (b:List Box):Option (List Oc):=
 match vget v x with
 | some (.itv i)=>match Box.at b i with
  | .iter (.map m seen clock)=>match Box.at b m with
   | .mp es clock'=>match clock'==clock with
    | true=>match es.all fun e=>seen.contains e.2.2 with
     | true=>regE (runIts c cf b.length [] its (v.set k (some (.tup [.bool false]))) (b++List.replicate n .dead))
     | false=>allL (fun e=>match seen.contains e.2.2 with
      | true=>some []
      | false=>regE (runIts c cf b.length [] its (v.set k (some (.tup [.bool true,e.1,e.2.1]))) (b.set i (.iter (.map m (seen++ [e.2.2]) clock))++List.replicate n .dead))) es
    | false=>none
   | _=>none
  | _=>none
 | _=>none
def callT (c:Cfg) (tb:FuncId→Option Low) (ex:IR→List (Option AV)→List Box→Option (List Oc)):CallF:=fun f args bs=>
 match f with
 | .fn f=>match tb f with
  | some L=>match ex L.code (startV L.keep args) bs with
   | some l=>oneR (l.map fun p=>endX c (c.own f) L.res bs.length (some p))
   | none=>none
  | none=>none
 | .yld k s env=>match lowSite c s with
  | some (asg,body)=>match args.length==s.ps.size&&env.length==s.keep.length with
   | true=>match Box.at bs k with
    | .loop .ready=>match ex asg (roundV s env args) bs with
     | some [(.normal,v1,b1)]=>match Box.at b1 k with
      | .loop .ready=>match ex body v1 (b1.set k (.loop .busy)) with
       | some [p]=>yldEnd bs.length k (some p)
       | _=>none
      | _=>none
     | _=>none
    | _=>none
   | false=>none
  | none=>none
def execT (c:Cfg) (tb:FuncId→Option Low):Nat→IR→List (Option AV)→List Box→Option (List Oc)
 | 0,_,_,_=>none
 | n+1,ir,v,b=>
  match ir with
  | .skip=>some [(.normal,v,b)]
  | .ret=>some [(.ret,v,b)]
  | .stuck=>none
  | .own l=>some [(.normal,(ownAll l v b).1,(ownAll l v b).2)]
  | .exit i=>some [(.exit i,v,b)]
  | .seq x y=>thenE (execT c tb n x v b) (execT c tb n y)
  | .block i x=>leaveE i (execT c tb n x v b)
  | .reg m kl its=>regE (runIts c (callT c tb (execT c tb n)) b.length kl its v (b++List.replicate m .dead))
  | .cond x p q=>condE (vget v x) (execT c tb n p (v.set x none) b) (execT c tb n q (v.set x none) b)
  | .loop k x=>thenE (execT c tb n x (killV k v) b) fun v' b'=>execT c tb n (.loop k x) (turnV k b.length v' b') (turnB k b.length v' b')
  | .rng x s=>rngE' (rngI c (callT c tb (execT c tb n)) x s v b)
  | .nxt x k m its=>nxtE c (callT c tb (execT c tb n)) x k m its v b
  | .alt l=>match l with
   | []=>none
   | x::r=>allL (fun x=>regE (runIts c (callT c tb (execT c tb n)) b.length x.2.1 x.2.2 v (b++List.replicate x.1 .dead))) (x::r)
def TbOk (c:Cfg) (tb:FuncId→Option Low):Prop:= ∀f L,tb f=some L→ ∃fn,c.fn.get none f=some fn∧lowF c fn=some L
def onlyQ (l:List Oc):Post:=fun e v b=>(e,v,b)∈l
theorem Run.mono {c:Cfg} {x:IR} {Q:Post} {v:List (Option AV)} {b:List Box} (h:Run c x Q v b): ∀Q':Post,(∀e v b,Q e v b→Q' e v b)→Run c x Q' v b:=by
 refine Run.rec (c:=c) (motive_1:=fun x Q v b _=> ∀Q':Post,(∀e v b,Q e v b→Q' e v b)→Run c x Q' v b) (motive_2:=fun _ _ _ _ _=>True) ?_ ?_ ?_ ?_ ?_ ?_ ?_ ?_ ?_ ?_ ?_ ?_ ?_ ?_ ?_ h
 ·intro Q v b h Q' hq;exact .skip (hq _ _ _ h)
 ·intro Q v b h Q' hq;exact .ret (hq _ _ _ h)
 ·intro l Q v b h Q' hq;exact .own (hq _ _ _ h)
 ·intro i Q v b h Q' hq;exact .exit (hq _ _ _ h)
 ·intro x y Q R v b h1 h2 h3 ih1 ih2 Q' hq;exact .seq h1 (fun v' b' hr=>ih2 v' b' hr _ hq) (fun e v' b' hn hr=>hq _ _ _ (h3 e v' b' hn hr))
 ·intro i x Q v b h ih Q' hq;exact .block (ih _ (fun e v b h=>hq _ _ _ h))
 ·intro m kl its Q v v' b b' cf h hr hqq ih Q' hq;exact .reg cf h hr (hq _ _ _ hqq)
 ·intro k x y Q v b hx h ih Q' hq;exact .yes hx (ih _ hq)
 ·intro k x y Q v b hx h ih Q' hq;exact .no hx (ih _ hq)
 ·intro k x Q R v b h1 h2 h3 ih1 ih2 Q' hq;exact .loop h1 (fun v' b' hr=>ih2 v' b' hr _ hq) (fun e v' b' hn hr=>hq _ _ _ (h3 e v' b' hn hr))
 ·intro x s Q v v' b b' e cf h hr hqq ih Q' hq;exact .rng cf h hr (hq _ _ _ hqq)
 ·intro x k n i m clock seen es its Q v b cf h hx hi hm h0 h1 ih Q' hq
  exact .nxt cf h hx hi hm (fun p=>(h0 p).imp fun _ ⟨b',r,q⟩=>⟨b',r,hq _ _ _ q⟩) (fun e he p=>(h1 e he p).imp fun _ ⟨b',r,q⟩=>⟨b',r,hq _ _ _ q⟩)
 ·intro l Q v b cf h hne hr ih Q' hq;exact .alt cf h hne (fun x hx=>(hr x hx).imp fun _ ⟨b',r,q⟩=>⟨b',r,hq _ _ _ q⟩)
 ·intros;trivial
 ·intros;trivial
theorem regE_ok {r:Option (List (Option AV)×List Box)} {l:List Oc} (h:regE r=some l): ∃v b,r=some (v,b)∧l= [(.normal,v,b)]:=by
 cases r with
 | none=>cases h
 | some p=>obtain ⟨v,b⟩:=p;cases h;exact ⟨v,b,rfl,rfl⟩
theorem callT_ret {c:Cfg} {tb:FuncId→Option Low} (ht:TbOk c tb) {ex:IR→List (Option AV)→List Box→Option (List Oc)} (h: ∀x v b r,ex x v b=some r→Run c x (onlyQ r) v b):
  ∀f args bs r,callT c tb ex f args bs=some r→Ret c f args bs r:=fun f args bs r hr=>by
 cases f with
 | fn f=>
  simp only [callT] at hr
  split at hr
  ·rename_i L hL
   obtain ⟨fn,h2,h3⟩:=ht f L hL
   split at hr
   ·rename_i l hx
    have h1:=oneR_ok hr
    refine .fn h2 h3 ((h _ _ _ _ hx).mono _ ?_)
    intro e v b hq
    have h4:=h1 _ (List.mem_map.mpr ⟨_,hq,rfl⟩)
    unfold endX at h4
    unfold endW
    cases e <;> simp only at h4⊢ <;> first | exact h4 | cases h4
   ·cases hr
  ·cases hr
 | yld k s env=>
  simp only [callT] at hr
  split at hr
  ·rename_i asg body hlow
   split at hr
   ·rename_i hlens
    simp only [Bool.and_eq_true,beq_iff_eq] at hlens
    split at hr
    ·rename_i hready
     split at hr
     ·rename_i v1 b1 hasg
      split at hr
      ·rename_i hready1
       split at hr
       ·rename_i p hbody
        obtain ⟨e2,v2,b2⟩:=p
        unfold yldEnd at hr
        simp only at hr
        split at hr
        ·rename_i hbusy
         cases hr
         refine .yld hlow hlens.1 hlens.2 hready (h _ _ _ _ hasg) (fun e v b hq=> ?_) (fun e v b hq=> ?_)
         ·rw [onlyQ,List.mem_singleton] at hq;cases hq;exact ⟨rfl,hready1⟩
         ·rw [onlyQ,List.mem_singleton] at hq;cases hq
          refine (h _ _ _ _ hbody).mono _ ?_
          intro e v b hq;rw [onlyQ,List.mem_singleton] at hq;cases hq;exact ⟨hbusy,rfl⟩
        ·cases hr
       ·cases hr
      ·cases hr
     ·cases hr
    ·cases hr
   ·cases hr
  ·cases hr
theorem execT_run {c:Cfg} {tb:FuncId→Option Low} (ht:TbOk c tb): ∀(n:Nat) (x:IR) (v:List (Option AV)) (b:List Box) (r:List Oc),execT c tb n x v b=some r→Run c x (onlyQ r) v b
 | 0,_,_,_,_,h=>by cases h
 | n+1,x,v,b,r,h=>by
  have ih:=execT_run ht n
  have two: ∀{X:IR} {F:List (Option AV)→List Box→Option (List Oc)} {v0:List (Option AV)},thenE (execT c tb n X v0 b) F=some r→ ∃l,Run c X (onlyQ l) v0 b∧(∀v1 b1,(.normal,v1,b1)∈l→ ∃r1,F v1 b1=some r1∧ ∀y∈r1,y∈r)∧(∀e v1 b1,e≠ .normal→(e,v1,b1)∈l→(e,v1,b1)∈r):=fun {X F v0} hh=>by
   cases hx:execT c tb n X v0 b with
   | none=>rw [hx] at hh;cases hh
   | some l=>
    rw [hx] at hh
    have hm:=allL_mem hh
    refine ⟨l,ih _ _ _ _ hx,fun v1 b1 h1=> ?_,fun e v1 b1 he h1=> ?_⟩
    ·obtain ⟨x,h2,h3⟩:=hm _ h1
     exact ⟨x,h2,h3⟩
    ·obtain ⟨x,h2,h3⟩:=hm _ h1
     cases e with
     | normal=>exact absurd rfl he
     | ret=>cases h2;exact h3 _ (List.mem_singleton.2 rfl)
     | exit i=>cases h2;exact h3 _ (List.mem_singleton.2 rfl)
  unfold execT at h
  cases x with
  | skip=>cases h;exact .skip (List.mem_singleton.2 rfl)
  | ret=>cases h;exact .ret (List.mem_singleton.2 rfl)
  | stuck=>cases h
  | own l=>cases h;exact .own (List.mem_singleton.2 rfl)
  | exit i=>cases h;exact .exit (List.mem_singleton.2 rfl)
  | seq x y=>
   obtain ⟨l,h1,h2,h3⟩:=two h
   refine .seq h1 (fun v' b' hq=> ?_) (fun e' v' b' hn hq=>h3 _ _ _ hn hq)
   obtain ⟨r1,h4,h5⟩:=h2 _ _ hq
   exact (ih _ _ _ _ h4).mono _ fun e v b hm=>h5 _ hm
  | block i x=>
   simp only [leaveE] at h
   split at h
   ·rename_i l hx
    cases h
    refine .block ((ih _ _ _ _ hx).mono _ ?_)
    intro e v b hq;exact List.mem_map.mpr ⟨_,hq,rfl⟩
   ·cases h
  | reg m kl its=>
   obtain ⟨v1,b1,hx,rfl⟩:=regE_ok h
   exact .reg _ (callT_ret ht ih) hx (List.mem_singleton.2 rfl)
  | cond x p q=>
   simp only [condE] at h
   split at h
   ·rename_i hx;exact .yes hx (ih _ _ _ _ h)
   ·rename_i hx;exact .no hx (ih _ _ _ _ h)
   ·cases h
  | loop k x=>
   obtain ⟨l,h1,h2,h3⟩:=two h
   refine .loop h1 (fun v' b' hq=> ?_) (fun e' v' b' hn hq=>h3 _ _ _ hn hq)
   obtain ⟨r1,h4,h5⟩:=h2 _ _ hq
   exact (ih _ _ _ _ h4).mono _ fun e v b hm=>h5 _ hm
  | rng x s=>
   cases hx:rngI c (callT c tb (execT c tb n)) x s v b with
   | none=>simp only [rngE',hx] at h;cases h
   | some p=>
    simp only [rngE',hx] at h
    cases h
    obtain ⟨e,v1,b1⟩:=p
    exact .rng _ (callT_ret ht ih) hx (List.mem_singleton.2 rfl)
  | nxt x k m its=>
   simp only [nxtE] at h
   split at h
   ·rename_i i hvx
    split at h
    ·rename_i mm seen clock hit
     split at h
     ·rename_i es clock' hmp
      split at h
      ·rename_i hck
       obtain rfl:clock'=clock:=by simpa using hck
       split at h
       ·rename_i hall
        obtain ⟨v1,b1,hx,rfl⟩:=regE_ok h
        refine .nxt _ (callT_ret ht ih) hvx hit hmp (fun _=>⟨v1,b1,hx,List.mem_singleton.2 rfl⟩) (fun e he hs=> ?_)
        have:=List.all_eq_true.1 hall e he
        rw [hs] at this;cases this
       ·rename_i hall
        refine .nxt _ (callT_ret ht ih) hvx hit hmp (fun hs=> ?_) (fun e he hs=> ?_)
        ·have:(es.all fun e=>seen.contains e.2.2)=true:=List.all_eq_true.2 hs
         rw [this] at hall;cases hall
        ·obtain ⟨y,h1,h2⟩:=allL_mem h e he
         rw [hs] at h1
         simp only at h1
         obtain ⟨v1,b1,hx,rfl⟩:=regE_ok h1
         exact ⟨v1,b1,hx,h2 _ (List.mem_singleton.2 rfl)⟩
      ·cases h
     ·cases h
    ·cases h
   ·cases h
  | alt l=>
   cases l with
   | nil=>cases h
   | cons x0 l=>
    simp only at h
    refine .alt _ (callT_ret ht ih) (by simp) (fun y hy=> ?_)
    obtain ⟨z,h1,h2⟩:=allL_mem h y hy
    obtain ⟨v1,b1,hx,rfl⟩:=regE_ok h1
    exact ⟨v1,b1,hx,h2 _ (List.mem_singleton.2 rfl)⟩
def tbL:List (FuncId×Low)→FuncId→Option Low
 | [],_=>none
 | (g,L)::r,f=>match Nat.beq f g with
  | true=>some L
  | false=>tbL r f
theorem tb_nil {c:Cfg}:TbOk c (tbL []):=fun _ _ h=>by cases h
theorem tb_cons {c:Cfg} {g:FuncId} {fn:Func} {L:Low} {r:List (FuncId×Low)} (h1:c.fn.get none g=some fn) (h2:lowF c fn=some L) (h:TbOk c (tbL r)):TbOk c (tbL ((g,L)::r)):=fun f M hM=>by
 simp only [tbL] at hM
 split at hM
 ·rename_i hb
  cases hM
  obtain rfl:f=g:=Nat.eq_of_beq_eq_true hb
  exact ⟨fn,h1,h2⟩
 ·exact h f M hM
theorem ans_of_run {c:Cfg} {tb:FuncId→Option Low} (ht:TbOk c tb) {n:Nat} {f:FuncId} {args:List AV} {bs:List Box} {r:AV×List Box} (h:callT c tb (execT c tb n) (.fn f) args bs=some r):ansF c f args bs=some r:=
 ansT_iff.2 (callT_ret ht (execT_run ht n) _ _ _ _ h)
end Go.Am
