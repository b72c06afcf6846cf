/- Code and its plainer form; variables and temporaries; slices of one's own. -/
import Derived.Test.YtnlndhjfmghajaaGreatDoorAmIr6
import Derived.Test.YtnlndhjfmghajaaGreatDoorAmNxt
set_option linter.all false
namespace Go.Am
variable [Kn]
structure RelV (keep:List Nat) (nt:Nat) (env:List (Option AV)) (t:Env):Prop where
 len:env.length=keep.length
 has: ∀i,i<nt→t.has i=true
 env: ∀i k v,posOf keep i=some k→env.getD k none=some v→t.get .any i=v
theorem RelV.set_none {keep:List Nat} {nt:Nat} {env:List (Option AV)} {t:Env} (h:RelV keep nt env t) (x:Nat):RelV keep nt (env.set x none) t where
 len:=by rw [List.length_set];exact h.len
 has:=h.has
 env:=fun i k v hk hv=>by
  by_cases hxk:x=k
  ·subst hxk
   simp only [List.getD_eq_getElem?_getD] at hv
   by_cases hlt:x<env.length
   ·simp [hlt] at hv
   ·simp [hlt] at hv
  ·refine h.env i k v hk ?_
   simp only [List.getD_eq_getElem?_getD] at hv⊢
   rwa [List.getElem?_set_ne hxk] at hv
theorem RelV.kill {keep:List Nat} {nt:Nat} {t:Env}: ∀(k:List Nat) {env:List (Option AV)},RelV keep nt env t→RelV keep nt (killV k env) t
 | [],_,h=>h
 | i::r,_,h=>RelV.kill r (h.set_none i)
theorem RelV.cut {keep:List Nat} {nt:Nat} {env:List (Option AV)} {s:St} (h:RelV keep nt env s.t) (n:Nat):RelV keep nt (cutV n env s.b) (s.cut n).t:=by
 unfold cutV St.cut
 split
 ·rename_i hd;simp only [hd];exact h
 ·rename_i hd
  simp only [hd]
  refine ⟨by rw [List.length_map];exact h.len,fun i hi=>by rw [Tr.has_map];exact h.has i hi,fun i k v hk hv=> ?_⟩
  have:(s.t.map (forget n)).get .any i=forget n (s.t.get .any i):=Tr.get_map (forget n) .any s.t i
  rw [this]
  simp only [List.getD_eq_getElem?_getD,List.getElem?_map] at hv
  cases he:env[k]? with
  | none=>rw [he] at hv;cases hv
  | some o=>cases o with
   | none=>rw [he] at hv;cases hv
   | some u=>
    rw [he] at hv
    simp only [Option.map_some,Option.getD_some,Option.some.injEq] at hv
    rw [h.env i k u hk (by simp [List.getD_eq_getElem?_getD,he]),hv]
theorem keepBy_rd {g:Gh} {w:World} {bs:List Box} (hm:Mem g bs w) (n:Nat) {d:AV} {v:Value} (h:Rd g w d v):Rd (g.hand bs n) w (keepBy n bs d) v:=by
 unfold keepBy
 split
 ·rename_i hu;exact h.hand_under n hu
 ·split
  ·rename_i v' hv'
   split
   ·rename_i hu;exact hand_rd hm n d v' v h hv' hu
   ·exact .any v
  ·exact .any v
theorem keepBy_any (n:Nat) (bs:List Box):keepBy n bs .any= .any:=rfl
theorem RelV.handV {keep:List Nat} {nt:Nat} {env:List (Option AV)} {t:Env} (h:RelV keep nt env t) (n:Nat) (b:List Box):RelV keep nt (handV n env b) (t.map (keepBy n b)):=by
 refine ⟨by unfold Am.handV;rw [List.length_map];exact h.len,fun i hi=>by rw [Tr.has_map];exact h.has i hi,fun i k v hk hv=> ?_⟩
 have:(t.map (keepBy n b)).get .any i=keepBy n b (t.get .any i):=Tr.get_map (keepBy n b) .any t i
 rw [this]
 simp only [Am.handV,List.getD_eq_getElem?_getD,List.getElem?_map] at hv
 cases he:env[k]? with
 | none=>rw [he] at hv;cases hv
 | some o=>cases o with
  | none=>rw [he] at hv;cases hv
  | some u=>
   rw [he] at hv
   simp only [Option.map_some,Option.getD_some,Option.some.injEq] at hv
   rw [h.env i k u hk (by simp [List.getD_eq_getElem?_getD,he]),hv]
theorem hand_mem {g:Gh} {w:World} {t:Env} {b:List Box} {a:Act} (hm:Mem g b w) (ht:TRel g w t a) {n:Nat} (hn: ¬ b.length≤n): ∃g',Mem g' (cutB n b) w∧TRel g' w (t.map (keepBy n b)) a∧(∀g0 w0 bs0,Mem g0 bs0 w0→bs0.length≤n→Le g0 w0 g w→Le g0 w0 g' w)∧Fr g w g' w:=by
 obtain ⟨m',f'⟩:=hm.hand n
 refine ⟨g.hand b n,?_,fun i hi=> ?_,fun g0 w0 bs0 hm0 hn hl=> ?_,f'⟩
 ·unfold cutB
  rw [decide_eq_false hn]
  exact m'
 ·rw [Tr.has_map] at hi
  obtain ⟨h1,h2⟩:=ht i hi
  refine ⟨h1,?_⟩
  have:(t.map (keepBy n b)).get .any i=keepBy n b (t.get .any i):=Tr.get_map (keepBy n b) .any t i
  rw [this]
  exact keepBy_rd hm n h2
 ·refine ⟨fun b o hs=> .inl (hl.S b o hs),hl.cell,fun k=> ?_⟩
  simp only [Gh.hand]
  split
  ·exact hl.e k
  ·rw [hm0.no k (by simp [Box.at,List.getD_eq_getElem?_getD,List.getElem?_eq_none (by omega:bs0.length≤k)])];exact .no _
theorem cut_b (s:St) (n:Nat):(s.cut n).b=cutB n s.b:=by
 unfold St.cut cutB
 cases decide (s.b.length≤n) <;> rfl
theorem maskIds_lt {bf:List Nat} {i x:Nat}: ∀(l:List Oper) (j k:Nat),x∈maskIds bf i l j k→x<k+askCount l
 | [],_,_,h=>by cases h
 | o::r,j,k,h=>by
  simp only [maskIds] at h
  simp only [askCount]
  cases ha:asks o.op with
  | false=>
   simp only [ha,Bool.false_and] at h
   have hn:next k o.op=k:=by unfold next;rw [ha]
   have:=maskIds_lt r _ _ h
   rw [hn] at this
   simp only
   omega
  | true=>
   have hn:next k o.op=k+1:=by unfold next;rw [ha]
   simp only
   split at h
   ·rcases List.mem_cons.1 h with rfl | h
    ·omega
    ·have:=maskIds_lt r _ _ h
     omega
   ·have:=maskIds_lt r _ _ h
    omega
theorem results_ok {c:Cfg} {keep:List Nat} {nt:Nat} {v:List (Option AV)} {t:Env} (h:RelV keep nt v t) {b:List Box}: ∀{l:List ResultVar} {rs:List Res} {vs:List AV},lowRes keep l=some rs→resultsI c v b rs=some vs→resultsA c t b l=some vs
 | [],rs,vs,h1,h2=>by cases h1;cases h2;rfl
 | .tmp i::r,rs,vs,h1,h2=>by
  simp only [lowRes] at h1
  split at h1
  ·rename_i k l hk hl
   cases h1
   simp only [resultsI,resI] at h2
   split at h2
   ·rename_i x hx
    split at h2
    ·rename_i y hy
     cases h2
     simp only [resultsA,resultA,results_ok h hl hy,h.env i k x hk hx]
    ·cases h2
   ·cases h2
  ·cases h1
 | .cell i ty::r,rs,vs,h1,h2=>by
  simp only [lowRes] at h1
  split at h1
  ·rename_i k l hk hl
   cases h1
   simp only [resultsI] at h2
   split at h2
   ·rename_i x hx
    split at h2
    ·rename_i y hy
     cases h2
     simp only [resI] at hx
     split at hx
     ·rename_i p off hp
      split at hx
      ·rename_i hb ht
       simp only [resultsA,resultA,results_ok h hl hy,h.env i k _ hk hp,hb,ht,hx]
      ·cases hx
     ·cases hx
    ·cases h2
   ·cases h2
  ·cases h1
theorem Tr.has_mk' {α:Type} (d:α): ∀(k n i:Nat),i<n→n<2^k→(Tr.mk d k n).has i=true
 | 0,n,i,h,hk=>by omega
 | k+1,0,i,h,hk=>by omega
 | k+1,n+1,0,h,hk=>rfl
 | k+1,n+1,i+1,h,hk=>by
  have:2^(k+1)=2*2^k:=by rw [Nat.pow_succ];omega
  rcases Nat.mod_two_eq_zero_or_one i with hi | hi <;> simp only [Tr.mk,Tr.has,hi]
  ·exact Tr.has_mk' d k _ _ (by omega) (by omega)
  ·exact Tr.has_mk' d k _ _ (by omega) (by omega)
theorem putArgs_has: ∀(l:List AV) (t:Env) (i j:Nat),(putArgs t i l).has j=t.has j
 | [],_,_,_=>rfl
 | v::r,t,i,j=>by simp only [putArgs];rw [putArgs_has r,Tr.has_set]
theorem putArgs_old: ∀(l:List AV) (t:Env) (i j:Nat),j<i→(putArgs t i l).get .any j=t.get .any j
 | [],_,_,_,_=>rfl
 | v::r,t,i,j,h=>by
  simp only [putArgs]
  rw [putArgs_old r _ _ _ (by omega),Tr.get_set_ne _ _ _ (by omega)]
theorem putArgs_get: ∀(l:List AV) (t:Env) (i j:Nat) (v:AV),l[j]?=some v→t.has (i+j)=true→(putArgs t i l).get .any (i+j)=v
 | [],_,_,_,_,h,_=>by simp at h
 | u::r,t,i,0,v,h,hh=>by
  simp at h;subst h
  simp only [putArgs,Nat.add_zero]
  rw [putArgs_old r _ _ _ (by omega)]
  exact Tr.get_set_eq _ _ _ hh
 | u::r,t,i,j+1,v,h,hh=>by
  simp only [putArgs]
  rw [show i+(j+1)=i+1+j by omega] at hh⊢
  exact putArgs_get r _ _ j v (by simpa using h) (by rw [Tr.has_set];exact hh)
theorem startV_get {args:List AV}: ∀{keep:List Nat} {k i:Nat} {v:AV},keep[k]?=some i→(startV keep args).getD k none=some v→args[i]?=some v
 | [],_,_,_,h,_=>by simp at h
 | x::r,0,i,v,h,hv=>by simp at h;subst h;simpa [startV] using hv
 | x::r,k+1,i,v,h,hv=>startV_get (by simpa using h) (by simpa [startV] using hv)
theorem startV_length (args:List AV): ∀(keep:List Nat),(startV keep args).length=keep.length
 | []=>rfl
 | _::r=>by simp [startV,startV_length args r]
def noJump (Q:Exit→Act→World→Prop):Exit→Act→World→Prop
 | .goto _,_,_=>False
 | e,a,w=>Q e a w
section
variable {F:Fence} {n:Nat} {P:Program} {Q:Exit→Act→World→Prop} {a:Act} {w:World} {b:Frame} {k:List Item} {cs:List Frame}
omit [Kn] in
theorem stepR_scope {c:Code}:step P (lone (b.atR a (.code (.scope c)::k)) cs w)= .next (lone (b.atR a (.code c:: .inScope c::k)) cs w):=
 step_lone_go (by simp [stepG,stepG.exec,Frame.atR])
omit [Kn] in
theorem stepR_inScope {c:Code}:step P (lone (b.atR a (.inScope c::k)) cs w)= .next (lone (b.atR a k) cs w):=
 step_lone_go (by simp [stepG,stepG.exec,Frame.atR])
omit [Kn] in
theorem wpIn_scope {c:Code} (h:c.wpIn F n P (noJump Q) a w):(Code.scope c).wpIn F n P Q a w:=by
 intro b k cs hro hb hr
 have h0:(lone (b.atR a (.code (.scope c)::k)) cs w).fenced P F:=fenced_calm hb hr rfl
 obtain ⟨e,a₁,w₁,hq,harr⟩:=h b (.inScope c::k) cs hro hb hr
 cases e with
 | normal=>exact ⟨.normal,a₁,w₁,hq,.head h0 stepR_scope (StepsIn.trans harr (.one (fenced_calm hb hr rfl) stepR_inScope))⟩
 | exit id=>
  have hx:exitTo id (.inScope c::k)=exitTo id k:=by simp [exitTo]
  exact ⟨.exit id,a₁,w₁,hq,fun k' hk=> .head h0 stepR_scope (harr.1 k' (by rw [hx];exact hk)),
   fun hr' hk=>let ⟨k₁,h1,h2⟩:=harr.2 hr' (by rw [hx];exact hk);⟨k₁,h1,.head h0 stepR_scope h2⟩⟩
 | goto l=>exact hq.elim
 | ret=>exact ⟨_,a₁,w₁,hq,.of_steps (.one h0 stepR_scope) harr⟩
 | panic ch=>exact ⟨_,a₁,w₁,hq,.of_steps (.one h0 stepR_scope) harr⟩
 | outgrown=>exact ⟨_,a₁,w₁,hq,.of_steps (.one h0 stepR_scope) harr⟩
end
inductive SimC (c:Cfg) (keep:List Nat) (nt:Nat):Code→IR→Prop where
 | stuck (a:Code):SimC c keep nt a .stuck
 | own (a:Code) (l:List Own) (x:IR) (h:SimC c keep nt a x):SimC c keep nt a (.seq (.own l) x)
 | after (a:Code) (l:List Own) (x:IR) (h:SimC c keep nt a x):SimC c keep nt a (.seq x (.own l))
 | skip:SimC c keep nt .skip .skip
 | label (l:Nat):SimC c keep nt (.label l) .skip
 | ret:SimC c keep nt .ret .ret
 | exit (i:Nat):SimC c keep nt (.exit i) (.exit i)
 | seq (a b:Code) (x y:IR) (h1:SimC c keep nt a x) (h2:SimC c keep nt b y):SimC c keep nt (.seq a b) (.seq x y)
 | block (i:Nat) (a:Code) (x:IR) (h:SimC c keep nt a x):SimC c keep nt (.block i a) (.block i x)
 | scope (a:Code) (x:IR) (h:SimC c keep nt a x):SimC c keep nt (.scope a) x
 | cond (t k:Nat) (a b:Code) (x y:IR) (hk:posOf keep t=some k) (h1:SimC c keep nt a x) (h2:SimC c keep nt b y):SimC c keep nt (.cond (.tmp t) a b) (.cond k x y)
 | yes (v:Value) (a b:Code) (x:IR) (hv:ofVal v= .bool true) (h:SimC c keep nt a x):SimC c keep nt (.cond (.const v) a b) x
 | no (v:Value) (a b:Code) (x:IR) (hv:ofVal v= .bool false) (h:SimC c keep nt b x):SimC c keep nt (.cond (.const v) a b) x
 | loop (k:List Nat) (a:Code) (x:IR) (h:SimC c keep nt a x):SimC c keep nt (.loop a) (.loop k x)
 | region (id:Nat) (ops:Array Oper) (dr:Bool) (x:IR) (h:lowG c keep nt ops dr=some x):SimC c keep nt (.region id ops dr) x
 | rng (t x:Nat) (ps:Array Tmp) (asg body:Code) (hk:posOf keep t=some x):SimC c keep nt (.rangeFunc (.tmp t) ps asg body) (.rng x ⟨ps,asg,body,keep,nt⟩)
theorem sim_seqOwn {c:Cfg} {keep:List Nat} {nt:Nat} {a:Code} {x:IR} (h:SimC c keep nt a x) (l:List Own):SimC c keep nt a (seqOwn l x):=by
 unfold seqOwn;split
 ·exact h
 ·exact .own a _ x h
theorem sim_ownSeq {c:Cfg} {keep:List Nat} {nt:Nat} {a:Code} {x:IR} (h:SimC c keep nt a x) (l:List Own):SimC c keep nt a (ownSeq x l):=by
 unfold ownSeq;split
 ·exact h
 ·exact .after a _ x h
theorem low_g {c:Cfg} {keep:List Nat} {nt:Nat} {ops:Array Oper} {dr:Bool} {y:IR} (h:lowG c keep nt ops dr=some y):
  (∃m kl its,y= .reg m kl its∧lowR c keep nt ops dr=some (.reg m kl its))∨
  (∃(o:Oper) (r:List Oper) (t d x k:Nat) (its:List It),dr=false∧ops.toList=o::r∧o.op= .next (.tmp t) false∧o.dst=some d∧o.guard=none∧posOf keep t=some x∧posOf keep d=some k∧d<nt∧lowOps c ops keep nt false r 1 []=some its∧y= .nxt x k (askCount r) its)∨
  ∃(k:Nat) (l:List (Nat×List Nat×List It)),dr=true∧altList c keep nt k ops=some l∧y= .alt l:=by
 unfold lowG at h
 split at h
 ·rename_i y' hn
  cases h
  right
  left
  unfold lowNxt at hn
  split at hn
  ·rename_i o r hl
   split at hn
   ·rename_i t d ho hd hg
    split at hn
    ·rename_i x k its hx hk hi hdn
     cases hn
     exact ⟨o,r,t,d,x,k,its,rfl,hl,ho,hd,hg,hx,hk,of_decide_eq_true hdn,hi,rfl⟩
    ·cases hn
   ·cases hn
  ·cases hn
 ·split at h
  ·rename_i y' hn
   cases h
   right
   right
   unfold lowAlt at hn
   split at hn
   ·split at hn
    ·rename_i h1
     cases hn
     exact ⟨_,_,rfl,h1,rfl⟩
    ·cases hn
   ·cases hn
  ·left
   have h2:=h
   unfold lowR at h2
   split at h2
   ·split at h2
    ·cases h2;exact ⟨_,_,_,rfl,h⟩
    ·cases h2
   ·cases h2
theorem sim_low {c:Cfg} {keep:List Nat} {nt n ret:Nat}: ∀(a:Code) (ir:IR),lowC c keep nt a=some ir→ ∀(xs:List (Nat×Nat)) (out:Nat),SimC c keep nt a (annot c n ret ir xs out):=by
 intro a
 induction a <;> intro ir hl xs out <;> try simp only [lowC] at hl
 case skip=>cases hl;exact .skip
 case label=>cases hl;exact .label _
 case ret=>cases hl;exact .ret
 case exit=>cases hl;exact .exit _
 case seq a b ih1 ih2=>
  split at hl
  ·rename_i ha hb;cases hl;exact .seq _ _ _ _ (ih1 _ ha _ _) (ih2 _ hb _ _)
  ·cases hl
 case block i a ih=>
  split at hl
  ·rename_i ha;cases hl;exact .block _ _ _ (ih _ ha _ _)
  ·cases hl
 case scope a ih=>exact .scope _ _ (ih _ hl _ _)
 case cond x a b ih1 ih2=>
  cases x with
  | tmp x=>
   simp only [lowC] at hl
   split at hl
   ·rename_i hk ha hb;cases hl;exact .cond _ _ _ _ _ _ hk (ih1 _ ha _ _) (ih2 _ hb _ _)
   ·cases hl;exact .stuck _
   ·cases hl
  | const u=>
   simp only [lowC] at hl
   split at hl
   ·rename_i hu;exact .yes _ _ _ _ hu (ih1 _ hl _ _)
   ·rename_i hu;exact .no _ _ _ _ hu (ih2 _ hl _ _)
   ·cases hl;exact .stuck _
  | func f=>simp only [lowC] at hl;cases hl;exact .stuck _
  | global g=>simp only [lowC] at hl;cases hl;exact .stuck _
 case loop a ih=>
  split at hl
  ·rename_i ha;cases hl;exact sim_seqOwn (.loop _ _ _ (ih _ ha _ _)) _
  ·cases hl
 case region id ops dr=>
  split at hl
  ·rename_i y hl0
   cases hl
   rcases low_g hl0 with ⟨_,_,_,rfl,_⟩ | ⟨_,_,_,_,_,_,_,_,_,_,_,_,_,_,_,_,rfl⟩ | ⟨_,_,_,_,rfl⟩
   ·exact sim_seqOwn (sim_ownSeq (.region _ _ _ _ hl0) _) _
   ·exact .region _ _ _ _ hl0
   ·exact .region _ _ _ _ hl0
  ·cases hl;exact .stuck _
 case rangeFunc f ps asg body ih1 ih2=>
  cases f with
  | tmp t=>
   simp only [lowC] at hl
   split at hl
   ·rename_i hk;cases hl;exact sim_seqOwn (.rng _ _ _ _ _ hk) _
   ·cases hl
  | const u=>simp only [lowC] at hl;cases hl;exact .stuck _
  | func f=>simp only [lowC] at hl;cases hl;exact .stuck _
  | global g=>simp only [lowC] at hl;cases hl;exact .stuck _
 all_goals (cases hl;exact .stuck _)
def VRel (keep:List Nat) (nt:Nat) (g:Gh) (w:World) (v:List (Option AV)) (a:Act):Prop:= ∃t,RelV keep nt v t∧TRel g w t a
def Marks (n0:Nat) (w:World) (ds:List Deferred):Prop:=
 n0≤w.heap.size∧ ∃Ds:List Nat,ds=Ds.map (fun D=>{target:= .collected D,args:= #[]})∧Ds.Nodup∧ ∀D∈Ds,n0≤D∧w.heap[D]?=some (.deferred (some []))
theorem Marks.nil {n0:Nat} {w:World} (h:n0≤w.heap.size):Marks n0 w []:=⟨h, [],rfl,List.nodup_nil,fun _ h=>by cases h⟩
theorem Mem.no_box {g:Gh} {b:List Box} {w:World} (hm:Mem g b w) {D:Nat} {x:Option (List Deferred)} (h:w.heap[D]?=some (.deferred x)) (k:Nat):(g.e k).blk≠some D:=by
 intro hk
 cases hb:Box.at b k with
 | dead=>rw [hm.no k hb] at hk;cases hk
 | var ty cs=>
  obtain ⟨b',he,c,hh,_⟩:=hm.var k ty cs hb
  rw [he] at hk;simp only [GE.blk,Option.some.injEq] at hk;subst hk
  rw [h] at hh;cases hh
 | sl sh sz es=>
  obtain ⟨loc,he,_,hr⟩:=hm.sl k sh sz es hb
  rw [he] at hk
  cases loc with
  | none=>cases hk
  | some p=>
   obtain ⟨b',cap⟩:=p
   obtain ⟨c,ty,fz,hh,_⟩:=hr
   simp only [GE.blk,Option.map_some,Option.some.injEq] at hk;subst hk
   rw [h] at hh;cases hh
 | loop st=>
  obtain ⟨b',r,he,hh⟩:=hm.loop k st hb
  rw [he] at hk;simp only [GE.blk,Option.some.injEq] at hk;subst hk
  rw [h] at hh;cases hh
 | mp es clock=>
  obtain ⟨b',he,ents,hh,_⟩:=hm.mp k es clock hb
  rw [he] at hk;simp only [GE.blk,Option.some.injEq] at hk;subst hk
  rw [h] at hh;cases hh
 | gone=>
  obtain ⟨m,sz,he⟩:=hm.gone k hb
  rw [he] at hk;cases hk
 | iter o=>
  obtain ⟨b',he,hh⟩:=hm.it k o hb
  rw [he] at hk;simp only [GE.blk,Option.some.injEq] at hk;subst hk
  cases o with
  | str s pos=>have hh:w.heap[b']?=some (.stringIter ⟨s.toArray⟩ pos):=hh;rw [h] at hh;cases hh
  | map m seen clock=>obtain ⟨_,bm,_,h3⟩:=hh;rw [h] at h3;cases h3
theorem Marks.mono {n0:Nat} {g g':Gh} {b:List Box} {w w':World} {ds:List Deferred} (hm:Mem g b w) (hf:Fr g w g' w') (h:Marks n0 w ds):Marks n0 w' ds:=by
 obtain ⟨h0,Ds,h1,h2,h3⟩:=h
 exact ⟨Nat.le_trans h0 hf.size,Ds,h1,h2,fun D hD=>⟨(h3 D hD).1,(hf.frame D (lt_of_row (h3 D hD).2) (hm.no_box (h3 D hD).2)).1.trans (h3 D hD).2⟩⟩
def SPostI (keep:List Nat) (nt n0:Nat) (g:Gh) (w:World) (v':List (Option AV)) (b':List Box) (a':Act) (w':World):Prop:=
 Marks n0 w' a'.defers∧ ∃g',Mem g' b' w'∧VRel keep nt g' w' v' a'∧Le g w g' w'∧Fr g w g' w'
def Gh.emp (g:Gh) (k sz:Nat):Gh:={S:=g.S,e:=fun j=>if j=k then .sl 0 sz none else g.e j}
theorem emp_le {g:Gh} {k:Nat} (hk:g.e k= .no) (sz:Nat) (w:World):Le g w (g.emp k sz) w where
 S:=fun _ _ h=>h
 cell:=fun _ _ _=>rfl
 e:=fun j=>by
  simp only [Gh.emp]
  split
  ·rename_i h;subst h;rw [hk];exact .no _
  ·exact .same _
theorem emp_blk {g:Gh} {k sz j b:Nat} (h:((g.emp k sz).e j).blk=some b):j≠k∧(g.e j).blk=some b:=by
 simp only [Gh.emp] at h
 split at h
 ·cases h
 ·rename_i hj;exact ⟨hj,h⟩
theorem at_app (b:List Box) (x:Box) (k:Nat):Box.at (b++ [x]) k=if k=b.length then x else Box.at b k:=by
 simp only [Box.at,List.getD_eq_getElem?_getD]
 by_cases h1:k<b.length
 ·rw [List.getElem?_append_left h1,if_neg (by omega)]
 ·by_cases h2:k=b.length
  ·subst h2;simp
  ·rw [if_neg h2,List.getElem?_eq_none (by simp;omega),List.getElem?_eq_none (by omega)]
theorem fresh {g:Gh} {b:List Box} {w:World} (hm:Mem g b w):g.e b.length= .no:=hm.no _ (by simp [Box.at])
theorem Mem.emp {g:Gh} {b:List Box} {w:World} (hm:Mem g b w) (el:TypeId) (sz:Nat):Mem (g.emp b.length sz) (b++ [.sl ⟨false,some el,none⟩ sz []]) w:=by
 have hle:=emp_le (fresh hm) sz w
 refine ⟨fun k hk=> ?_,fun k ty cs hk=> ?_,fun k sh sz' es hk=> ?_,fun k st hk=> ?_,fun k es clock hk=> ?_,fun k hk=> ?_,fun k o hk=> ?_,fun k l b' hk hl=> ?_,fun b' o hb=> ?_,fun p hp=>⟨(hm.kn p hp).1,fun k hk=>(hm.kn p hp).2 k (emp_blk hk).2⟩⟩
 ·rw [at_app] at hk
  split at hk
  ·cases hk
  ·rename_i h;simp only [Gh.emp,if_neg h];exact hm.no k hk
 ·rw [at_app] at hk
  split at hk
  ·cases hk
  ·rename_i h
   obtain ⟨b',h1,h2⟩:=hm.var k ty cs hk
   exact ⟨b',by simp only [Gh.emp,if_neg h];exact h1,h2.mono hle rfl⟩
 ·rw [at_app] at hk
  split at hk
  ·rename_i h
   cases hk
   exact ⟨none,by simp only [Gh.emp,if_pos h];rfl,fun i e he=>(by simp at he),rfl⟩
  ·rename_i h
   obtain ⟨loc,h1,h2⟩:=hm.sl k sh sz' es hk
   exact ⟨loc,by simp only [Gh.emp,if_neg h];exact h1,h2.mono hle (fun _ _=>rfl)⟩
 ·rw [at_app] at hk
  split at hk
  ·cases hk
  ·rename_i h
   obtain ⟨b',r,h1,h2⟩:=hm.loop k st hk
   exact ⟨b',r,by simp only [Gh.emp,if_neg h];exact h1,h2⟩
 ·rw [at_app] at hk
  split at hk
  ·cases hk
  ·rename_i h
   obtain ⟨b',h1,h2⟩:=hm.mp k es clock hk
   exact ⟨b',by simp only [Gh.emp,if_neg h];exact h1,h2.mono hle rfl⟩
 ·rw [at_app] at hk
  split at hk
  ·cases hk
  ·rename_i h;simp only [Gh.emp,if_neg h];exact hm.gone k hk
 ·rw [at_app] at hk
  split at hk
  ·cases hk
  ·rename_i h
   have hlt:k<b.length:=at_lt (by rw [hk];simp)
   obtain ⟨b',h1,h2⟩:=hm.it k o hk
   exact ⟨b',by simp only [Gh.emp,if_neg h];exact h1,h2.mono (fun j c hj hg=>by simp only [Gh.emp];rw [if_neg (by omega)];exact hg) rfl⟩
 ·exact hm.inj k l b' (emp_blk hk).2 (emp_blk hl).2
 ·obtain ⟨h1,h2⟩:=hm.stab b' o hb
  refine ⟨h1,fun k hk=> ?_⟩
  obtain ⟨hne,hk'⟩:=emp_blk hk
  obtain ⟨ty,sz',es,h3,h4⟩:=h2 k hk'
  exact ⟨ty,sz',es,by rw [at_app,if_neg hne];exact h3,h4⟩
theorem nil_osl {g:Gh} {w:World} {z:Nat} {v:Value} (h:Rd g w (.lst (some true) z []) v) {g':Gh} {k sz:Nat} (hk:g'.e k= .sl 0 sz none):Rd g' w (.osl k 0) v:=by
 cases h with
 | lst nl sz' es a cap b off vals hnl hnil hcap ha hp hc h=>
  have ha:a=none:=by have:=hnl true rfl;cases a with
   | none=>rfl
   | some x=>cases this
  obtain ⟨_,rfl⟩:=hnil ha
  subst ha
  exact .osl k 0 0 sz none _ rfl hk (Nat.le_refl _) (fun _=> .inr ⟨rfl,rfl,rfl⟩)
theorem Mem.set_var {g:Gh} {b:List Box} {w:World} (hm:Mem g b w) {k:Nat} {ty:TypeId} {cs:List AV} (hb:Box.at b k= .var ty cs) {i:Nat} {x:AV} (hx: ∀v,(∀y,cs[i]?=some y→Rd g w y v)→Rd g w x v):Mem g (b.set k (.var ty (cs.set i x))) w:=by
 have hlt:k<b.length:=at_lt (by rw [hb];simp)
 have hat: ∀j,Box.at (b.set k (.var ty (cs.set i x))) j=if j=k then .var ty (cs.set i x) else Box.at b j:=fun j=>by
  simp only [Box.at,List.getD_eq_getElem?_getD]
  by_cases h:j=k
  ·subst h;simp [hlt]
  ·rw [if_neg h,List.getElem?_set_ne (Ne.symm h)]
 refine ⟨fun j hj=> ?_,fun j ty' cs' hj=> ?_,fun j sh sz es hj=> ?_,fun j st hj=> ?_,fun j es clock hj=> ?_,fun j hj=> ?_,fun j o hj=> ?_,hm.inj,fun b' o hs=> ?_,hm.kn⟩
 ·rw [hat] at hj
  split at hj
  ·cases hj
  ·exact hm.no j hj
 ·rw [hat] at hj
  split at hj
  ·rename_i h;subst h
   cases hj
   obtain ⟨b',h1,c,h2,h3,h4⟩:=hm.var _ ty cs hb
   refine ⟨b',h1,c,h2,by simpa using h3,fun l y v hy hv=> ?_⟩
   by_cases hl:i=l
   ·subst hl
    have hil:i<cs.length:=by have:=getElem?_lt hy;simpa using this
    simp [hil] at hy
    subst hy
    exact hx v (fun y hy=>h4 i y v hy hv)
   ·rw [List.getElem?_set_ne hl] at hy
    exact h4 l y v hy hv
  ·exact hm.var j ty' cs' hj
 ·rw [hat] at hj
  split at hj
  ·cases hj
  ·exact hm.sl j sh sz es hj
 ·rw [hat] at hj
  split at hj
  ·cases hj
  ·exact hm.loop j st hj
 ·rw [hat] at hj
  split at hj
  ·cases hj
  ·exact hm.mp j es clock hj
 ·rw [hat] at hj
  split at hj
  ·cases hj
  ·exact hm.gone j hj
 ·rw [hat] at hj
  split at hj
  ·cases hj
  ·exact hm.it j o hj
 ·obtain ⟨h1,h2⟩:=hm.stab b' o hs
  refine ⟨h1,fun j hj=> ?_⟩
  obtain ⟨ty',sz,es,h3,h4⟩:=h2 j hj
  refine ⟨ty',sz,es,?_,h4⟩
  rw [hat,if_neg]
  ·exact h3
  ·intro h;subst h;rw [hb] at h3;cases h3
theorem isNil_eq {x:AV} (h:x.isNil=true): ∃z,x= .lst (some true) z []:=by
 cases x <;> simp only [AV.isNil,Bool.false_eq_true] at h
 rename_i nl z es
 simp only [Bool.and_eq_true,beq_iff_eq,List.isEmpty_iff] at h
 obtain ⟨rfl,rfl⟩:=h
 exact ⟨z,rfl⟩
theorem own1_ok {keep:List Nat} {nt:Nat} {g:Gh} {w:World} {v:List (Option AV)} {b:List Box} {a:Act} (hm:Mem g b w) (hv:VRel keep nt g w v a) (o:Own):
  ∃g',Mem g' (own1 o v b).2 w∧VRel keep nt g' w (own1 o v b).1 a∧Le g w g' w∧Fr g w g' w:=by
 have same: ∃g',Mem g' b w∧VRel keep nt g' w v a∧Le g w g' w∧Fr g w g' w:=⟨g,hm,hv,Le.refl g w,Fr.refl g w⟩
 have hfr: ∀sz,Fr g w (g.emp b.length sz) w:=fun sz=>⟨Nat.le_refl _,fun b' _ h=>⟨rfl,fun k hk=>h k (emp_blk hk).2,fun _ h=>h⟩,rfl,rfl,rfl⟩
 unfold own1
 split
 ·split
  rename_i x hs
  split
  ·rename_i hnil
   split
   ·exact same
   obtain ⟨z,rfl⟩:=isNil_eq hnil
   obtain ⟨t,hr,ht⟩:=hv
   refine ⟨g.emp b.length o.sz,hm.emp o.el o.sz,?_,emp_le (fresh hm) _ w,hfr _⟩
   by_cases hex: ∃j,posOf keep j=some o.slot
   ·obtain ⟨j,hj⟩:=hex
    have htj:=hr.env j o.slot _ hj hs
    refine ⟨t.set j (.osl b.length 0),⟨by rw [List.length_set];exact hr.len,fun i hi=>by rw [Tr.has_set];exact hr.has i hi,fun i k u hk hu=> ?_⟩,fun i hi=> ?_⟩
    ·by_cases hij:i=j
     ·subst hij
      rw [hj] at hk;cases hk
      have hlt:o.slot<v.length:=by rw [hr.len];exact (List.getElem?_eq_some_iff.1 (posOf_get hj)).1
      simp [List.getD_eq_getElem?_getD,hlt] at hu
      subst hu
      refine Tr.get_set_eq _ _ _ ?_
      cases hh:t.has i with
      | true=>rfl
      | false=>rw [Tr.get_has_not _ _ hh] at htj;cases htj
     ·rw [Tr.get_set_ne _ _ _ (Ne.symm hij)]
      refine hr.env i k u hk ?_
      have:o.slot≠k:=fun e=>hij (posOf_inj hk (e▸hj))
      simp only [List.getD_eq_getElem?_getD] at hu⊢
      rwa [List.getElem?_set_ne this] at hu
    ·rw [Tr.has_set] at hi
     obtain ⟨h1,h2⟩:=ht i hi
     refine ⟨h1,?_⟩
     by_cases hij:i=j
     ·subst hij
      rw [Tr.get_set_eq _ _ _ hi]
      rw [htj] at h2
      exact nil_osl (sz:=o.sz) h2 (by simp [Gh.emp])
     ·rw [Tr.get_set_ne _ _ _ (Ne.symm hij)]
      exact h2.mono (emp_le (fresh hm) _ w)
   ·refine ⟨t,⟨by rw [List.length_set];exact hr.len,hr.has,fun i k u hk hu=> ?_⟩,ht.mono (emp_le (fresh hm) _ w)⟩
    refine hr.env i k u hk ?_
    have:o.slot≠k:=fun e=>hex ⟨i,e▸hk⟩
    simp only [List.getD_eq_getElem?_getD] at hu⊢
    rwa [List.getElem?_set_ne this] at hu
  ·split
   ·unfold lent1
    split
    ·split
     ·rename_i hb
      obtain ⟨g',m',l',f',_⟩:=share_box hm hb
      obtain ⟨t,hr,ht⟩:=hv
      exact ⟨g',m',⟨t,hr,ht.mono l'⟩,l',f'⟩
     ·exact same
    ·exact same
   ·exact same
  ·exact same
 ·rename_i off hoff
  split
  ·rename_i k base hs
   split
   ·rename_i ty cs hb
    split
    rename_i x hc
    split
    ·rename_i hnil
     obtain ⟨z,rfl⟩:=isNil_eq hnil
     obtain ⟨t,hr,ht⟩:=hv
     have hm1:=hm.emp o.el o.sz
     have hlt:k<b.length:=at_lt (by rw [hb];simp)
     have hb1:Box.at (b++ [.sl ⟨false,some o.el,none⟩ o.sz []]) k= .var ty cs:=by rw [at_app,if_neg (by omega)];exact hb
     have hm2:=hm1.set_var hb1 (i:=base+off) (x:= .osl b.length 0) (fun u hu=>nil_osl (sz:=o.sz) (hu _ hc) (by simp [Gh.emp]))
     rw [List.set_append_left _ _ hlt] at hm2
     exact ⟨g.emp b.length o.sz,hm2,⟨t,hr,ht.mono (emp_le (fresh hm) _ w)⟩,emp_le (fresh hm) _ w,hfr _⟩
    ·exact same
    ·exact same
   ·exact same
  ·exact same
theorem ownAll_ok {keep:List Nat} {nt:Nat} {w:World} {a:Act}: ∀(l:List Own) {g:Gh} {v:List (Option AV)} {b:List Box},Mem g b w→VRel keep nt g w v a→
  ∃g',Mem g' (ownAll l v b).2 w∧VRel keep nt g' w (ownAll l v b).1 a∧Le g w g' w∧Fr g w g' w
 | [],g,v,b,hm,hv=>⟨g,hm,hv,Le.refl g w,Fr.refl g w⟩
 | o::r,g,v,b,hm,hv=>by
  obtain ⟨g1,h1,h2,h3,h4⟩:=own1_ok hm hv o
  obtain ⟨g2,k1,k2,k3,k4⟩:=ownAll_ok r h1 h2
  exact ⟨g2,k1,k2,h3.trans k3,h4.trans k4⟩
end Go.Am
namespace Go.Am
variable [Kn]
section
variable {P:Program} {c:Cfg}
theorem VRel.start {g:Gh} {w:World} {xs:List AV} {vs:Array Value} (h:RdAll g w xs vs.toList) {keep:List Nat} {nt:Nat} (hnt:nt<10000) (hk: ∀i∈keep,i<nt):VRel keep nt g w (startV keep xs) {tmps:=vs++Array.replicate (nt-vs.size) undef,defers:= []}:=by
 have hpow:nt<2^24:=by
  have:(2:Nat)^24=16777216:=by decide
  omega
 refine ⟨Am.start nt xs,⟨startV_length _ _,fun i hi=> ?_,fun i k v hk' hv=> ?_⟩,start_rel h nt⟩
 ·unfold Am.start;rw [putArgs_has];exact Tr.has_mk' _ _ _ _ hi hpow
 ·have h1:=posOf_get hk'
  have h2:=startV_get h1 hv
  have h3:i<nt:=hk i (List.mem_of_getElem? h1)
  have:=putArgs_get xs (Tr.mk .any 24 nt) 0 i v h2 (by rw [Nat.zero_add];exact Tr.has_mk' _ _ _ _ h3 hpow)
  rw [Nat.zero_add] at this
  exact this
theorem wpI_mono {ro:Option Nat} {x:Code} {Q Q':Exit→Act→World→Prop} {a:Act} {w:World} (hq: ∀e a w,Q e a w→Q' e a w) (h:x.wpIn (FW ro) 0 P Q a w):x.wpIn (FW ro) 0 P Q' a w:=wpIn_mono h hq
theorem put_memO {g:Gh} {b:List Box} {w:World} (hm:Mem g b w) {D:Nat} {x y:Obj} (h:w.heap[D]?=some x) (hx:celled x=false) (hy:celled y=false) (hnb: ∀k,(g.e k).blk≠some D):Mem g b (w.putObj D y)∧Le g w g (w.putObj D y):=by
 have hl:Le g w g (w.putObj D y):=⟨fun _ _ h=>h,fun b o _=>cell_put h hx hy b o,fun _=> .same _⟩
 have hne: ∀k b,(g.e k).blk=some b→(w.putObj D y).heap[b]?=w.heap[b]?:=fun k b hk=>World.putObj_heap_other (fun e=>hnb k (by rw [hk,e]))
 refine ⟨⟨hm.no,fun k ty cs hk=> ?_,fun k sh sz es hk=> ?_,fun k st hk=> ?_,fun k es clock hk=> ?_,hm.gone,fun k o hk=> ?_,hm.inj,fun b o hs=>⟨by rw [World.putObj_size];exact (hm.stab b o hs).1,(hm.stab b o hs).2⟩,fun p hp=>⟨(World.putObj_heap_other (fun e=>by
  obtain ⟨c,t,z,hc⟩:=Kn.cells p hp
  have h1:=(hm.kn p hp).1
  rw [e,h] at h1
  cases h1
  rw [hc] at hx
  cases hx)).trans (hm.kn p hp).1,(hm.kn p hp).2⟩⟩,hl⟩
 ·obtain ⟨b,h1,h2⟩:=hm.var k ty cs hk
  exact ⟨b,h1,h2.mono hl (hne k b (by rw [h1];rfl))⟩
 ·obtain ⟨loc,h1,h2⟩:=hm.sl k sh sz es hk
  exact ⟨loc,h1,h2.mono hl (fun p hp=>hne k p.1 (by rw [h1,hp];rfl))⟩
 ·obtain ⟨b,r,h1,h2⟩:=hm.loop k st hk
  exact ⟨b,r,h1,(hne k b (by rw [h1];rfl)).trans h2⟩
 ·obtain ⟨b,h1,h2⟩:=hm.mp k es clock hk
  exact ⟨b,h1,h2.mono hl (hne k b (by rw [h1];rfl))⟩
 ·obtain ⟨b,h1,h2⟩:=hm.it k o hk
  exact ⟨b,h1,h2.le hl (hne k b (by rw [h1];rfl))⟩
theorem put_mem {g:Gh} {b:List Box} {w:World} (hm:Mem g b w) {D:Nat} {x y:Option (List Deferred)} (h:w.heap[D]?=some (.deferred x)):Mem g b (w.putObj D (.deferred y))∧Le g w g (w.putObj D (.deferred y)):=
 put_memO hm h rfl rfl (hm.no_box h)
theorem put_fr {g0 g:Gh} {w0 w:World} (hf:Fr g0 w0 g w) {D:Nat} {o:Obj} (hD:w0.heap.size≤D):Fr g0 w0 g (w.putObj D o):=
 ⟨by rw [World.putObj_size];exact hf.size,fun b hb hn=>⟨by rw [World.putObj_heap_other (by omega)];exact (hf.frame b hb hn).1,(hf.frame b hb hn).2⟩,hf.os,hf.tape,hf.output⟩
theorem leaves_marks {fn:Func} {tmps:Array Value} {R:Ending→World→Prop} {g0:Gh} {w0:World} {b:List Box} {g:Gh}: ∀(Ds:List Nat) (w:World),Mem g b w→Fr g0 w0 g w→Ds.Nodup→(∀D∈Ds,w0.heap.size≤D∧w.heap[D]?=some (.deferred (some [])))→
  (∀w',Mem g b w'→Le g w g w'→Fr g0 w0 g w'→ ∃v,(results fn tmps).run P w'= .ok v w'∧R (.returned v) w')→
  LeavesInM (FW none) 0 P fn tmps R (Ds.map (fun D=>{target:= .collected D,args:= #[]})) .returning w
 | [],w,hm,hf,_,_,h=>h w hm (Le.refl g w) hf
 | D::Ds,w,hm,hf,hn,hD,h=>by
  obtain ⟨h1,h2⟩:=hD D List.mem_cons_self
  obtain ⟨m1,l1⟩:=put_mem (y:=none) hm h2
  obtain ⟨hn1,hn2⟩:=List.nodup_cons.1 hn
  refine ⟨by simp,.inl ⟨D,_,rfl,run_takeDeferred h2,?_⟩⟩
  refine leaves_marks Ds _ m1 (put_fr hf h1) hn2 (fun E hE=> ?_) (fun w' k1 k2 k3=>h w' k1 (l1.trans k2) k3)
  obtain ⟨e1,e2⟩:=hD E (List.mem_cons_of_mem _ hE)
  refine ⟨e1,?_⟩
  exact (World.putObj_heap_other (fun e:E=D=>hn1 (e▸hE))).trans e2
def PostR (Q:Post) (keep:List Nat) (nt n0:Nat) (g:Gh) (w:World):Exit→Act→World→Prop:=fun e a' w'=> ∃ex v' b',Q ex v' b'∧ExIs ex e∧SPostI keep nt n0 g w v' b' a' w'
def CodeR (P:Program) (c:Cfg) (ir:IR) (Q:Post) (v:List (Option AV)) (b:List Box):Prop:= ∀(n0:Nat) (ro:Option Nat) (keep:List Nat) (nt:Nat) (code:Code) (g:Gh) (a:Act) (w:World),
 SimC c keep nt code ir→Mem g b w→VRel keep nt g w v a→Marks n0 w a.defers→(ro=none∨ir.noRng=true)→code.wpIn (FW ro) 0 P (PostR Q keep nt n0 g w) a w
def RetR (P:Program) (t:Tgt) (xs:List AV) (bs:List Box) (r:AV×List Box):Prop:=
 match t with
 | .fn f=>Enters P f∧ ∀g w (vs:Array Value),Mem g bs w→RdAll g w xs vs.toList→Calls P f vs w (CPost g w r.2 r.1)
 | .yld k s env=> ∀g w v (vs:Array Value),Mem g bs w→Rd g w (.yld k s env) v→RdAll g w xs vs.toList→
  ∃l fn tmps asg body,v= .func (.yield l) #[] #[]∧(Instr.yield l vs).run P w= .ok (.round l fn tmps asg body) w∧RoundIn Fence.wide 0 P l fn tmps asg body w (CPost g w r.2 r.1)
theorem cf_ok {cf:CallF} (h: ∀f a bs r,cf f a bs=some r→RetR P f a bs r):CfOk P cf:=
 ⟨fun f xs bs r bs' hr=>h _ _ _ _ hr,fun k s env xs bs r bs' hr=>h _ _ _ _ hr⟩
theorem ret_fn (hc:CfgOk c P) {f:FuncId} {fn:Func} {L:Low} {xs:List AV} {bs:List Box} {r:AV×List Box} (hfn:c.fn.get none f=some fn) (hL:lowF c fn=some L)
  (hex:CodeR P c L.code (endW c (c.own f) L.res bs.length r) (startV L.keep xs) bs):RetR P (.fn f) xs bs r:=by
 obtain ⟨hf1,hf2⟩:=hc.fn f fn hfn
 unfold lowF at hL
 split at hL
 ·cases hL
 ·rename_i body hb
  unfold lowWith at hL
  rw [hb] at hL
  simp only at hL
  split at hL
  ·rename_i rs ir hrs hir hnt
   cases hL
   simp only [Bool.and_eq_true,decide_eq_true_eq,List.all_eq_true] at hnt
   refine ⟨⟨fn,hf1,hf2,by rw [hb];rfl⟩,fun g w vs hm hx=> ?_⟩
   refine (callsIn_wide (n:=0)).1 (callsIn_of_wp_marks (F:=FW none) hf1 hb trivial (wpI_mono ?_ (hex w.heap.size none (keepF c fn body) fn.ntmps body g _ w (sim_low body ir hir _ _) hm (VRel.start hx hnt.1 hnt.2) (Marks.nil (Nat.le_refl _)) (.inl rfl))))
   rintro e a' w' ⟨ex,v',b',hQ,hexi,⟨_,Ds,hDs,hnd,hD⟩,g',hm',⟨t',hr',ht'⟩,hl',hf'⟩
   have hend:endI c (c.own f) rs bs.length v' b'=some r∧(ex= .normal∨ex= .ret):=by
    unfold endW at hQ
    cases ex with
    | normal=>exact ⟨hQ,.inl rfl⟩
    | ret=>exact ⟨hQ,.inr rfl⟩
    | exit i=>exact hQ.elim
   obtain ⟨hend,hex'⟩:=hend
   obtain ⟨r1,r2⟩:=r
   unfold endI at hend
   split at hend
   ·rename_i rvs hrvs
    have hres:=results_ok hr' hrs hrvs
    have fin:LeavesInM (FW none) 0 P fn a'.tmps (CPost g w r2 r1) a'.defers .returning w':=by
     rw [hDs]
     refine leaves_marks (g0:=g) (w0:=w) Ds w' hm' hf' hnd hD (fun w' hm' hl2 hf'=> ?_)
     have ht':=ht'.mono hl2
     have hl':=hl'.trans hl2
     obtain ⟨u,hu,ru⟩:=oneOr_run (P:=P) hc.ty hm' ht' hres
     unfold handW at hend
     split at hend
     ·cases hend
      exact ⟨u,hu,u,g',rfl,hm',hl',hf',ru⟩
     have hho:handOver bs.length ⟨t',b'⟩ (oneOr rvs)=some (r1,r2):=by
      unfold handI at hend
      unfold handOver
      rw [cut_b]
      exact hend
     obtain ⟨g'',k1,k2,k3,k4⟩:=handOver_run hm (s:=⟨t',b'⟩) hm' hl' hf' ru hho
     exact ⟨u,hu,u,g'',rfl,k1,k2,k3,k4⟩
    rcases hex' with rfl | rfl
    ·cases e <;> simp only [ExIs] at hexi
     exact fin
    ·cases e <;> simp only [ExIs] at hexi
     exact fin
   ·cases hend
  ·cases hL
theorem SPostI.trans {keep:List Nat} {nt n0:Nat} {g g1:Gh} {w w1:World} {v':List (Option AV)} {b':List Box} {a':Act} {w':World} (hl:Le g w g1 w1) (hf:Fr g w g1 w1) (h:SPostI keep nt n0 g1 w1 v' b' a' w'):SPostI keep nt n0 g w v' b' a' w':=by
 obtain ⟨hd,g2,hm,hv,hl2,hf2⟩:=h
 exact ⟨hd,g2,hm,hv,hl.trans hl2,hf.trans hf2⟩
theorem PostR.trans {Q:Post} {keep:List Nat} {nt n0:Nat} {g g1:Gh} {w w1:World} {e:Exit} {a':Act} {w':World} (hl:Le g w g1 w1) (hf:Fr g w g1 w1) (h:PostR Q keep nt n0 g1 w1 e a' w'):PostR Q keep nt n0 g w e a' w':=by
 obtain ⟨ex,v',b',h1,h2,h3⟩:=h
 exact ⟨ex,v',b',h1,h2,SPostI.trans hl hf h3⟩
theorem region_any (hc:CfgOk c P) {cf:CallF} (hcf:CfOk P cf) {keep:List Nat} {nt n0:Nat} {ops:Array Oper} {n:Nat} {kl:List Nat} {its:List It} {v v':List (Option AV)} {b b':List Box} {g:Gh} {a:Act} {w:World}
  (hl:lowR c keep nt ops true=some (.reg n kl its)) (hrun:runIts c cf b.length kl its v (b++List.replicate n .dead)=some (v',b')) (hm:Mem g b w) (hv:VRel keep nt g w v a) (hd:Marks n0 w a.defers) (ro:Option Nat) {Q:Exit→Act→World→Prop} (hQ: ∀e a' w',ExIs .normal e→SPostI keep nt n0 g w v' b' a' w'→Q e a' w'):
  wpAnyIn (FW ro) 0 P .any ops Q ops.size (Array.replicate ops.size false) a w.drew:=by
 unfold lowR at hl
 split at hl
 ·rename_i hdr
  split at hl
  ·rename_i its' hits
   cases hl
   obtain ⟨t,hr,ht⟩:=hv
   have hk:(true:Bool)=true→ ∀i,∀x∈maskIds (bef ops) i ops.toList 0 0,x∈List.range (askCount ops.toList):=fun _ i x hx=>by
    have:=maskIds_lt ops.toList 0 0 hx
    simp only [List.mem_range]
    omega
   obtain ⟨t',h1,h2⟩:=lowOps_ok hk ops.toList 0 [] its v _ t v' b' hits ⟨hr.len,hr.has,fun i e h=>(by cases h),fun i e v h=>(by cases h),fun i k u _ hk hu=>hr.env i k u hk hu⟩ hrun
   have hrv:RelV keep nt v' t':=⟨h2.len,h2.has,fun i k u hk hu=>h2.env i k u rfl hk hu⟩
   have post: ∀(a':Act) (w':World),SPost a.defers g w ⟨t',b'⟩ a' w'→SPostI keep nt n0 g w v' b' a' w':=by
    rintro a' w' ⟨hd',g',k1,k2,k3,k4⟩
    exact ⟨hd'▸Marks.mono hm k4 hd,g',k1,⟨t',hrv,k2⟩,k3,k4⟩
   have hdr:drawOk ops=true:=by simpa using hdr
   rw [←runD_U,steps_of_run ops.toList 0 _ (fun j=>by simp)] at h1
   have hl:Le g w g w.drew:=⟨fun _ _ h=>h,fun _ _ _=>rfl,fun _=> .same _⟩
   have hf:Fr g w g w.drew:=⟨Nat.le_refl _,fun _ _ h=>⟨rfl,h,fun _ h=>h⟩,rfl,rfl,rfl⟩
   have hmd:Mem g (b++List.replicate (askCount ops.toList) .dead) w.drew:=⟨(hm.pad _).no,fun k ty cs hk=>by
     obtain ⟨b,h1,h2⟩:=(hm.pad _).var k ty cs hk
     exact ⟨b,h1,h2.mono hl rfl⟩,fun k sh sz es hk=>by
     obtain ⟨loc,h1,h2⟩:=(hm.pad _).sl k sh sz es hk
     exact ⟨loc,h1,h2.mono hl (fun _ _=>rfl)⟩,(hm.pad _).loop,fun k es clock hk=>by
     obtain ⟨b,h1,h2⟩:=(hm.pad _).mp k es clock hk
     exact ⟨b,h1,h2.mono hl rfl⟩,(hm.pad _).gone,(hm.pad _).it,hm.inj,(hm.pad _).stab,hm.kn⟩
   refine (draw_any hc.ty hcf hc.ov hdr (g0:=g) (w0:=w) (fun a' w' hp=>hQ _ a' w' trivial (post a' w' hp)) ops.size (List.range' 0 ops.toList.length) (Array.replicate ops.size false) _ g w.drew a (by simp) (List.pairwise_lt_range') (by simp) (fun j=> ?_) (fun j x hj hlj=> ?_) h1 hmd (ht.mono hl) rfl hl hf)
   ·simp only [List.mem_range'_1,Array.length_toList]
    constructor
    ·intro hj;exact ⟨by omega,by simp [show j<ops.size by omega]⟩
    ·intro hj;omega
   ·simp [hj] at hlj
  ·cases hl
 ·cases hl
theorem altList_any (hc:CfgOk c P) {cf:CallF} (hcf:CfOk P cf) {keep:List Nat} {nt n0:Nat} {v:List (Option AV)} {b:List Box} {g:Gh} {a:Act} {w:World} {Q:Exit→Act→World→Prop}:
  ∀(k:Nat) (ops:Array Oper) (l:List (Nat×List Nat×List It)),altList c keep nt k ops=some l→Mem g b w→VRel keep nt g w v a→Marks n0 w a.defers→ ∀(ro:Option Nat),
   (∀x∈l,∃v' b',runIts c cf b.length x.2.1 x.2.2 v (b++List.replicate x.1 .dead)=some (v',b')∧ ∀e a' w',ExIs .normal e→SPostI keep nt n0 g w v' b' a' w'→Q e a' w')→
   wpAnyIn (FW ro) 0 P .any ops Q ops.size (Array.replicate ops.size false) a w.drew
 | 0,_,_,h,_,_,_,_,_=>by cases h
 | k+1,ops,l,h,hm,hv,hd,ro,hx=>by
  unfold altList at h
  split at h
  ·split at h
   ·rename_i hok h1 h2
    cases h
    exact alt_any hok (altList_any hc hcf k _ _ h1 hm hv hd ro fun x hq=>hx x (List.mem_append_left _ hq)) (altList_any hc hcf k _ _ h2 hm hv hd ro fun x hq=>hx x (List.mem_append_right _ hq))
   ·cases h
  ·split at h
   ·rename_i h1
    cases h
    obtain ⟨v',b',r,q⟩:=hx _ List.mem_cons_self
    exact region_any hc hcf h1 r hm hv hd ro q
   ·cases h
theorem region_ok (hc:CfgOk c P) {cf:CallF} (hcf:CfOk P cf) {keep:List Nat} {nt n0 id:Nat} {ops:Array Oper} {dr:Bool} {n:Nat} {kl:List Nat} {its:List It} {v v':List (Option AV)} {b b':List Box} {g:Gh} {a:Act} {w:World}
  (hl:lowR c keep nt ops dr=some (.reg n kl its)) (hrun:runIts c cf b.length kl its v (b++List.replicate n .dead)=some (v',b')) (hm:Mem g b w) (hv:VRel keep nt g w v a) (hd:Marks n0 w a.defers) (ro:Option Nat):
  (Code.region id ops dr).wpIn (FW ro) 0 P (fun e a' w'=>ExIs .normal e∧SPostI keep nt n0 g w v' b' a' w') a w:=by
 unfold lowR at hl
 split at hl
 ·rename_i hdr
  split at hl
  ·rename_i its' hits
   cases hl
   obtain ⟨t,hr,ht⟩:=hv
   have hk:dr=true→ ∀i,∀x∈maskIds (bef ops) i ops.toList 0 0,x∈(match dr with | true=>List.range (askCount ops.toList) | false=>([]:List Nat)):=fun h i x hx=>by
    subst h
    have:=maskIds_lt ops.toList 0 0 hx
    simp only [List.mem_range]
    omega
   obtain ⟨t',h1,h2⟩:=lowOps_ok hk ops.toList 0 [] its v _ t v' b' hits ⟨hr.len,hr.has,fun i e h=>(by cases h),fun i e v h=>(by cases h),fun i k u _ hk hu=>hr.env i k u hk hu⟩ hrun
   have hrv:RelV keep nt v' t':=⟨h2.len,h2.has,fun i k u hk hu=>h2.env i k u rfl hk hu⟩
   have post: ∀(a':Act) (w':World),SPost a.defers g w ⟨t',b'⟩ a' w'→ExIs .normal .normal∧SPostI keep nt n0 g w v' b' a' w':=by
    rintro a' w' ⟨hd',g',k1,k2,k3,k4⟩
    exact ⟨trivial,hd'▸Marks.mono hm k4 hd,g',k1,⟨t',hrv,k2⟩,k3,k4⟩
   cases dr with
   | false=>
    have h3:=runOps_U (c:=c) (cf:=cf) (ops:=ops) b.length ops.toList 0 t (b++List.replicate (askCount ops.toList) .dead) (fun j=>by rw [Nat.zero_add])
    rw [show idOf ops.toList 0 b.length=b.length by cases ops.toList <;> rfl] at h3
    rw [h1] at h3
    exact wpIn_region_list (runOps_wp hc.ty hcf hc.ov (g0:=g) (w0:=w) (fun a' w' hp=>post a' w' hp) ops.toList _ _ _ g w a h3 (hm.pad _) ht rfl (Le.refl g w) (Fr.refl g w))
   | true=>
    have hdr:drawOk ops=true:=by simpa using hdr
    rw [←runD_U,steps_of_run ops.toList 0 _ (fun j=>by simp)] at h1
    have hl:Le g w g w.drew:=⟨fun _ _ h=>h,fun _ _ _=>rfl,fun _=> .same _⟩
    have hf:Fr g w g w.drew:=⟨Nat.le_refl _,fun _ _ h=>⟨rfl,h,fun _ h=>h⟩,rfl,rfl,rfl⟩
    have hmd:Mem g (b++List.replicate (askCount ops.toList) .dead) w.drew:=⟨(hm.pad _).no,fun k ty cs hk=>by
      obtain ⟨b,h1,h2⟩:=(hm.pad _).var k ty cs hk
      exact ⟨b,h1,h2.mono hl rfl⟩,fun k sh sz es hk=>by
      obtain ⟨loc,h1,h2⟩:=(hm.pad _).sl k sh sz es hk
      exact ⟨loc,h1,h2.mono hl (fun _ _=>rfl)⟩,(hm.pad _).loop,fun k es clock hk=>by
      obtain ⟨b,h1,h2⟩:=(hm.pad _).mp k es clock hk
      exact ⟨b,h1,h2.mono hl rfl⟩,(hm.pad _).gone,(hm.pad _).it,hm.inj,(hm.pad _).stab,hm.kn⟩
    refine wpIn_region_any hc.mixed (draw_any hc.ty hcf hc.ov hdr (g0:=g) (w0:=w) (fun a' w' hp=>post a' w' hp) ops.size (List.range' 0 ops.toList.length) (Array.replicate ops.size false) _ g w.drew a (by simp) (List.pairwise_lt_range') (by simp) (fun j=> ?_) (fun j x hj hlj=> ?_) h1 hmd (ht.mono hl) rfl hl hf)
    ·simp only [List.mem_range'_1,Array.length_toList]
     constructor
     ·intro hj;exact ⟨by omega,by simp [show j<ops.size by omega]⟩
     ·intro hj;omega
    ·simp [hj] at hlj
  ·cases hl
 ·cases hl
theorem RelV.set1 {keep:List Nat} {nt d k:Nat} {v:List (Option AV)} {t:Env} (h:RelV keep nt v t) (hd:d<nt) (hk:posOf keep d=some k) (x:AV):RelV keep nt (v.set k (some x)) (t.set d x):=by
 refine ⟨by rw [List.length_set];exact h.len,fun i hi=>by rw [Tr.has_set];exact h.has i hi,fun i j u hj hu=> ?_⟩
 have hkl:k<v.length:=by rw [h.len];exact (List.getElem?_eq_some_iff.1 (posOf_get hk)).1
 by_cases e:i=d
 ·subst e
  rw [hk] at hj
  cases hj
  rw [Tr.get_set_eq _ _ _ (h.has i hd)]
  simpa [List.getD_eq_getElem?_getD,hkl] using hu
 ·rw [Tr.get_set_ne _ _ _ (fun h=>e h.symm)]
  refine h.env i j u hj ?_
  have hne:k≠j:=fun e2=>by
   subst e2
   have h1:=posOf_get hj
   rw [posOf_get hk] at h1
   exact e (by cases h1;rfl)
  simpa [List.getD_eq_getElem?_getD,List.getElem?_set_ne hne] using hu
theorem nxt_ok (hc:CfgOk c P) {cf:CallF} (hcf:CfOk P cf) {keep:List Nat} {nt n0 id:Nat} {ops:Array Oper} {o:Oper} {r:List Oper} {t d x k:Nat} {its:List It} (hops:ops.toList=o::r) (ho:o.op= .next (.tmp t) false) (hdst:o.dst=some d) (hgd:o.guard=none)
  (hpx:posOf keep t=some x) (hpk:posOf keep d=some k) (hdn:d<nt) (hlo:lowOps c ops keep nt false r 1 []=some its) {Q:Post} {v:List (Option AV)} {b:List Box} {i m clock:Nat} {seen:List Nat} {es:List (AV×AV×Nat)}
  (hx:vget v x=some (.itv i)) (hi:Box.at b i= .iter (.map m seen clock)) (hm0:Box.at b m= .mp es clock)
  (h0:(∀e∈es,seen.contains e.2.2=true)→ ∃v' b',runIts c cf b.length [] its (v.set k (some (.tup [.bool false]))) (b++List.replicate (askCount r) .dead)=some (v',b')∧Q .normal v' b')
  (h1: ∀e∈es,seen.contains e.2.2=false→ ∃v' b',runIts c cf b.length [] its (v.set k (some (.tup [.bool true,e.1,e.2.1]))) (b.set i (.iter (.map m (seen++ [e.2.2]) clock))++List.replicate (askCount r) .dead)=some (v',b')∧Q .normal v' b')
  {g:Gh} {a:Act} {w:World} (hm:Mem g b w) (hv:VRel keep nt g w v a) (hd:Marks n0 w a.defers) (ro:Option Nat):
  (Code.region id ops false).wpIn (FW ro) 0 P (PostR Q keep nt n0 g w) a w:=by
 obtain ⟨T,hr,ht⟩:=hv
 have rest: ∀(X:AV) (B:List Box) (v':Value) (w':World) (g':Gh),Mem g' B w'→Le g w g' w'→Fr g w g' w'→Rd g' w' X v'→(∃v1 b1,runIts c cf b.length [] its (v.set k (some X)) B=some (v1,b1)∧Q .normal v1 b1)→wpListIn (FW ro) 0 P ops (PostR Q keep nt n0 g w) r (a.put o.dst v') w':=by
  rintro X B v' w' g' k1 k2 k3 k4 ⟨v1,b1,hrun,hq⟩
  have hr1:=hr.set1 hdn hpk X
  obtain ⟨t',e1,e2⟩:=lowOps_ok (dr:=false) (kl:= []) (fun h=>by cases h) r 1 [] its (v.set k (some X)) B (T.set d X) v1 b1 hlo ⟨hr1.len,hr1.has,fun i e h=>(by cases h),fun i e v h=>(by cases h),fun i k u _ hk hu=>hr1.env i k u hk hu⟩ hrun
  have hrv:RelV keep nt v1 t':=⟨e2.len,e2.has,fun i k u hk hu=>e2.env i k u rfl hk hu⟩
  have h3:=runOps_U (c:=c) (cf:=cf) (ops:=ops) b.length r 1 (T.set d X) B (fun j=>by rw [hops,Nat.add_comm];rfl)
  rw [e1] at h3
  have hput:TRel g' w' (T.set d X) (a.put o.dst v'):=by
   have:=(ht.mono k2).put o.dst k4
   rw [hdst] at this⊢
   exact this
  exact runOps_wp hc.ty hcf hc.ov (g0:=g) (w0:=w) (ds:=a.defers) (fun a' w' ⟨hd',g2,q1,q2,q3,q4⟩=>⟨.normal,v1,b1,hq,trivial,hd'▸Marks.mono hm q4 hd,g2,q1,⟨t',hrv,q2⟩,q3,q4⟩) r _ _ _ g' w' _ h3 k1 hput (by rw [put_defers]) k2 k3
 refine wpIn_region_list ?_
 rw [hops]
 unfold wpListIn
 have hw:wantedA ops T o.guard=some true:=by rw [hgd];rfl
 rw [wanted_run ht hw,if_pos rfl]
 have hil:i<b.length:=at_lt (by rw [hi];simp)
 have hml:m<b.length:=at_lt (by rw [hm0];simp)
 have app: ∀j,j<b.length→Box.at (b++List.replicate (askCount r) .dead) j=Box.at b j:=fun j hj=>by
  simp [Box.at,List.getD_eq_getElem?_getD,List.getElem?_append_left hj]
 refine nxt_wp (hm.pad _) ht ho (hr.env t x _ hpx hx) ((app i hil).trans hi) ((app m hml).trans hm0) (fun hall v' w' g' k1 k2 k3 k4=>rest _ _ v' w' g' k1 k2 k3 k4 (h0 hall)) (fun e he hn v' w' g' k1 k2 k3 k4=>rest _ _ v' w' g' ?_ k2 k3 k4 (h1 e he hn)) ro
 rw [List.set_append_left _ _ hil] at k1
 exact k1
def putK:List Nat→List AV→Env→Env
 | i::ks,x::xs,t=>(putK ks xs t).set i x
 | _,_,t=>t
theorem putK_has: ∀(ks:List Nat) (xs:List AV) (t:Env) (i:Nat),(putK ks xs t).has i=t.has i
 | [],_,_,_=>rfl
 | _::_, [],_,_=>rfl
 | k::ks,x::xs,t,i=>by simp only [putK,Tr.has_set];exact putK_has ks xs t i
theorem putK_get: ∀(ks:List Nat) (xs:List AV) (t:Env) (i k:Nat) (x:AV),t.has i=true→posOf ks i=some k→xs[k]?=some x→(putK ks xs t).get .any i=x
 | [],_,_,_,_,_,_,h,_=>by cases h
 | _::_, [],_,_,_,_,_,_,h=>by cases h
 | j::ks,y::xs,t,i,k,x,hi,hk,hx=>by
  simp only [posOf] at hk
  simp only [putK]
  split at hk
  ·rename_i e
   cases hk
   subst e
   simp at hx
   subst hx
   exact Tr.get_set_eq _ _ _ (by rw [putK_has];exact hi)
  ·rename_i e
   cases hp:posOf ks i with
   | none=>rw [hp] at hk;cases hk
   | some k'=>
    rw [hp] at hk
    cases hk
    rw [Tr.get_set_ne _ _ _ (fun h=>e h.symm)]
    exact putK_get ks xs t i k' x hi hp (by simpa using hx)
theorem putK_none: ∀(ks:List Nat) (xs:List AV) (t:Env) (i:Nat),posOf ks i=none→(putK ks xs t).get .any i=t.get .any i
 | [],_,_,_,_=>rfl
 | _::_, [],_,_,_=>rfl
 | j::ks,y::xs,t,i,hk=>by
  simp only [posOf] at hk
  simp only [putK]
  split at hk
  ·cases hk
  ·rename_i e
   rw [Tr.get_set_ne _ _ _ (fun h=>e h.symm)]
   exact putK_none ks xs t i (by simpa using hk)
theorem posOf_lt {keep:List Nat} {i k:Nat} (h:posOf keep i=some k):k<keep.length:=by
 have:=posOf_get h
 exact (List.getElem?_eq_some_iff.1 this).1
theorem RelV.put {keep:List Nat} {nt:Nat} {v:List (Option AV)} {t:Env} (h:RelV keep nt v t) (hk: ∀i∈keep,i<nt) (p:Nat) (x:AV):RelV keep nt (match posOf keep p with | some k=>v.set k (some x) | none=>v) (t.set p x):=by
 cases hp:posOf keep p with
 | none=>
  refine ⟨h.len,fun i hi=>by rw [Tr.has_set];exact h.has i hi,fun i j u hj hu=> ?_⟩
  rw [Tr.get_set_ne _ _ _ (fun e=>by subst e;rw [hp] at hj;cases hj)]
  exact h.env i j u hj hu
 | some k=>
  refine ⟨by simp only [List.length_set];exact h.len,fun i hi=>by rw [Tr.has_set];exact h.has i hi,fun i j u hj hu=> ?_⟩
  by_cases e:p=i
  ·subst e
   rw [hp] at hj;cases hj
   have hlt:k<v.length:=by rw [h.len];exact posOf_lt hp
   simp [List.getD_eq_getElem?_getD,hlt] at hu
   rw [Tr.get_set_eq _ _ _ (h.has p (hk p (List.mem_of_getElem? (posOf_get hp))))]
   exact hu
  ·rw [Tr.get_set_ne _ _ _ e]
   have hne:k≠j:=fun e2=>by
    subst e2
    have h1:=posOf_get hp
    have h2:=posOf_get hj
    rw [h1] at h2;cases h2;exact e rfl
   refine h.env i j u hj ?_
   simp only [List.getD_eq_getElem?_getD,List.getElem?_set_ne hne] at hu⊢
   exact hu
theorem round_ps {keep:List Nat} {nt:Nat} {g:Gh} {w:World} (hk: ∀i∈keep,i<nt): ∀(ps:List Tmp) (xs:List AV) (vs:List Value) (v:List (Option AV)) (tmps:Array Value),RdAll g w xs vs→ps.length=xs.length→VRel keep nt g w v {tmps:=tmps,defers:= []}→
  VRel keep nt g w (putPs keep ps xs v) {tmps:=(ps.zip vs).foldl (fun t p=>t.setIfInBounds p.1 p.2) tmps,defers:= []}
 | [],_,_,v,tmps,_,_,hv=>by simpa [putPs] using hv
 | p::ps, [],vs,v,tmps,_,hl,_=>by simp at hl
 | p::ps,x::xs,vs,v,tmps,hx,hl,hv=>by
  cases hx with
  | cons h1 h2=>
   obtain ⟨t,hr,ht⟩:=hv
   simp only [putPs,List.zip_cons_cons,List.foldl_cons]
   exact round_ps hk ps xs _ _ _ h2 (by simpa using hl) ⟨t.set p x,hr.put hk p x,ht.put (some p) h1⟩
theorem round_rel {g:Gh} {w:World} {s:Site} {env xs:List AV} {vs tmps:Array Value} (hx:RdAll g w xs vs.toList) (hps:xs.length=s.ps.size) (hlen:env.length=s.keep.length) (hnt:s.nt<10000) (hk: ∀i∈s.keep,i<s.nt) (hsz:s.nt≤tmps.size)
  (he: ∀(j i:Nat) (x:AV),posOf s.keep j=some i→env[i]?=some x→Rd g w x (tmps.getD j undef)):VRel s.keep s.nt g w (roundV s env xs) {tmps:=(s.ps.zip vs).foldl (fun t p=>t.setIfInBounds p.1 p.2) tmps,defers:= []}:=by
 have e:(s.ps.zip vs).foldl (fun t p=>t.setIfInBounds p.1 p.2) tmps=(s.ps.toList.zip vs.toList).foldl (fun t p=>t.setIfInBounds p.1 p.2) tmps:=by
  rw [←Array.foldl_toList,Array.toList_zip]
 rw [e]
 have hpow:s.nt<2^24:=by
  have:(2:Nat)^24=16777216:=by decide
  omega
 refine round_ps hk s.ps.toList xs vs.toList _ _ hx (by simpa using hps.symm) ⟨putK s.keep env (Tr.mk .any 24 s.nt),⟨by simpa using hlen,fun i hi=>by rw [putK_has];exact Tr.has_mk' _ _ _ _ hi hpow,fun i k v hp hv=> ?_⟩,fun i hi=> ?_⟩
 ·have hlt:k<env.length:=by rw [hlen];exact posOf_lt hp
  simp only [List.getD_eq_getElem?_getD,List.getElem?_map,List.getElem?_eq_getElem hlt,Option.map_some,Option.getD_some,Option.some.injEq] at hv
  exact putK_get _ _ _ _ _ _ (Tr.has_mk' _ _ _ _ (hk i (List.mem_of_getElem? (posOf_get hp))) hpow) hp (by rw [List.getElem?_eq_getElem hlt,hv])
 ·rw [putK_has] at hi
  have hlt:=Tr.has_mk _ _ _ _ hi
  refine ⟨Nat.lt_of_lt_of_le hlt hsz,?_⟩
  cases hp:posOf s.keep i with
  | none=>rw [putK_none _ _ _ _ hp,Tr.get_mk];exact .any _
  | some k=>
   have hlt2:k<env.length:=by rw [hlen];exact posOf_lt hp
   have hget:env[k]?=some env[k]:=List.getElem?_eq_getElem hlt2
   rw [putK_get _ _ _ _ _ _ hi hp hget]
   exact he i k _ hp hget
theorem le_loop {x y:GE} {b:Nat} {r:Loop} (h:GE.le x y) (hx:x= .loop b r):y= .loop b r:=by
 subst hx
 cases h
 rfl
theorem Mem.turn {g:Gh} {bs:List Box} {w:World} (hm:Mem g bs w) {k l:Nat} {r:Loop} {st st':LSt} (hbx:Box.at bs k= .loop st) (hg:g.e k= .loop l r):
  ∃g',Mem g' (bs.set k (.loop st')) (w.putObj l (.loop (st'.record r)))∧Le g w g' (w.putObj l (.loop (st'.record r)))∧Fr g w g' (w.putObj l (.loop (st'.record r))):=by
 obtain ⟨l',r',h1,h2⟩:=hm.loop k st hbx
 rw [hg] at h1;cases h1
 have hlt:=lt_of_row h2
 obtain ⟨m1,l1,f1⟩:=hm.upd (id:=k) (x:= .loop st') (ge:= .loop l r) (S':=g.S) (w':=w.putObj l (.loop (st'.record r))) (at_lt (by rw [hbx];simp)) (fun _ _ h=>h) (fun b o _=>cell_put h2 rfl rfl b o) (by rw [hg];exact .same _)
  (fun b _ hne=>World.putObj_heap_other (fun e=>hne (by rw [hg,e];rfl))) (by simp) (fun b hb=> .inl (by rw [hg];exact hb)) (by simp) (fun _ _ h=>by cases h) (fun _ _ _ h=>by cases h) (fun _ _ h=> .inl h)
  (fun b o hs hb=>by
   have:=(hm.stab b o hs).2 k (by rw [hg];exact hb)
   obtain ⟨ty,sz,es,h3,_⟩:=this
   rw [hbx] at h3;cases h3) rfl rfl rfl
  (fun st h=>by cases h;exact ⟨l,r,rfl,World.putObj_heap_same hlt⟩)
 exact ⟨_,m1,l1,f1⟩
theorem RdAll.len {g:Gh} {w:World} {xs:List AV} {vs:List Value} (h:RdAll g w xs vs):xs.length=vs.length:=by
 induction h with
 | nil=>rfl
 | cons _ _ ih=>simp [ih]
theorem ret_yld {k:Nat} {s:Site} {env xs:List AV} {bs:List Box} {r:AV×List Box} {asgI bodyI:IR} {R:Post} (hlow:lowSite c s=some (asgI,bodyI)) (hn:xs.length=s.ps.size) (he:env.length=s.keep.length) (hready:Box.at bs k= .loop .ready)
  (hA:CodeR P c asgI R (roundV s env xs) bs) (hR: ∀e v1 b1,R e v1 b1→e= .normal∧Box.at b1 k= .loop .ready)
  (hB: ∀e v1 b1,R e v1 b1→CodeR P c bodyI (fun e _ b2=>Box.at b2 k= .loop .busy∧(AV.bool e.isNormal,cutB bs.length (b2.set k (.loop (endSt e))))=r) v1 (b1.set k (.loop .busy))):RetR P (.yld k s env) xs bs r:=by
 intro g w v vs hm hv hx
 have hlens:xs.length=s.ps.size∧env.length=s.keep.length:=⟨hn,he⟩
 cases hv with
 | yld _ l _ _ rec hg hs he=>
  obtain ⟨hs1,hs2,hs3,hs4⟩:=hs
  obtain ⟨l',r',h1,h2⟩:=hm.loop k _ hready
  rw [hg] at h1;cases h1
  have hsize:vs.size=s.ps.size:=by rw [←hlens.1,hx.len];simp
  unfold lowSite at hlow
  split at hlow
  ·rename_i a0 b0 ha0 hb0 hck
   simp only [Bool.and_eq_true,decide_eq_true_eq,List.all_eq_true] at hck
   split at hlow
   ·rename_i hno
    simp only [Bool.and_eq_true] at hno
    cases hlow
    refine ⟨l,_,_,_,_,rfl,run_yield h2 (by rw [hsize,←hs1];rfl),?_⟩
    refine roundIn_of_wpIn (F:=Fence.wide) trivial ?_
    have hvr:=round_rel (tmps:=rec.tmps) hx hlens.1 hlens.2 hck.1 hck.2 hs4 he
    have hA:=hA w.heap.size (some l) s.keep s.nt s.asg g _ w (sim_low s.asg a0 ha0 _ _) hm hvr (Marks.nil (Nat.le_refl _)) (.inr hno.1)
    rw [←hs1,←hs2] at hA
    refine wpIn_mono hA ?_
    rintro e a1 w1 ⟨ex1,v1,b1,hR1,he1,hd1,g1,hm1,hv1,hl1,hf1⟩
    obtain ⟨rfl,hready1⟩:=hR _ _ _ hR1
    cases e <;> simp only [ExIs] at he1
    have hg1:g1.e k= .loop l rec:=le_loop (hl1.e k) hg
    obtain ⟨l',r',q1,q2⟩:=hm1.loop k _ hready1
    rw [hg1] at q1;cases q1
    refine ⟨_,run_beginRound q2 rfl,?_⟩
    obtain ⟨g2,hm2,hl2,hf2⟩:=hm1.turn (st':= .busy) hready1 hg1
    have hg2:g2.e k= .loop l rec:=le_loop (hl2.e k) hg1
    obtain ⟨t1,hr1,ht1⟩:=hv1
    have hB:=hB _ _ _ hR1 w.heap.size (some l) s.keep s.nt s.body g2 a1 _ (sim_low s.body b0 hb0 _ _) hm2 ⟨t1,hr1,ht1.mono hl2⟩ (Marks.mono hm1 hf2 hd1) (.inr hno.2)
    rw [←hs3] at hB
    refine wpIn_mono hB ?_
    rintro e a2 w2 ⟨ex,v2,b2,⟨hbusy,rfl⟩,he2,_,g3,hm3,⟨t3,hr3,ht3⟩,hl3,hf3⟩
    have hg3:g3.e k= .loop l rec:=le_loop (hl3.e k) hg2
    obtain ⟨l',r',q3,q4⟩:=hm3.loop k _ hbusy
    rw [hg3] at q3;cases q3
    obtain ⟨g4,hm4,hl4,hf4⟩:=hm3.turn (st':=endSt ex) hbusy hg3
    have htot:Le g w g4 _:=((hl1.trans hl2).trans hl3).trans hl4
    have ftot:Fr g w g4 _:=((hf1.trans hf2).trans hf3).trans hf4
    obtain ⟨g5,hm5,_,hl5,hf5⟩:=cut_mem (s:=⟨t3,b2.set k (.loop (endSt ex))⟩) hm4 (ht3.mono hl4) bs.length
    rw [cut_b] at hm5
    have fin: ∀b:Bool,b=ex.isNormal→CPost g w (cutB bs.length (b2.set k (.loop (endSt ex)))) (.bool ex.isNormal) (.returned (.bool b)) (w2.putObj l (.loop ((endSt ex).record rec))):=fun b hb=>
     ⟨.bool b,g5,rfl,hm5,hl5 g w bs hm (Nat.le_refl _) htot,ftot.trans hf5,hb▸ .bool _⟩
    cases ex with
    | normal=>
     cases e <;> simp only [ExIs] at he2
     exact ⟨_,_,run_endRound none q4,fin true rfl⟩
    | ret=>
     cases e <;> simp only [ExIs] at he2
     exact ⟨_,_,run_endRound (some .ret) q4,fin false rfl⟩
    | exit i=>
     cases e <;> simp only [ExIs] at he2
     subst he2
     exact ⟨_,_,run_endRound (some (.exit _)) q4,fin false rfl⟩
   ·cases hlow
  ·cases hlow
theorem rng_ok {cf:CallF} (hcf:CfOk P cf) {keep:List Nat} {nt n0 t x:Nat} {ps:Array Tmp} {asg body:Code} {v v':List (Option AV)} {b b':List Box} {ex:Ex} {g:Gh} {a:Act} {w:World} (hk:posOf keep t=some x)
  (h':rngI c cf x ⟨ps,asg,body,keep,nt⟩ v b=some (ex,v',b')) (hm:Mem g b w) (hv:VRel keep nt g w v a) (hd:Marks n0 w a.defers):
  (Code.rangeFunc (.tmp t) ps asg body).wpIn (FW none) 0 P (fun e a' w'=>ExIs ex e∧SPostI keep nt n0 g w v' b' a' w') a w:=by
 unfold rngI at h'
 obtain ⟨tt,hr,ht⟩:=hv
 split at h'
 ·rename_i f caps hx
  split at h'
  ·cases h'
  ·rename_i hext
   unfold rngE at h'
   split at h'
   ·rename_i r b2 hcall
    obtain ⟨st,hst,hst2⟩: ∃st,Box.at b2 b.length= .loop st∧((st= .ready∧ex= .normal)∨st= .done ex)∧v'=cutV b.length v b2∧b'=cutB b.length b2:=by
     split at h'
     ·rename_i hb;cases h';exact ⟨_,hb,.inl ⟨rfl,rfl⟩,rfl,rfl⟩
     ·rename_i hb;cases h';exact ⟨_,hb,.inr rfl,rfl,rfl⟩
     ·cases h'
    obtain ⟨hst3,rfl,rfl⟩:=hst2
    have hev:=ht.ev (.tmp t)
    have e1:ev tt (.tmp t)= .fn f [] caps:=hr.env t x _ hk hx
    rw [e1] at hev
    generalize hfu:a.eval (.tmp t)=fu at hev
    cases hev with
    | fn _ _ _ us0 us hn0 hn1 hu0 hu1=>
     have hus0:us0= #[]:=Array.eq_empty_of_size_eq_zero (by simpa using hn0)
     subst hus0
     refine wpIn_rangeFunc ?_
     intro fn _
     obtain ⟨rec,hrec⟩: ∃rec:Loop,rec={state:= .ready,pending:=none,fn,tmps:=a.tmps,params:=ps,assign:=asg,body,defers:=w.heap.size}:=⟨_,rfl⟩
     obtain ⟨W1,hW1⟩: ∃W1,(w.alloc (.deferred (some []))).alloc (.loop rec)=W1:=⟨_,rfl⟩
     have hsz1:W1.heap.size=w.heap.size+2:=by rw [←hW1];simp [World.size_alloc]
     have hold: ∀i,i<w.heap.size→W1.heap[i]?=w.heap[i]?:=fun i hi=>by
      rw [←hW1,alloc_old _ _ (by rw [World.size_alloc];omega),alloc_old _ _ hi]
     have hD1:W1.heap[w.heap.size]?=some (.deferred (some [])):=by
      rw [←hW1,alloc_old _ _ (by rw [World.size_alloc];omega)];exact alloc_new w _
     have hL1:W1.heap[w.heap.size+1]?=some (.loop rec):=by
      rw [←hW1]
      have:=alloc_new (w.alloc (.deferred (some []))) (.loop rec)
      rwa [World.size_alloc] at this
     obtain ⟨hE,hcalls⟩:=hcf.fn f _ _ _ _ hcall
     refine ⟨w.heap.size+1, [{target:= .collected w.heap.size,args:= #[]}],W1,{target:= .fn (.func f) us,args:= #[.func (.yield (w.heap.size+1)) #[] #[]]},W1,f, #[.func (.yield (w.heap.size+1)) #[] #[]]++us,W1,?_,?_,fun _ _=>trivial,?_,fun h=>(by cases h),?_⟩
     ·rw [←hW1,hrec];exact run_enterLoop_outer fn a.tmps ps asg body
     ·simp only [resolve,hfu,Deferred.ofValue,Sem.run_pure]
      simp [Act.eval]
     ·exact enter_run hE _ _
     obtain ⟨hmN,hlN⟩:=(hm.pad 1).new (id:=b.length) (x:= .loop .ready) (ge:= .loop (w.heap.size+1) rec) (w':=W1) (by simp) (by rw [at_pad];simp [Box.at]) hold (by omega) (fun i hi=>by cases hi;omega) (by simp)
      (fun _ _ h=>by cases h) (fun _ _ _ h=>by cases h) (fun st h=>by cases h;exact ⟨_,rec,rfl,by rw [hL1,hrec];rfl⟩)
     have hbx:(b++List.replicate 1 Box.dead).set b.length (.loop .ready)=b++ [.loop .ready]:=by simp
     rw [hbx] at hmN
     have hge:(g.put b.length (.loop (w.heap.size+1) rec)).e b.length= .loop (w.heap.size+1) rec:=Gh.put_same _ _ _
     have hfN:Fr g w (g.put b.length (.loop (w.heap.size+1) rec)) W1:=Fr.new (by omega) hold (fun i hi=>by cases hi;omega) (by rw [←hW1];rfl) (by rw [←hW1];rfl) (by rw [←hW1];rfl)
     generalize g.put b.length (.loop (w.heap.size+1) rec)=g1 at hmN hlN hge hfN
     have hyl:Rd g1 W1 (.yld b.length ⟨ps,asg,body,keep,nt⟩ (v.map (·.getD .any))) (.func (.yield (w.heap.size+1)) #[] #[]):=by
      refine .yld _ _ _ _ rec hge ⟨by rw [hrec],by rw [hrec],by rw [hrec],?_⟩ (fun j i y hj hy=> ?_)
      ·rw [hrec]
       show nt≤a.tmps.size
       rcases Nat.eq_zero_or_pos nt with h0 | h0
       ·omega
       ·have:=(ht (nt-1) (hr.has _ (by omega))).1
        omega
      ·rw [hrec]
       show Rd g1 W1 y (a.tmps.getD j undef)
       rw [List.getElem?_map] at hy
       cases hvi:v[i]? with
       | none=>rw [hvi] at hy;cases hy
       | some o=>
        rw [hvi] at hy
        cases o with
        | none=>cases hy;exact .any _
        | some z=>
         cases hy
         have e2:tt.get .any j=z:=hr.env j i z hj (by simp [List.getD_eq_getElem?_getD,hvi])
         have:=ht.get j
         rw [e2] at this
         exact this.mono hlN
     have hxs:RdAll g1 W1 (.yld b.length ⟨ps,asg,body,keep,nt⟩ (v.map (·.getD .any))::caps) (#[Value.func (.yield (w.heap.size+1)) #[] #[]]++us).toList:=by
      simp only [Array.toList_append,List.cons_append,List.nil_append]
      exact .cons hyl (RdAll.of_get (by simpa using hn1.symm) (fun i c u hc hu=>(hu1 i c u hc (by simpa using hu)).mono hlN))
     refine callsIn_FW ((hcalls g1 W1 _ hmN hxs).mono ?_)
     rintro e W3 ⟨val,g',rfl,hm3,hl3,hf3,_⟩
     have hge3:g'.e b.length= .loop (w.heap.size+1) rec:=le_loop (hl3.e _) hge
     obtain ⟨l',r',q1,q2⟩:=hm3.loop _ _ hst
     rw [hge3] at q1;cases q1
     have hlen2:b.length<b2.length:=at_lt (by rw [hst];simp)
     -- the boxes that were there
     obtain ⟨mH,fH⟩:=hm3.hand b.length
     have hcb:cutB b.length b2=(b2.take b.length).map (forgetBox b.length):=by
      unfold cutB;rw [decide_eq_false (by omega)]
     have hnb: ∀k,((g'.hand b2 b.length).e k).blk≠some (w.heap.size+1):=fun k hk=>by
      obtain ⟨h1,h2⟩:=hand_blk hk
      have:=hm3.inj k b.length _ h2 (by rw [hge3];rfl)
      omega
     have hst_ne:(st.record rec).state≠ .busy:=by
      rcases hst3 with ⟨rfl,_⟩ | rfl <;> simp [LSt.record]
     obtain ⟨m4,l4⟩:=put_memO mH (y:= .loop {st.record rec with state:= .exhausted}) q2 rfl rfl hnb
     have lH:Le g w (g'.hand b2 b.length) W3:=by
      have hl:Le g w g' W3:=hlN.trans hl3
      refine ⟨fun i o hs=> .inl (hl.S i o hs),hl.cell,fun k=> ?_⟩
      simp only [Gh.hand]
      split
      ·exact hl.e k
      ·rw [hm.no k (by simp [Box.at,List.getD_eq_getElem?_getD,List.getElem?_eq_none (by omega:b.length≤k)])];exact .no _
     have f3:Fr g w (g'.hand b2 b.length) W3:=(hfN.trans hf3).trans fH
     have f4:=put_fr (o:= .loop {st.record rec with state:= .exhausted}) f3 (D:=w.heap.size+1) (by omega)
     have hvr:VRel keep nt (g'.hand b2 b.length) W3 (cutV b.length v b2) a:=by
      refine ⟨_,RelV.cut (s:=⟨tt,b2⟩) hr b.length,?_⟩
      have:(St.cut ⟨tt,b2⟩ b.length).t=tt.map (forget b.length):=by
       unfold St.cut;rw [decide_eq_false (by simp;omega)]
      rw [this]
      intro i hi
      rw [Tr.has_map] at hi
      obtain ⟨h1,h2⟩:=ht i hi
      refine ⟨h1,?_⟩
      rw [show (tt.map (forget b.length)).get .any i=forget b.length (tt.get .any i) from Tr.get_map (forget b.length) .any tt i]
      exact (h2.mono (hlN.trans hl3)).hand_forget _
     -- the marks
     have hmk:Marks n0 (W3.putObj (w.heap.size+1) (.loop {st.record rec with state:= .exhausted})) ({target:= .collected w.heap.size,args:= #[]}::a.defers):=by
      obtain ⟨h0,Ds,hDs,hnd,hD⟩:=hd
      have m1:Marks n0 W1 ({target:= .collected w.heap.size,args:= #[]}::a.defers):=by
       refine ⟨by omega,w.heap.size::Ds,by rw [hDs];rfl,List.nodup_cons.2 ⟨fun hin=> ?_,hnd⟩,fun D hD'=> ?_⟩
       ·have:=lt_of_row (hD _ hin).2;omega
       ·rcases List.mem_cons.1 hD' with rfl | hD'
        ·exact ⟨h0,hD1⟩
        ·exact ⟨(hD D hD').1,(hold D (lt_of_row (hD D hD').2)).trans (hD D hD').2⟩
      obtain ⟨h0',Ds',e',nd',hD'⟩:=m1.mono hmN hf3
      refine ⟨by rw [World.putObj_size];exact h0',Ds',e',nd',fun D hin=>⟨(hD' D hin).1,?_⟩⟩
      rw [World.putObj_heap_other]
      ·exact (hD' D hin).2
      ·intro e;subst e
       have:=(hD' _ hin).2
       rw [q2] at this;cases this
     have post:SPostI keep nt n0 g w (cutV b.length v b2) (cutB b.length b2) {a with defers:={target:= .collected w.heap.size,args:= #[]}::a.defers} (W3.putObj (w.heap.size+1) (.loop {st.record rec with state:= .exhausted})):=by
      obtain ⟨t4,r4,ht4⟩:=hvr
      exact ⟨hmk,g'.hand b2 b.length,by rw [hcb];exact m4,⟨t4,r4,fun i hi=>ht4.mono l4 i hi⟩,lH.trans l4,f4⟩
     refine ⟨_,_,run_endLoop q2 hst_ne,?_⟩
     rcases hst3 with ⟨rfl,rfl⟩ | rfl
     ·exact ⟨trivial,post⟩
     ·cases ex with
      | normal=>exact wpIn_skip ⟨trivial,post⟩
      | ret=>exact wpIn_ret ⟨trivial,post⟩
      | exit i=>exact wpIn_exit ⟨rfl,post⟩
   ·cases h'
 ·cases h'
def loopIn (F:Fence) (n:Nat) (P:Program) (x:Code) (Q:Exit→Act→World→Prop) (a:Act) (w:World):Prop:=
 ∀(b:Frame) (k:List Item) (cs:List Frame),b.roundOf=F.round→F.fn b.fn→F.room (cs.length+1+n)→
  ∃e a' w',Q e a' w'∧ArrivesIn (Machine.fenced P F) P (lone (b.atR a (.code x:: .inLoop x::k)) cs w) b k cs e a' w'
theorem loopIn_mono {F:Fence} {n:Nat} {x:Code} {Q Q':Exit→Act→World→Prop} {a:Act} {w:World} (hq: ∀e a w,Q e a w→Q' e a w) (h:loopIn F n P x Q a w):loopIn F n P x Q' a w:=
 fun b k cs hro hb hr=>let ⟨e,a',w',q,r⟩:=h b k cs hro hb hr;⟨e,a',w',hq _ _ _ q,r⟩
theorem wpIn_loopIn {F:Fence} {n:Nat} {Q:Exit→Act→World→Prop} {a:Act} {w:World} {x:Code} (h:loopIn F n P x Q a w):(Code.loop x).wpIn F n P Q a w:=by
 intro b k cs hro hb hr
 have h0:(lone (b.atR a (.code (.loop x)::k)) cs w).fenced P F:=fenced_calm hb hr rfl
 obtain ⟨e,a',w',q,r⟩:=h b k cs hro hb hr
 exact ⟨e,a',w',q,.of_steps (.one h0 stepR_loop) r⟩
theorem loopIn_once {F:Fence} {n:Nat} {Q:Exit→Act→World→Prop} {a:Act} {w:World} {x:Code} (h:x.wpIn F n P (Exit.then (fun a' w'=>loopIn F n P x Q a' w') Q) a w):loopIn F n P x Q a w:=by
 intro b k cs hro hb hr
 obtain ⟨e,a₁,w₁,hq,harr⟩:=h b (.inLoop x::k) cs hro hb hr
 cases e with
 | normal=>
  obtain ⟨e₂,a₂,w₂,hq₂,harr₂⟩:=hq b k cs hro hb hr
  exact ⟨e₂,a₂,w₂,hq₂,.of_steps (StepsIn.trans harr (.one (fenced_calm hb hr rfl) stepR_inLoop)) harr₂⟩
 | exit id=>exact ⟨_,a₁,w₁,hq,.pass (x:= .inLoop x) rfl (fun _ _=> .inl (by simp)) harr⟩
 | goto l=>exact ⟨_,a₁,w₁,hq,.pass (x:= .inLoop x) rfl (fun _ _=> .inl (by simp)) harr⟩
 | ret=>exact ⟨_,a₁,w₁,hq,.pass (x:= .inLoop x) rfl (fun _ _=> .inl (by simp)) harr⟩
 | panic ch=>exact ⟨_,a₁,w₁,hq,.pass (x:= .inLoop x) rfl (fun _ _=> .inl (by simp)) harr⟩
 | outgrown=>exact ⟨_,a₁,w₁,hq,.pass (x:= .inLoop x) rfl (fun _ _=> .inl (by simp)) harr⟩
def LoopR (P:Program) (c:Cfg) (ir:IR) (Q:Post) (v:List (Option AV)) (b:List Box):Prop:= ∀(k:List Nat) (x:IR),ir= .loop k x→ ∀(n0:Nat) (ro:Option Nat) (keep:List Nat) (nt:Nat) (cd:Code) (g:Gh) (a:Act) (w:World),
 SimC c keep nt cd x→Mem g b w→VRel keep nt g w v a→Marks n0 w a.defers→(ro=none∨x.noRng=true)→loopIn (FW ro) 0 P cd (PostR Q keep nt n0 g w) a w
inductive Core (c:Cfg) (keep:List Nat) (nt:Nat):Code→IR→Prop where
 | stuck (a:Code):Core c keep nt a .stuck
 | own (a:Code) (l:List Own) (x:IR) (h:SimC c keep nt a x):Core c keep nt a (.seq (.own l) x)
 | after (a:Code) (l:List Own) (x:IR) (h:SimC c keep nt a x):Core c keep nt a (.seq x (.own l))
 | skip:Core c keep nt .skip .skip
 | label (l:Nat):Core c keep nt (.label l) .skip
 | ret:Core c keep nt .ret .ret
 | exit (i:Nat):Core c keep nt (.exit i) (.exit i)
 | seq (a b:Code) (x y:IR) (h1:SimC c keep nt a x) (h2:SimC c keep nt b y):Core c keep nt (.seq a b) (.seq x y)
 | block (i:Nat) (a:Code) (x:IR) (h:SimC c keep nt a x):Core c keep nt (.block i a) (.block i x)
 | cond (t k:Nat) (a b:Code) (x y:IR) (hk:posOf keep t=some k) (h1:SimC c keep nt a x) (h2:SimC c keep nt b y):Core c keep nt (.cond (.tmp t) a b) (.cond k x y)
 | loop (k:List Nat) (a:Code) (x:IR) (h:SimC c keep nt a x):Core c keep nt (.loop a) (.loop k x)
 | region (id:Nat) (ops:Array Oper) (dr:Bool) (x:IR) (h:lowG c keep nt ops dr=some x):Core c keep nt (.region id ops dr) x
 | rng (t x:Nat) (ps:Array Tmp) (asg body:Code) (hk:posOf keep t=some x):Core c keep nt (.rangeFunc (.tmp t) ps asg body) (.rng x ⟨ps,asg,body,keep,nt⟩)
theorem sim_lift {keep:List Nat} {nt n0:Nat} {Q:Post} {ro:Option Nat} {g:Gh} {v:List (Option AV)} {a:Act} {w:World} (hv:VRel keep nt g w v a) {code:Code} {ir:IR} (hs:SimC c keep nt code ir)
  (h: ∀cd,Core c keep nt cd ir→cd.wpIn (FW ro) 0 P (PostR Q keep nt n0 g w) a w):code.wpIn (FW ro) 0 P (PostR Q keep nt n0 g w) a w:=by
 induction hs with
 | stuck a=>exact h _ (.stuck _)
 | own cd l x hx _=>exact h _ (.own _ _ _ hx)
 | after cd l x hx _=>exact h _ (.after _ _ _ hx)
 | skip=>exact h _ .skip
 | label l=>exact h _ (.label _)
 | ret=>exact h _ .ret
 | exit i=>exact h _ (.exit _)
 | seq c1 c2 x y hx hy _ _=>exact h _ (.seq _ _ _ _ hx hy)
 | block i cd x hx _=>exact h _ (.block _ _ _ hx)
 | scope cd x hx ih=>
  refine wpIn_scope (wpI_mono ?_ (ih h))
  rintro e a' w' ⟨ex,v',b',h1,h2,h3⟩
  cases e with
  | goto l=>cases ex <;> simp [ExIs] at h2
  | _=>exact ⟨ex,v',b',h1,h2,h3⟩
 | cond t k c1 c2 x y hk hx hy _ _=>exact h _ (.cond _ _ _ _ _ _ hk hx hy)
 | yes u c1 c2 x hu hx ih=>
  obtain ⟨tt,hr,ht⟩:=hv
  have hev:=ht.ev (.const u)
  have e1:ev tt (.const u)= .bool true:=hu
  rw [e1] at hev
  exact wpIn_cond_true hev.bool_inv (ih h)
 | no u c1 c2 x hu hx ih=>
  obtain ⟨tt,hr,ht⟩:=hv
  have hev:=ht.ev (.const u)
  have e1:ev tt (.const u)= .bool false:=hu
  rw [e1] at hev
  exact wpIn_cond_false hev.bool_inv (ih h)
 | loop k cd x hx _=>exact h _ (.loop _ _ _ hx)
 | region id ops dr x hx=>exact h _ (.region _ _ _ _ hx)
 | rng t x ps asg body hk=>exact h _ (.rng _ _ _ _ _ hk)
theorem low_not {keep:List Nat} {nt:Nat} {ops:Array Oper} {dr:Bool} {x:IR} (h:lowG c keep nt ops dr=some x):(∃m kl its,x= .reg m kl its)∨(∃x' k n its,x= .nxt x' k n its)∨ ∃l,x= .alt l:=by
 rcases low_g h with ⟨m,kl,its,e,_⟩ | ⟨_,_,_,_,_,_,_,_,_,_,_,_,_,_,_,_,e⟩ | ⟨_,_,_,_,e⟩
 ·exact .inl ⟨m,kl,its,e⟩
 ·exact .inr (.inl ⟨_,_,_,_,e⟩)
 ·exact .inr (.inr ⟨_,e⟩)
theorem run_sound (hc:CfgOk c P) {ir:IR} {Q:Post} {v:List (Option AV)} {b:List Box} (h:Run c ir Q v b):CodeR P c ir Q v b∧LoopR P c ir Q v b:=by
 refine Run.rec (c:=c) (motive_1:=fun ir Q v b _=>CodeR P c ir Q v b∧LoopR P c ir Q v b) (motive_2:=fun t xs bs r _=>RetR P t xs bs r) ?_ ?_ ?_ ?_ ?_ ?_ ?_ ?_ ?_ ?_ ?_ ?_ ?_ ?_ ?_ h
 ·intro Q v b h
  refine ⟨?_,fun _ _ e=>by cases e⟩
  intro n0 ro keep nt code g a w hs hm hv hd hnr
  refine sim_lift hv hs fun cd hcd=> ?_
  cases hcd with
  | skip=>exact wpIn_skip ⟨.normal,v,b,h,trivial,hd,g,hm,hv,Le.refl g w,Fr.refl g w⟩
  | label l=>exact wpIn_label ⟨.normal,v,b,h,trivial,hd,g,hm,hv,Le.refl g w,Fr.refl g w⟩
  | region id ops dr x hx=>rcases low_not hx with ⟨_,_,_,e⟩ | ⟨_,_,_,_,e⟩ | ⟨_,e⟩ <;> cases e
 ·intro Q v b h
  refine ⟨?_,fun _ _ e=>by cases e⟩
  intro n0 ro keep nt code g a w hs hm hv hd hnr
  refine sim_lift hv hs fun cd hcd=> ?_
  cases hcd with
  | ret=>exact wpIn_ret ⟨.ret,v,b,h,trivial,hd,g,hm,hv,Le.refl g w,Fr.refl g w⟩
  | region id ops dr x hx=>rcases low_not hx with ⟨_,_,_,e⟩ | ⟨_,_,_,_,e⟩ | ⟨_,e⟩ <;> cases e
 ·intro l Q v b h
  refine ⟨?_,fun _ _ e=>by cases e⟩
  intro n0 ro keep nt code g a w hs hm hv hd hnr
  refine sim_lift hv hs fun cd hcd=> ?_
  cases hcd with
  | region id ops dr x hx=>rcases low_not hx with ⟨_,_,_,e⟩ | ⟨_,_,_,_,e⟩ | ⟨_,e⟩ <;> cases e
 ·intro i Q v b h
  refine ⟨?_,fun _ _ e=>by cases e⟩
  intro n0 ro keep nt code g a w hs hm hv hd hnr
  refine sim_lift hv hs fun cd hcd=> ?_
  cases hcd with
  | exit i=>exact wpIn_exit ⟨.exit i,v,b,h,rfl,hd,g,hm,hv,Le.refl g w,Fr.refl g w⟩
  | region id ops dr x hx=>rcases low_not hx with ⟨_,_,_,e⟩ | ⟨_,_,_,_,e⟩ | ⟨_,e⟩ <;> cases e
 ·intro x y Q R v b h1 h2 h3 ih1 ih2
  refine ⟨?_,fun _ _ e=>by cases e⟩
  intro n0 ro keep nt code g a w hs hm hv hd hnr
  refine sim_lift hv hs fun cd hcd=> ?_
  cases hcd with
  | own cd l x hx=>
   obtain ⟨g1,k1,k2,k3,k4⟩:=ownAll_ok l hm hv
   cases h1 with
   | own hR=>
    refine wpI_mono ?_ ((ih2 _ _ hR).1 n0 ro keep nt cd g1 a w hx k1 k2 hd (hnr.imp id (fun h=>by simpa [IR.noRng] using h)))
    exact fun e a' w' hp=>PostR.trans k3 k4 hp
  | after cd l x hx=>
   refine wpI_mono ?_ (ih1.1 n0 ro keep nt cd g a w hx hm hv hd (hnr.imp id (fun h=>by simpa [IR.noRng] using h)))
   rintro e a' w' ⟨ex,v',b',hR,he,hd',g',hm',hv',hl',hf'⟩
   cases ex with
   | normal=>
    obtain ⟨g1,k1,k2,k3,k4⟩:=ownAll_ok l hm' hv'
    have:=h2 v' b' hR
    cases this with
    | own hQ=>exact ⟨.normal,_,_,hQ,he,hd',g1,k1,k2,hl'.trans k3,hf'.trans k4⟩
   | ret=>exact ⟨.ret,v',b',h3 _ _ _ (by simp) hR,he,hd',g',hm',hv',hl',hf'⟩
   | exit i=>exact ⟨.exit i,v',b',h3 _ _ _ (by simp) hR,he,hd',g',hm',hv',hl',hf'⟩
  | seq c1 c2 x y hx hy=>
   refine wpIn_seq ?_
   refine wpI_mono ?_ (ih1.1 n0 ro keep nt c1 g a w hx hm hv hd (hnr.imp id (fun h=>(Bool.and_eq_true _ _▸h:_∧_).1)))
   rintro e a' w' ⟨ex,v',b',hR,he,hd',g',hm',hv',hl',hf'⟩
   cases ex with
   | normal=>
    cases e <;> simp only [ExIs] at he
    refine wpI_mono ?_ ((ih2 v' b' hR).1 n0 ro keep nt c2 g' a' w' hy hm' hv' hd' (hnr.imp id (fun h=>(Bool.and_eq_true _ _▸h:_∧_).2)))
    exact fun e a2 w2 hp=>PostR.trans hl' hf' hp
   | ret=>
    cases e <;> simp only [ExIs] at he
    exact ⟨.ret,v',b',h3 _ _ _ (by simp) hR,trivial,hd',g',hm',hv',hl',hf'⟩
   | exit i=>
    cases e <;> simp only [ExIs] at he
    exact ⟨.exit i,v',b',h3 _ _ _ (by simp) hR,he,hd',g',hm',hv',hl',hf'⟩
  | region id ops dr x hx=>rcases low_not hx with ⟨_,_,_,e⟩ | ⟨_,_,_,_,e⟩ | ⟨_,e⟩ <;> cases e
 ·intro i x Q v b h ih
  refine ⟨?_,fun _ _ e=>by cases e⟩
  intro n0 ro keep nt code g a w hs hm hv hd hnr
  refine sim_lift hv hs fun cd hcd=> ?_
  cases hcd with
  | block i cd x hx=>
   refine wpIn_block (wpI_mono ?_ (ih.1 n0 ro keep nt cd g a w hx hm hv hd hnr))
   rintro e a' w' ⟨ex,v',b',hQ,he,hp⟩
   cases ex with
   | normal=>cases e <;> simp only [ExIs] at he;exact ⟨_,v',b',hQ,trivial,hp⟩
   | ret=>cases e <;> simp only [ExIs] at he;exact ⟨_,v',b',hQ,trivial,hp⟩
   | exit j=>
    cases e <;> simp only [ExIs] at he
    subst he
    simp only [leave] at hQ
    simp only [Exit.inBlock]
    split
    ·rename_i hji;rw [if_pos hji] at hQ;exact ⟨_,v',b',hQ,trivial,hp⟩
    ·rename_i hji;rw [if_neg hji] at hQ;exact ⟨_,v',b',hQ,rfl,hp⟩
  | region id ops dr x hx=>rcases low_not hx with ⟨_,_,_,e⟩ | ⟨_,_,_,_,e⟩ | ⟨_,e⟩ <;> cases e
 ·intro m kl its Q v v' b b' cf h hr hq ih
  refine ⟨?_,fun _ _ e=>by cases e⟩
  intro n0 ro keep nt code g a w hs hm hv hd hnr
  refine sim_lift hv hs fun cd hcd=> ?_
  cases hcd with
  | region id ops dr x hx=>
   have hx:lowR c keep nt ops dr=some (.reg m kl its):=by
    rcases low_g hx with ⟨_,_,_,e,h2⟩ | ⟨_,_,_,_,_,_,_,_,_,_,_,_,_,_,_,_,e⟩ | ⟨_,_,_,_,e⟩
    ·cases e;exact h2
    ·cases e
    ·cases e
   refine wpI_mono ?_ (region_ok hc (cf_ok ih) hx hr hm hv hd ro)
   rintro e a' w' ⟨he,hp⟩
   exact ⟨.normal,v',b',hq,he,hp⟩
 ·intro k x y Q v b hx1 h ih
  refine ⟨?_,fun _ _ e=>by cases e⟩
  intro n0 ro keep nt code g a w hs hm hv hd hnr
  refine sim_lift hv hs fun cd hcd=> ?_
  cases hcd with
  | cond t k c1 c2 x y hk hx hy=>
   obtain ⟨tt,hr,ht⟩:=hv
   have hev:=ht.ev (.tmp t)
   have e1:ev tt (.tmp t)= .bool true:=hr.env t k _ hk hx1
   rw [e1] at hev
   exact wpIn_cond_true hev.bool_inv (ih.1 n0 ro keep nt c1 g a w hx hm ⟨tt,hr.set_none k,ht⟩ hd (hnr.imp id (fun h=>(Bool.and_eq_true _ _▸h:_∧_).1)))
  | region id ops dr x hx=>rcases low_not hx with ⟨_,_,_,e⟩ | ⟨_,_,_,_,e⟩ | ⟨_,e⟩ <;> cases e
 ·intro k x y Q v b hx1 h ih
  refine ⟨?_,fun _ _ e=>by cases e⟩
  intro n0 ro keep nt code g a w hs hm hv hd hnr
  refine sim_lift hv hs fun cd hcd=> ?_
  cases hcd with
  | cond t k c1 c2 x y hk hx hy=>
   obtain ⟨tt,hr,ht⟩:=hv
   have hev:=ht.ev (.tmp t)
   have e1:ev tt (.tmp t)= .bool false:=hr.env t k _ hk hx1
   rw [e1] at hev
   exact wpIn_cond_false hev.bool_inv (ih.1 n0 ro keep nt c2 g a w hy hm ⟨tt,hr.set_none k,ht⟩ hd (hnr.imp id (fun h=>(Bool.and_eq_true _ _▸h:_∧_).2)))
  | region id ops dr x hx=>rcases low_not hx with ⟨_,_,_,e⟩ | ⟨_,_,_,_,e⟩ | ⟨_,e⟩ <;> cases e
 ·intro k x Q R v b h1 h2 h3 ih1 ih2
  have go:LoopR P c (.loop k x) Q v b:=by
   intro k0 x0 e n0 ro keep nt cd g a w hx hm hv hd hnr
   cases e
   obtain ⟨t,hr,ht⟩:=hv
   have hvk:VRel keep nt g w (killV k v) a:=⟨t,hr.kill k,ht⟩
   refine loopIn_once (wpI_mono ?_ (ih1.1 n0 ro keep nt cd g a w hx hm hvk hd hnr))
   rintro e a' w' ⟨ex,v1,b1,hR,he,hd',g',hm',⟨t',hr',ht'⟩,hl',hf'⟩
   cases ex with
   | normal=>
    cases e <;> simp only [ExIs] at he
    have ih:=(ih2 v1 b1 hR).2 k x rfl
    have stay:turnV k b.length v1 b1=v1→turnB k b.length v1 b1=b1→loopIn (FW ro) 0 P cd (PostR Q keep nt n0 g w) a' w':=fun e1 e2=>by
     unfold LoopR at ih2
     have ih3:=(ih2 v1 b1 hR).2 k x rfl n0 ro keep nt cd g' a' w' hx
     rw [e1,e2] at ih3
     exact loopIn_mono (fun e a3 w3 hp=>PostR.trans hl' hf' hp) (ih3 hm' ⟨t',hr',ht'⟩ hd' hnr)
    cases hle:decide (b1.length≤b.length) with
    | true=>exact stay (by simp only [turnV,hle]) (by simp only [turnB,hle])
    | false=>
    cases hu:underV k b.length 0 (killV k v1) with
    | true=>
     obtain ⟨g2,hm2,ht2,hl2,hf2⟩:=hand_mem hm' ht' (of_decide_eq_false hle)
     have ih3:=(ih2 v1 b1 hR).2 k x rfl n0 ro keep nt cd g2 a' w' hx
     simp only [turnV,turnB,hle,hu] at ih3
     have hv2:VRel keep nt g2 w' (handV b.length v1 b1) a':=⟨_,hr'.handV b.length b1,ht2⟩
     exact loopIn_mono (fun e a3 w3 hp=>PostR.trans (hl2 g w b hm (Nat.le_refl _) hl') (hf'.trans hf2) hp) (ih3 hm2 hv2 hd' hnr)
    | false=>exact stay (by simp only [turnV,hle,hu]) (by simp only [turnB,hle,hu])
   | ret=>
    cases e <;> simp only [ExIs] at he
    exact ⟨.ret,v1,b1,h3 _ _ _ (by simp) hR,trivial,hd',g',hm',⟨t',hr',ht'⟩,hl',hf'⟩
   | exit i=>
    cases e <;> simp only [ExIs] at he
    exact ⟨.exit i,v1,b1,h3 _ _ _ (by simp) hR,he,hd',g',hm',⟨t',hr',ht'⟩,hl',hf'⟩
  refine ⟨?_,go⟩
  intro n0 ro keep nt code g a w hs hm hv hd hnr
  refine sim_lift hv hs fun cd hcd=> ?_
  cases hcd with
  | loop k cd x hx=>exact wpIn_loopIn (go k _ rfl n0 ro keep nt cd g a w hx hm hv hd hnr)
  | region id ops dr x hx=>rcases low_not hx with ⟨_,_,_,e⟩ | ⟨_,_,_,_,e⟩ | ⟨_,e⟩ <;> cases e
 ·intro x s Q v v' b b' e cf h hr hq ih
  refine ⟨?_,fun _ _ e=>by cases e⟩
  intro n0 ro keep nt code g a w hs hm hv hd hnr
  refine sim_lift hv hs fun cd hcd=> ?_
  cases hcd with
  | rng t x ps asg body hk=>
   rcases hnr with rfl | hnr
   ·refine wpI_mono ?_ (rng_ok (cf_ok ih) hk hr hm hv hd)
    rintro e' a' w' ⟨he,hp⟩
    exact ⟨e,v',b',hq,he,hp⟩
   ·cases hnr
  | region id ops dr x hx=>rcases low_not hx with ⟨_,_,_,e⟩ | ⟨_,_,_,_,e⟩ | ⟨_,e⟩ <;> cases e
 ·intro x k n i m clock seen es its Q v b cf h hx hi hm0 h0 h1 ih
  refine ⟨?_,fun _ _ e=>by cases e⟩
  intro n0 ro keep nt code g a w hs hm hv hd hnr
  refine sim_lift hv hs fun cd hcd=> ?_
  cases hcd with
  | region id ops dr y hy=>
   rcases low_g hy with ⟨_,_,_,e,_⟩ | ⟨o,r,t,d,x',k',its',rfl,hops,ho,hdst,hgd,hpx,hpk,hdn,hlo,e⟩ | ⟨_,_,_,_,e⟩
   ·cases e
   ·cases e
    exact nxt_ok hc (cf_ok ih) hops ho hdst hgd hpx hpk hdn hlo hx hi hm0 h0 h1 hm hv hd ro
   ·cases e
 ·intro l Q v b cf h hne hr ih
  refine ⟨?_,fun _ _ e=>by cases e⟩
  intro n0 ro keep nt code g a w hs hm hv hd hnr
  refine sim_lift hv hs fun cd hcd=> ?_
  cases hcd with
  | region id ops dr y hy=>
   rcases low_g hy with ⟨_,_,_,e,_⟩ | ⟨_,_,_,_,_,_,_,_,_,_,_,_,_,_,_,_,e⟩ | ⟨k,l',rfl,hal,e⟩
   ·cases e
   ·cases e
   ·cases e
    refine wpIn_region_any hc.mixed (altList_any hc (cf_ok ih) k ops l hal hm hv hd ro fun x hx=> ?_)
    obtain ⟨v1,b1,h1,h2⟩:=hr x hx
    exact ⟨v1,b1,h1,fun e a' w' he hp=>⟨.normal,v1,b1,h2,he,hp⟩⟩
 ·intro f fn L args bs r hf hl h ih
  exact ret_fn hc hf hl ih.1
 ·intro k s env args bs r asg body R hl hn he hk h1 h2 h3 ih1 ih3
  exact ret_yld hl hn he hk ih1.1 h2 (fun e v1 b1 h=>(ih3 e v1 b1 h).1)
theorem ansF_sound (hc:CfgOk c P) {f:FuncId} {xs:List AV} {bs:List Box} {r:AV} {bs':List Box} (h:ansF c f xs bs=some (r,bs')) (g:Gh) (w:World) (vs:Array Value) (hm:Mem g bs w) (hx:RdAll g w xs vs.toList):Calls P f vs w (CPost g w bs' r):=by
 have hr:=ansT_iff.1 h
 cases hr with
 | fn hf hl hrun=>exact (ret_fn hc hf hl (run_sound hc hrun).1).2 g w vs hm hx
end
end Go.Am
