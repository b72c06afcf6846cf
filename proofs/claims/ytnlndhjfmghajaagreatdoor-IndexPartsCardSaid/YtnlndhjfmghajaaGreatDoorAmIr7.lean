/- Rules for proofs over the plainer form: -/
import Derived.Test.YtnlndhjfmghajaaGreatDoorAmIr6
set_option linter.all false
namespace Go.Am
theorem Wp.loopM {c:Cfg} {k:List Nat} {x:IR} {Q:Post} {α:Type} (m:α→Nat) (V:α→List (Option AV)) (B:α→List Box) (P:α→Prop)
  (step: ∀a,P a→Wp c x (fun e v' b'=>match e with
   | .normal=> ∃a',P a'∧m a'<m a∧killV k (turnV k (B a).length v' b')=V a'∧turnB k (B a).length v' b'=B a'
   | e=>Q e v' b') (V a) (B a)) (a:α) (hp:P a) {v:List (Option AV)} (hv:killV k v=V a) {b:List Box} (hb:b=B a):Wp c (.loop k x) Q v b:=by
 subst hb
 have: ∀(n:Nat) (a:α),m a<n→P a→ ∀v,killV k v=V a→roundsW (Wp c x) k Q n v (B a):=by
  intro n
  induction n with
  | zero=>intro a h;omega
  | succ n ih=>
   intro a hn hp v hv
   show Wp c x _ (killV k v) (B a)
   rw [hv]
   refine Wp.mono x (fun e v' b' hq=> ?_) _ _ (step a hp)
   cases e with
   | normal=>
    obtain ⟨a',h1,h2,h3,h4⟩:=hq
    simp only
    rw [h4]
    exact ih a' (by omega) h1 _ h3
   | ret=>exact hq
   | exit i=>exact hq
 exact ⟨m a+1,this (m a+1) a (by omega) hp v hv⟩
theorem yld_of_wp {c:Cfg} {k:Nat} {s:Site} {env args:List AV} {bs:List Box} {r:AV×List Box} {asg body:IR} (hl:lowSite c s=some (asg,body)) (hn:args.length=s.ps.size) (he:env.length=s.keep.length) (hk:Box.at bs k= .loop .ready)
  (hw:Wp c asg (fun e v1 b1=>e= .normal∧Box.at b1 k= .loop .ready∧Wp c body (fun e _ b2=>Box.at b2 k= .loop .busy∧(AV.bool e.isNormal,cutB bs.length (b2.set k (.loop (endSt e))))=r) v1 (b1.set k (.loop .busy))) (roundV s env args) bs):
  ansT c (.yld k s env) args bs=some r:=
 ansT_iff.2 (.yld hl hn he hk (wp_run _ _ _ _ hw) (fun _ _ _ h=>⟨h.1,h.2.1⟩) (fun _ _ _ h=>wp_run _ _ _ _ h.2.2))
theorem Wp.rng {c:Cfg} {x:Nat} {s:Site} {Q:Post} {v:List (Option AV)} {b:List Box} {f:FuncId} {caps:List AV} (hx:vget v x=some (.fn f [] caps)) (he:c.ext f=none) {r:AV} {b':List Box} {st:LSt} {e:Ex}
  (ha:ansF c f (.yld b.length s (v.map (·.getD .any))::caps) (b++ [.loop .ready])=some (r,b')) (hb:Box.at b' b.length= .loop st) (hst:st=endSt e) (hQ:Q e (cutV b.length v b') (cutB b.length b')):Wp c (.rng x s) Q v b:=by
 have ha':ansT c (.fn f) (.yld b.length s (v.map (·.getD .any))::caps) (b++ [.loop .ready])=some (r,b'):=ha
 simp only [Wp,rngW,rngI,hx,he,ha',rngE,hb,hst]
 cases e <;> exact hQ
theorem Wp.nxt {c:Cfg} {x k n i m clock:Nat} {its:List It} {seen:List Nat} {es:List (AV×AV×Nat)} {Q:Post} {v:List (Option AV)} {b:List Box} (hx:vget v x=some (.itv i)) (hi:Box.at b i= .iter (.map m seen clock)) (hm:Box.at b m= .mp es clock)
  (h0:(∀e∈es,seen.contains e.2.2=true)→regW (runIts c (ansT c) b.length [] its (v.set k (some (.tup [.bool false]))) (b++List.replicate n .dead)) Q)
  (h1: ∀e∈es,seen.contains e.2.2=false→regW (runIts c (ansT c) b.length [] its (v.set k (some (.tup [.bool true,e.1,e.2.1]))) (b.set i (.iter (.map m (seen++ [e.2.2]) clock))++List.replicate n .dead)) Q):Wp c (.nxt x k n its) Q v b:=
 ⟨i,m,clock,seen,es,hx,hi,hm,h0,h1⟩
section
variable {c:Cfg} {Q:Post} {v:List (Option AV)} {b:List Box}
@[simp] theorem Wp_skip:Wp c .skip Q v b=Q .normal v b:=rfl
@[simp] theorem Wp_ret:Wp c .ret Q v b=Q .ret v b:=rfl
@[simp] theorem Wp_stuck:Wp c .stuck Q v b=False:=rfl
@[simp] theorem Wp_own (l:List Own):Wp c (.own l) Q v b=Q .normal (ownAll l v b).1 (ownAll l v b).2:=rfl
@[simp] theorem Wp_exit (i:Nat):Wp c (.exit i) Q v b=Q (.exit i) v b:=rfl
@[simp] theorem Wp_seq (x y:IR):Wp c (.seq x y) Q v b=Wp c x (thenW (Wp c y) Q) v b:=rfl
@[simp] theorem Wp_block (i:Nat) (x:IR):Wp c (.block i x) Q v b=Wp c x (fun e v b=>Q (leave i e) v b) v b:=rfl
@[simp] theorem Wp_alt (l:List (Nat×List Nat×List It)):Wp c (.alt l) Q v b=(l≠ []∧ ∀x∈l,regW (runIts c (ansT c) b.length x.2.1 x.2.2 v (b++List.replicate x.1 .dead)) Q):=rfl
@[simp] theorem Wp_reg (n:Nat) (kl:List Nat) (its:List It):Wp c (.reg n kl its) Q v b=regW (runIts c (ansT c) b.length kl its v (b++List.replicate n .dead)) Q:=rfl
@[simp] theorem Wp_cond (x:Nat) (p q:IR):Wp c (.cond x p q) Q v b=condW (vget v x) (Wp c p Q (v.set x none) b) (Wp c q Q (v.set x none) b):=rfl
@[simp] theorem thenW_normal (W:Post→List (Option AV)→List Box→Prop):thenW W Q .normal v b=W Q v b:=rfl
@[simp] theorem thenW_ret (W:Post→List (Option AV)→List Box→Prop):thenW W Q .ret v b=Q .ret v b:=rfl
@[simp] theorem thenW_exit (W:Post→List (Option AV)→List Box→Prop) (i:Nat):thenW W Q (.exit i) v b=Q (.exit i) v b:=rfl
@[simp] theorem regW_some:regW (some (v,b)) Q=Q .normal v b:=rfl
@[simp] theorem regW_none:regW none Q=False:=rfl
@[simp] theorem condW_bool (x:Bool) (p q:Prop):condW (some (.bool x)) p q=if x=true then p else q:=by cases x <;> simp [condW]
@[simp] theorem leave_normal (i:Nat):leave i .normal= .normal:=rfl
@[simp] theorem leave_ret (i:Nat):leave i .ret= .ret:=rfl
@[simp] theorem leave_exit (i j:Nat):leave i (.exit j)=if j=i then .normal else .exit j:=rfl
@[simp] theorem endW_normal (own:Bool) (res:List Res) (n:Nat) (r:AV×List Box):endW c own res n r .normal v b=(endI c own res n v b=some r):=rfl
@[simp] theorem endW_ret (own:Bool) (res:List Res) (n:Nat) (r:AV×List Box):endW c own res n r .ret v b=(endI c own res n v b=some r):=rfl
@[simp] theorem andV_bool (p q:Bool):andV (some (.bool p)) (some (.bool q))=some (.bool (p&&q)):=by cases p <;> rfl
@[simp] theorem orV_bool (p q:Bool):orV (some (.bool p)) (some (.bool q))=some (.bool (p || q)):=by cases p <;> rfl
@[simp] theorem andV_true (x:Option AV):andV (some (.bool true)) x=x:=rfl
@[simp] theorem andV_false (x:Option AV):andV (some (.bool false)) x=some (.bool false):=rfl
@[simp] theorem orV_true (x:Option AV):orV (some (.bool true)) x=some (.bool true):=rfl
@[simp] theorem orV_false (x:Option AV):orV (some (.bool false)) x=x:=rfl
@[simp] theorem ap1_s (a:AV) (f:AV→Option AV):ap1 (some a) f=f a:=rfl
@[simp] theorem ap2_s (a d:AV) (f:AV→AV→Option AV):ap2 (some a) (some d) f=f a d:=rfl
@[simp] theorem ap3_s (a d e:AV) (f:AV→AV→AV→Option AV):ap3 (some a) (some d) (some e) f=f a d e:=rfl
@[simp] theorem out1_s (a:AV):out1 (some (a,.none))=some a:=rfl
end
attribute [simp] softF softC fresh1 lowV offV boxOf AV.isNil ownAll own1 lent1 runIts parV evE setAll setO wantI wantV effI hardI softI isStore calmI calmV calmK binN nilC nilCmp opv look doOpE aopE guardV lenT endI handW resultsI resI handI cutB cutV turnV turnB underV handV keepBy killV startV killAll
 ev ofVal ofCell Tr.get Eff.on asks pickA intOp shiftOp strOp
 indexA extractA loadA storeA fieldAddrA linked oslOf storeLink fieldA indexAddrA moveA nilCheckA mkIfcA convertA makeSliceA buildA rangeA nextA buildSliceA buildSliceL buildSliceL0 allocA boxA builtinA lenA mapLen appendA appendTo copyA copyTo partOf elems partA partT slice2A slice3A boundA sizeIs isZero
 mkElem fillA setElems placeF placeE eqRec eqCell eqFields eqItems both cellsOk AV.plain plainAll AV.flat flatAll zeroOk
 callA eatA callP callL lendAll leavesAll lentBack hasOsl shareAll oneOr AV.hand handAll AV.under underAll forget forgetBox forgetHd forgetVal valOk bytesOf byteOf bytesN dataA textA minA maxA apartB apart1 AV.knd AV.differ clashes amongst AV.apart apartAll
attribute [simp] List.getElem?_cons_zero
@[simp] theorem opTmps_sc (ty a:Nat) (v:Value):opTmps (.store ty (.tmp a) (.const v))= [a]:=rfl
@[simp] theorem opTmps_st (ty a b:Nat):opTmps (.store ty (.tmp a) (.tmp b))= [a,b]:=rfl
@[simp] theorem opTmps_sf (ty a f:Nat):opTmps (.store ty (.tmp a) (.func f))= [a]:=rfl
@[simp] theorem storeElem_agg (cs:List AV) (off:Nat) (v:List AV):storeElem (.agg cs) off v=if off+v.length≤cs.length∧plainAll v=true then some (.agg (splice cs off v)) else .none:=rfl
@[simp] theorem storeElem_int (k:IntKind) (n:Int) (k':IntKind) (n':Int):storeElem (.int k n) 0 [.int k' n']=some (.int k' n'):=rfl
@[simp] theorem storeElem_str (a b:List UInt8):storeElem (.str a) 0 [.str b]=some (.str b):=rfl
@[simp] theorem storeElem_bool (a b:Bool):storeElem (.bool a) 0 [.bool b]=some (.bool b):=rfl
@[simp] theorem vget_zero (a:Option AV) (l:List (Option AV)):vget (a::l) 0=a:=rfl
@[simp] theorem vget_succ (a:Option AV) (l:List (Option AV)) (n:Nat):vget (a::l) (n+1)=vget l n:=rfl
@[simp] theorem vget_nil (n:Nat):vget [] n=none:=by simp [vget]
@[simp] theorem at_zero (a:Box) (l:List Box):Box.at (a::l) 0=a:=rfl
@[simp] theorem at_succ (a:Box) (l:List Box) (n:Nat):Box.at (a::l) (n+1)=Box.at l n:=rfl
@[simp] theorem at_nil (n:Nat):Box.at [] n= .dead:=by simp [Box.at]
@[simp] theorem isCell_any  :(AV.any).isCell=false:=rfl
@[simp] theorem cells_any  :(AV.any).cells= [(AV.any)]:=rfl
@[simp] theorem lend_any (bs:List Box)  :lend bs (AV.any)=some (AV.any):=rfl
@[simp] theorem binA_eql_any (c:Cfg) (ty:TypeId) (y:AV)  :binA c ty .eql (AV.any) y=(eqRec c 20 ty (AV.any) y).map .bool:=by unfold binA;rfl
@[simp] theorem binA_neq_any (c:Cfg) (ty:TypeId) (y:AV)  :binA c ty .neq (AV.any) y=(eqRec c 20 ty (AV.any) y).map fun b=> .bool (!b):=by unfold binA;rfl
@[simp] theorem isCell_unk  :(AV.unk).isCell=true:=rfl
@[simp] theorem cells_unk  :(AV.unk).cells= [(AV.unk)]:=rfl
@[simp] theorem lend_unk (bs:List Box)  :lend bs (AV.unk)=some (AV.unk):=rfl
@[simp] theorem binA_eql_unk (c:Cfg) (ty:TypeId) (y:AV)  :binA c ty .eql (AV.unk) y=(eqRec c 20 ty (AV.unk) y).map .bool:=by unfold binA;rfl
@[simp] theorem binA_neq_unk (c:Cfg) (ty:TypeId) (y:AV)  :binA c ty .neq (AV.unk) y=(eqRec c 20 ty (AV.unk) y).map fun b=> .bool (!b):=by unfold binA;rfl
@[simp] theorem isCell_int (k:IntKind) (n:Int):(AV.int k n).isCell=true:=rfl
@[simp] theorem cells_int (k:IntKind) (n:Int):(AV.int k n).cells= [(AV.int k n)]:=rfl
@[simp] theorem lend_int (bs:List Box) (k:IntKind) (n:Int):lend bs (AV.int k n)=some (AV.int k n):=rfl
@[simp] theorem isCell_bool (b:Bool):(AV.bool b).isCell=true:=rfl
@[simp] theorem cells_bool (b:Bool):(AV.bool b).cells= [(AV.bool b)]:=rfl
@[simp] theorem lend_bool (bs:List Box) (b:Bool):lend bs (AV.bool b)=some (AV.bool b):=rfl
@[simp] theorem binA_eql_bool (c:Cfg) (ty:TypeId) (y:AV) (b:Bool):binA c ty .eql (AV.bool b) y=(eqRec c 20 ty (AV.bool b) y).map .bool:=by unfold binA;rfl
@[simp] theorem binA_neq_bool (c:Cfg) (ty:TypeId) (y:AV) (b:Bool):binA c ty .neq (AV.bool b) y=(eqRec c 20 ty (AV.bool b) y).map fun b=> .bool (!b):=by unfold binA;rfl
@[simp] theorem isCell_str (s:List UInt8):(AV.str s).isCell=true:=rfl
@[simp] theorem cells_str (s:List UInt8):(AV.str s).cells= [(AV.str s)]:=rfl
@[simp] theorem lend_str (bs:List Box) (s:List UInt8):lend bs (AV.str s)=some (AV.str s):=rfl
@[simp] theorem isCell_agg (cs:List AV):(AV.agg cs).isCell=false:=rfl
@[simp] theorem cells_agg (cs:List AV):(AV.agg cs).cells=cs:=rfl
@[simp] theorem leaves_any  :(AV.any).leaves= [AV.any]:=rfl
@[simp] theorem leaves_unk  :(AV.unk).leaves= [AV.unk]:=rfl
@[simp] theorem leaves_int (k:IntKind) (n:Int):(AV.int k n).leaves= [AV.int k n]:=rfl
@[simp] theorem leaves_bool (b:Bool):(AV.bool b).leaves= [AV.bool b]:=rfl
@[simp] theorem leaves_str (s:List UInt8):(AV.str s).leaves= [AV.str s]:=rfl
@[simp] theorem leaves_tup (vs:List AV):(AV.tup vs).leaves= [AV.tup vs]:=rfl
@[simp] theorem leaves_nilp  :(AV.nilp).leaves= [AV.nilp]:=rfl
@[simp] theorem leaves_ptr (k off:Nat):(AV.ptr k off).leaves= [AV.ptr k off]:=rfl
@[simp] theorem leaves_sptr (k n i off:Nat):(AV.sptr k n i off).leaves= [AV.sptr k n i off]:=rfl
@[simp] theorem leaves_eptr (cs:List AV):(AV.eptr cs).leaves= [AV.eptr cs]:=rfl
@[simp] theorem leaves_lst (nl:Option Bool) (sz:Nat) (es:List AV):(AV.lst nl sz es).leaves= [AV.lst nl sz es]:=rfl
@[simp] theorem leaves_cap0 (nl:Option Bool):(AV.cap0 nl).leaves= [AV.cap0 nl]:=rfl
@[simp] theorem leaves_osl (k n:Nat):(AV.osl k n).leaves= [AV.osl k n]:=rfl
@[simp] theorem leaves_fn (f:FuncId) (a b:List AV):(AV.fn f a b).leaves= [AV.fn f a b]:=rfl
@[simp] theorem leaves_nilf  :(AV.nilf).leaves= [AV.nilf]:=rfl
@[simp] theorem leaves_ifc (b:Bool):(AV.ifc b).leaves= [AV.ifc b]:=rfl
@[simp] theorem leaves_ifi (t:TypeId) (k:IntKind) (n:Int):(AV.ifi t k n).leaves= [AV.ifi t k n]:=rfl
@[simp] theorem leaves_yld (k:Nat) (s:Site) (env:List AV):(AV.yld k s env).leaves= [AV.yld k s env]:=rfl
@[simp] theorem lend_agg (bs:List Box) (cs:List AV):lend bs (AV.agg cs)=if plainAll cs=true then some (AV.agg cs) else (lendAll bs cs).map .agg:=by
 simp only [lend]
 cases plainAll cs <;> rfl
@[simp] theorem leaves_agg (cs:List AV):(AV.agg cs).leaves=if plainAll cs=true then [] else leavesAll cs:=by
 simp only [AV.leaves]
 cases plainAll cs <;> rfl
@[simp] theorem binA_eql_agg (c:Cfg) (ty:TypeId) (y:AV) (cs:List AV):binA c ty .eql (AV.agg cs) y=(eqRec c 20 ty (AV.agg cs) y).map .bool:=by unfold binA;rfl
@[simp] theorem binA_neq_agg (c:Cfg) (ty:TypeId) (y:AV) (cs:List AV):binA c ty .neq (AV.agg cs) y=(eqRec c 20 ty (AV.agg cs) y).map fun b=> .bool (!b):=by unfold binA;rfl
@[simp] theorem isCell_tup (vs:List AV):(AV.tup vs).isCell=false:=rfl
@[simp] theorem cells_tup (vs:List AV):(AV.tup vs).cells= [(AV.tup vs)]:=rfl
@[simp] theorem lend_tup (bs:List Box) (vs:List AV):lend bs (AV.tup vs)=some (AV.tup vs):=rfl
@[simp] theorem binA_eql_tup (c:Cfg) (ty:TypeId) (y:AV) (vs:List AV):binA c ty .eql (AV.tup vs) y=(eqRec c 20 ty (AV.tup vs) y).map .bool:=by unfold binA;rfl
@[simp] theorem binA_neq_tup (c:Cfg) (ty:TypeId) (y:AV) (vs:List AV):binA c ty .neq (AV.tup vs) y=(eqRec c 20 ty (AV.tup vs) y).map fun b=> .bool (!b):=by unfold binA;rfl
@[simp] theorem isCell_nilp  :(AV.nilp).isCell=true:=rfl
@[simp] theorem cells_nilp  :(AV.nilp).cells= [(AV.nilp)]:=rfl
@[simp] theorem lend_nilp (bs:List Box)  :lend bs (AV.nilp)=some (AV.nilp):=rfl
@[simp] theorem binA_eql_nilp (c:Cfg) (ty:TypeId) (y:AV)  :binA c ty .eql (AV.nilp) y=(eqRec c 20 ty (AV.nilp) y).map .bool:=by unfold binA;rfl
@[simp] theorem binA_neq_nilp (c:Cfg) (ty:TypeId) (y:AV)  :binA c ty .neq (AV.nilp) y=(eqRec c 20 ty (AV.nilp) y).map fun b=> .bool (!b):=by unfold binA;rfl
@[simp] theorem isCell_ptr (k off:Nat):(AV.ptr k off).isCell=true:=rfl
@[simp] theorem cells_ptr (k off:Nat):(AV.ptr k off).cells= [(AV.ptr k off)]:=rfl
@[simp] theorem lend_ptr (bs:List Box) (k off:Nat):lend bs (AV.ptr k off)=some (AV.ptr k off):=rfl
@[simp] theorem binA_eql_ptr (c:Cfg) (ty:TypeId) (y:AV) (k off:Nat):binA c ty .eql (AV.ptr k off) y=(eqRec c 20 ty (AV.ptr k off) y).map .bool:=by unfold binA;rfl
@[simp] theorem binA_neq_ptr (c:Cfg) (ty:TypeId) (y:AV) (k off:Nat):binA c ty .neq (AV.ptr k off) y=(eqRec c 20 ty (AV.ptr k off) y).map fun b=> .bool (!b):=by unfold binA;rfl
@[simp] theorem isCell_sptr (k n i off:Nat):(AV.sptr k n i off).isCell=true:=rfl
@[simp] theorem cells_sptr (k n i off:Nat):(AV.sptr k n i off).cells= [(AV.sptr k n i off)]:=rfl
@[simp] theorem lend_sptr (bs:List Box) (k n i off:Nat):lend bs (AV.sptr k n i off)=some (AV.sptr k n i off):=rfl
@[simp] theorem binA_eql_sptr (c:Cfg) (ty:TypeId) (y:AV) (k n i off:Nat):binA c ty .eql (AV.sptr k n i off) y=(eqRec c 20 ty (AV.sptr k n i off) y).map .bool:=by unfold binA;rfl
@[simp] theorem binA_neq_sptr (c:Cfg) (ty:TypeId) (y:AV) (k n i off:Nat):binA c ty .neq (AV.sptr k n i off) y=(eqRec c 20 ty (AV.sptr k n i off) y).map fun b=> .bool (!b):=by unfold binA;rfl
@[simp] theorem isCell_eptr (cs:List AV):(AV.eptr cs).isCell=true:=rfl
@[simp] theorem cells_eptr (cs:List AV):(AV.eptr cs).cells= [(AV.eptr cs)]:=rfl
@[simp] theorem lend_eptr (bs:List Box) (cs:List AV):lend bs (AV.eptr cs)=some (AV.eptr cs):=rfl
@[simp] theorem binA_eql_eptr (c:Cfg) (ty:TypeId) (y:AV) (cs:List AV):binA c ty .eql (AV.eptr cs) y=(eqRec c 20 ty (AV.eptr cs) y).map .bool:=by unfold binA;rfl
@[simp] theorem binA_neq_eptr (c:Cfg) (ty:TypeId) (y:AV) (cs:List AV):binA c ty .neq (AV.eptr cs) y=(eqRec c 20 ty (AV.eptr cs) y).map fun b=> .bool (!b):=by unfold binA;rfl
@[simp] theorem isCell_lst (nl:Option Bool) (sz:Nat) (es:List AV):(AV.lst nl sz es).isCell=true:=rfl
@[simp] theorem cells_lst (nl:Option Bool) (sz:Nat) (es:List AV):(AV.lst nl sz es).cells= [(AV.lst nl sz es)]:=rfl
@[simp] theorem lend_lst (bs:List Box) (nl:Option Bool) (sz:Nat) (es:List AV):lend bs (AV.lst nl sz es)=some (AV.lst nl sz es):=rfl
@[simp] theorem binA_eql_lst (c:Cfg) (ty:TypeId) (y:AV) (nl:Option Bool) (sz:Nat) (es:List AV):binA c ty .eql (AV.lst nl sz es) y=(eqRec c 20 ty (AV.lst nl sz es) y).map .bool:=by unfold binA;rfl
@[simp] theorem binA_neq_lst (c:Cfg) (ty:TypeId) (y:AV) (nl:Option Bool) (sz:Nat) (es:List AV):binA c ty .neq (AV.lst nl sz es) y=(eqRec c 20 ty (AV.lst nl sz es) y).map fun b=> .bool (!b):=by unfold binA;rfl
@[simp] theorem isCell_cap0 (nl:Option Bool):(AV.cap0 nl).isCell=true:=rfl
@[simp] theorem cells_cap0 (nl:Option Bool):(AV.cap0 nl).cells= [(AV.cap0 nl)]:=rfl
@[simp] theorem lend_cap0 (bs:List Box) (nl:Option Bool):lend bs (AV.cap0 nl)=some (AV.cap0 nl):=rfl
@[simp] theorem binA_eql_cap0 (c:Cfg) (ty:TypeId) (y:AV) (nl:Option Bool):binA c ty .eql (AV.cap0 nl) y=(eqRec c 20 ty (AV.cap0 nl) y).map .bool:=by unfold binA;rfl
@[simp] theorem binA_neq_cap0 (c:Cfg) (ty:TypeId) (y:AV) (nl:Option Bool):binA c ty .neq (AV.cap0 nl) y=(eqRec c 20 ty (AV.cap0 nl) y).map fun b=> .bool (!b):=by unfold binA;rfl
@[simp] theorem isCell_osl (k n:Nat):(AV.osl k n).isCell=true:=rfl
@[simp] theorem cells_osl (k n:Nat):(AV.osl k n).cells= [(AV.osl k n)]:=rfl
@[simp] theorem binA_eql_osl (c:Cfg) (ty:TypeId) (y:AV) (k n:Nat):binA c ty .eql (AV.osl k n) y=(eqRec c 20 ty (AV.osl k n) y).map .bool:=by unfold binA;rfl
@[simp] theorem binA_neq_osl (c:Cfg) (ty:TypeId) (y:AV) (k n:Nat):binA c ty .neq (AV.osl k n) y=(eqRec c 20 ty (AV.osl k n) y).map fun b=> .bool (!b):=by unfold binA;rfl
@[simp] theorem isCell_fn (f:FuncId) (first caps:List AV):(AV.fn f first caps).isCell=true:=rfl
@[simp] theorem cells_fn (f:FuncId) (first caps:List AV):(AV.fn f first caps).cells= [(AV.fn f first caps)]:=rfl
@[simp] theorem lend_fn (bs:List Box) (f:FuncId) (first caps:List AV):lend bs (AV.fn f first caps)=some (AV.fn f first caps):=rfl
@[simp] theorem binA_eql_fn (c:Cfg) (ty:TypeId) (y:AV) (f:FuncId) (first caps:List AV):binA c ty .eql (AV.fn f first caps) y=(eqRec c 20 ty (AV.fn f first caps) y).map .bool:=by unfold binA;rfl
@[simp] theorem binA_neq_fn (c:Cfg) (ty:TypeId) (y:AV) (f:FuncId) (first caps:List AV):binA c ty .neq (AV.fn f first caps) y=(eqRec c 20 ty (AV.fn f first caps) y).map fun b=> .bool (!b):=by unfold binA;rfl
@[simp] theorem isCell_nilf  :(AV.nilf).isCell=true:=rfl
@[simp] theorem cells_nilf  :(AV.nilf).cells= [(AV.nilf)]:=rfl
@[simp] theorem lend_nilf (bs:List Box)  :lend bs (AV.nilf)=some (AV.nilf):=rfl
@[simp] theorem binA_eql_nilf (c:Cfg) (ty:TypeId) (y:AV)  :binA c ty .eql (AV.nilf) y=(eqRec c 20 ty (AV.nilf) y).map .bool:=by unfold binA;rfl
@[simp] theorem binA_neq_nilf (c:Cfg) (ty:TypeId) (y:AV)  :binA c ty .neq (AV.nilf) y=(eqRec c 20 ty (AV.nilf) y).map fun b=> .bool (!b):=by unfold binA;rfl
@[simp] theorem isCell_ifc (b:Bool):(AV.ifc b).isCell=true:=rfl
@[simp] theorem isCell_ifi (t:TypeId) (k:IntKind) (n:Int):(AV.ifi t k n).isCell=true:=rfl
@[simp] theorem cells_ifc (b:Bool):(AV.ifc b).cells= [(AV.ifc b)]:=rfl
@[simp] theorem cells_ifi (t:TypeId) (k:IntKind) (n:Int):(AV.ifi t k n).cells= [(AV.ifi t k n)]:=rfl
@[simp] theorem lend_ifc (bs:List Box) (b:Bool):lend bs (AV.ifc b)=some (AV.ifc b):=rfl
@[simp] theorem lend_ifi (bs:List Box) (t:TypeId) (k:IntKind) (n:Int):lend bs (AV.ifi t k n)=some (AV.ifi t k n):=rfl
@[simp] theorem isCell_yld (k:Nat) (s:Site) (env:List AV):(AV.yld k s env).isCell=true:=rfl
@[simp] theorem cells_yld (k:Nat) (s:Site) (env:List AV):(AV.yld k s env).cells= [AV.yld k s env]:=rfl
@[simp] theorem lend_yld (bs:List Box) (k:Nat) (s:Site) (env:List AV):lend bs (AV.yld k s env)=some (AV.yld k s env):=rfl
@[simp] theorem lend_osl (bs:List Box) (k n:Nat):lend bs (.osl k n)=match Box.at bs k with | .sl _ sz es=>if n=es.length then some (.lst .none sz es) else .none | _=> .none:=rfl
@[simp] theorem binA_int (c:Cfg) (ty:TypeId) (op:BinOp) (k k':IntKind) (a b:Int):binA c ty op (.int k a) (.int k' b)=match op with | .shl=>shiftOp .shl k a b | .shr=>shiftOp .shr k a b | op=>if k=k' then intOp op k a b else none:=rfl
@[simp] theorem binA_str (c:Cfg) (ty:TypeId) (op:BinOp) (a b:List UInt8):binA c ty op (.str a) (.str b)=strOp op a b:=rfl
@[simp] theorem unA_neg (k:IntKind) (n:Int):unA .neg (.int k n)=intOp .sub k 0 n:=rfl
@[simp] theorem unA_xor (k:IntKind) (n:Int):unA .xor (.int k n)=intOp .xor k (if k.signed then -1 else k.max) n:=rfl
@[simp] theorem unA_not (b:Bool):unA .not (.bool b)=some (.bool (!b)):=rfl
@[simp] theorem toInt1_int (k k':IntKind) (n:Int):toInt1 k (.int k' n)=some (.int k (k.wrap n)):=rfl
@[simp] theorem lenS1_str (s:List UInt8):lenS1 (.str s)=some (.int .i64 s.length):=rfl
@[simp] theorem sliceS_str (s:List UInt8) (lo hi:Option AV):sliceS (.str s) lo hi=match boundA hi s.length s.length with | some h=>(match boundA lo 0 h with | some l=>some (.str ((s.take h).drop l)) | none=>none) | none=>none:=rfl
@[simp] theorem soft_any  :(AV.any).soft=(AV.any):=rfl
@[simp] theorem soft1_any  :(AV.any).soft1=(AV.any):=rfl
@[simp] theorem soft_unk  :(AV.unk).soft=(AV.unk):=rfl
@[simp] theorem soft1_unk  :(AV.unk).soft1=(AV.unk):=rfl
@[simp] theorem soft_int (k:IntKind) (n:Int):(AV.int k n).soft=(AV.int k n):=rfl
@[simp] theorem soft1_int (k:IntKind) (n:Int):(AV.int k n).soft1=(AV.int k n):=rfl
@[simp] theorem soft_bool (b:Bool):(AV.bool b).soft=(AV.bool b):=rfl
@[simp] theorem soft1_bool (b:Bool):(AV.bool b).soft1=(AV.bool b):=rfl
@[simp] theorem soft_str (s:List UInt8):(AV.str s).soft=(AV.str s):=rfl
@[simp] theorem soft1_str (s:List UInt8):(AV.str s).soft1=(AV.str s):=rfl
@[simp] theorem soft_tup (vs:List AV):(AV.tup vs).soft=(AV.tup vs):=rfl
@[simp] theorem soft1_tup (vs:List AV):(AV.tup vs).soft1=(AV.tup vs):=rfl
@[simp] theorem soft_nilp  :(AV.nilp).soft=(AV.nilp):=rfl
@[simp] theorem soft1_nilp  :(AV.nilp).soft1=(AV.nilp):=rfl
@[simp] theorem soft_ptr (k off:Nat):(AV.ptr k off).soft=(AV.ptr k off):=rfl
@[simp] theorem soft1_ptr (k off:Nat):(AV.ptr k off).soft1=(AV.ptr k off):=rfl
@[simp] theorem soft_sptr (k n i off:Nat):(AV.sptr k n i off).soft=(AV.sptr k n i off):=rfl
@[simp] theorem soft1_sptr (k n i off:Nat):(AV.sptr k n i off).soft1=(AV.sptr k n i off):=rfl
@[simp] theorem soft_eptr (cs:List AV):(AV.eptr cs).soft=(AV.eptr cs):=rfl
@[simp] theorem soft1_eptr (cs:List AV):(AV.eptr cs).soft1=(AV.eptr cs):=rfl
@[simp] theorem soft_lst (nl:Option Bool) (sz:Nat) (es:List AV):(AV.lst nl sz es).soft=(AV.lst nl sz es):=rfl
@[simp] theorem soft1_lst (nl:Option Bool) (sz:Nat) (es:List AV):(AV.lst nl sz es).soft1=(AV.lst nl sz es):=rfl
@[simp] theorem soft_osl (k n:Nat):(AV.osl k n).soft=(AV.osl k n):=rfl
@[simp] theorem soft1_osl (k n:Nat):(AV.osl k n).soft1=(AV.osl k n):=rfl
@[simp] theorem soft_osv (k n lo hi:Nat):(AV.osv k n lo hi).soft=(AV.osv k n lo hi):=rfl
@[simp] theorem soft1_osv (k n lo hi:Nat):(AV.osv k n lo hi).soft1=(AV.osv k n lo hi):=rfl
@[simp] theorem soft_fn (f:FuncId) (a b:List AV):(AV.fn f a b).soft=(AV.fn f a b):=rfl
@[simp] theorem soft1_fn (f:FuncId) (a b:List AV):(AV.fn f a b).soft1=(AV.fn f a b):=rfl
@[simp] theorem soft_nilf  :(AV.nilf).soft=(AV.nilf):=rfl
@[simp] theorem soft1_nilf  :(AV.nilf).soft1=(AV.nilf):=rfl
@[simp] theorem soft_ifc (b:Bool):(AV.ifc b).soft=(AV.ifc b):=rfl
@[simp] theorem soft_ifi (t:TypeId) (k:IntKind) (n:Int):(AV.ifi t k n).soft=(AV.ifi t k n):=rfl
@[simp] theorem soft1_ifc (b:Bool):(AV.ifc b).soft1=(AV.ifc b):=rfl
@[simp] theorem soft1_ifi (t:TypeId) (k:IntKind) (n:Int):(AV.ifi t k n).soft1=(AV.ifi t k n):=rfl
@[simp] theorem soft_yld (k:Nat) (s:Site) (env:List AV):(AV.yld k s env).soft=(AV.yld k s env):=rfl
@[simp] theorem soft1_yld (k:Nat) (s:Site) (env:List AV):(AV.yld k s env).soft1=(AV.yld k s env):=rfl
@[simp] theorem soft_mapv (k:Nat):(AV.mapv k).soft=(AV.mapv k):=rfl
@[simp] theorem soft1_mapv (k:Nat):(AV.mapv k).soft1=(AV.mapv k):=rfl
@[simp] theorem soft_itv (k:Nat):(AV.itv k).soft=(AV.itv k):=rfl
@[simp] theorem soft1_itv (k:Nat):(AV.itv k).soft1=(AV.itv k):=rfl
@[simp] theorem soft_nilm  :(AV.nilm).soft=(AV.nilm):=rfl
@[simp] theorem soft1_nilm  :(AV.nilm).soft1=(AV.nilm):=rfl
@[simp] theorem soft_agg (cs:List AV):(AV.agg cs).soft= .agg (cs.map AV.soft1):=rfl
@[simp] theorem soft_cap0 (nl:Option Bool):(AV.cap0 nl).soft= .lst nl 0 []:=rfl
@[simp] theorem soft1_agg (cs:List AV):(AV.agg cs).soft1= .agg cs:=rfl
@[simp] theorem soft1_cap0 (nl:Option Bool):(AV.cap0 nl).soft1= .lst nl 0 []:=rfl
@[simp] theorem soft_byte (c:UInt8):(ofByte c).soft=ofByte c:=rfl
end Go.Am
namespace Go.Am
theorem wrap_i64 {x:Int} (h1: -9223372036854775808≤x) (h2:x<9223372036854775808):IntKind.i64.wrap x=x:=by
 have e:IntKind.i64.wrap x=if x%18446744073709551616≥9223372036854775808 then x%18446744073709551616-18446744073709551616 else x%18446744073709551616:=by
  simp [IntKind.wrap,IntKind.bits,IntKind.signed]
 rw [e];split <;> omega
theorem wrap_u8 {x:Int} (h1:0≤x) (h2:x<256):IntKind.u8.wrap x=x:=by
 simp only [IntKind.wrap,IntKind.bits,IntKind.signed,Bool.false_and]
 rw [if_neg (by simp)];omega
theorem wrap_u64 {x:Int} (h1:0≤x) (h2:x<18446744073709551616):IntKind.u64.wrap x=x:=by
 simp only [IntKind.wrap,IntKind.bits,IntKind.signed,Bool.false_and]
 rw [if_neg (by simp)];omega
theorem wrap_u32 {x:Int} (h1:0≤x) (h2:x<4294967296):IntKind.u32.wrap x=x:=by
 simp only [IntKind.wrap,IntKind.bits,IntKind.signed,Bool.false_and]
 rw [if_neg (by simp)];omega
theorem wrap_i32 {x:Int} (h1: -2147483648≤x) (h2:x<2147483648):IntKind.i32.wrap x=x:=by
 have e:IntKind.i32.wrap x=if x%4294967296≥2147483648 then x%4294967296-4294967296 else x%4294967296:=by
  simp [IntKind.wrap,IntKind.bits,IntKind.signed]
 rw [e];split <;> omega
theorem tmod_nat (i n:Nat):Int.tmod (i:Int) (n:Int)=((i%n:Nat):Int):=(Int.ofNat_tmod i n).symm
theorem tdiv_nat (i n:Nat):Int.tdiv (i:Int) (n:Int)=((i / n:Nat):Int):=(Int.ofNat_tdiv i n).symm
@[simp] theorem tmod_lit (i n:Nat):Int.tmod (i:Int) (no_index (OfNat.ofNat n):Int)=((i%n:Nat):Int):=(Int.ofNat_tmod i n).symm
@[simp] theorem tdiv_lit (i n:Nat):Int.tdiv (i:Int) (no_index (OfNat.ofNat n):Int)=((i / n:Nat):Int):=(Int.ofNat_tdiv i n).symm
@[simp] theorem emod_ge (i n:Nat):0≤(i:Int)%(no_index (OfNat.ofNat n):Int):=Int.natCast_nonneg (i%n)
@[simp] theorem emod_lt (i n:Nat):(i:Int)%(no_index (OfNat.ofNat (n+1)):Int)<(no_index (OfNat.ofNat (n+1)):Int):=by
 have h:((i%(n+1):Nat):Int)<((n+1:Nat):Int):=Int.ofNat_lt.2 (Nat.mod_lt i (Nat.succ_pos n))
 exact h
@[simp] theorem toNat_emod (i n:Nat):((i:Int)%(no_index (OfNat.ofNat n):Int)).toNat=i%n:=Int.toNat_natCast (i%n)
@[simp] theorem ediv_ge (i n:Nat):0≤(i:Int) / (no_index (OfNat.ofNat n):Int):=Int.natCast_nonneg (i / n)
@[simp] theorem toNat_ediv (i n:Nat):((i:Int) / (no_index (OfNat.ofNat n):Int)).toNat=i / n:=Int.toNat_natCast (i / n)
theorem splice_one {cs:List AV} {k:Nat} {v:AV} (h:k<cs.length):splice cs k [v]=cs.set k v:=by
 unfold splice
 simp only [List.length_singleton]
 induction cs generalizing k with
 | nil=>simp at h
 | cons a l ih=>
  cases k with
  | zero=>simp
  | succ k=>
   simp only [List.take_succ_cons,List.drop_succ_cons,List.cons_append,List.set_cons_succ]
   rw [ih (by simpa using h)]
theorem splice_all {cs v:List AV} (h:v.length=cs.length):splice cs 0 v=v:=by
 unfold splice;simp [h]
theorem le_strLim {n:Nat} (h:n≤1000000000000):n≤strLim:=by unfold strLim;omega
theorem le_sliceLim {n:Nat} (h:n≤1000000000000):n≤sliceLim:=by unfold sliceLim;omega
theorem le_buildLim {n:Nat} (h:n≤10000000):n≤buildLim:=by unfold buildLim;omega
theorem le_sliceLimI {n:Int} (h:n≤1000000000000):n≤(sliceLim:Int):=by unfold sliceLim;omega
section
variable (bs l:List Box) (j:Nat) (x:Box)
theorem at_app_l {k:Nat} (h:k<bs.length):Box.at (bs++l) k=Box.at bs k:=by
 simp only [Box.at,List.getD_eq_getElem?_getD,List.getElem?_append_left h]
@[simp] theorem at_app_r:Box.at (bs++l) (bs.length+j)=Box.at l j:=by
 simp only [Box.at,List.getD_eq_getElem?_getD,List.getElem?_append_right (Nat.le_add_right _ _),Nat.add_sub_cancel_left]
@[simp] theorem at_app_r0:Box.at (bs++l) bs.length=Box.at l 0:=at_app_r bs l 0
@[simp] theorem get_app_r:(bs++l)[bs.length+j]?=l[j]?:=by
 rw [List.getElem?_append_right (Nat.le_add_right _ _),Nat.add_sub_cancel_left]
@[simp] theorem get_app_r0:(bs++l)[bs.length]?=l[0]?:=get_app_r bs l 0
@[simp] theorem set_app_r:(bs++l).set (bs.length+j) x=bs++l.set j x:=by
 rw [List.set_append_right _ _ (Nat.le_add_right _ _),Nat.add_sub_cancel_left]
@[simp] theorem set_app_r0:(bs++l).set bs.length x=bs++l.set 0 x:=set_app_r bs l 0 x
end
def linkUnder (m:Nat) (sh:Hd):Bool:=
 match sh.link with
 | some (_,_,k,_)=>decide (k<m)
 | none=>true
@[simp] theorem linkUnder_none (m:Nat) (o:Bool) (t:Option TypeId):linkUnder m ⟨o,t,none⟩=true:=rfl
@[simp] theorem forgetHd_none (n:Nat) (o:Bool) (t:Option TypeId):forgetHd n ⟨o,t,none⟩=⟨o,t,none⟩:=rfl
theorem linkUnder_le {m n:Nat} (h:m≤n) {sh:Hd} (hl:linkUnder m sh=true):linkUnder n sh=true:=by
 unfold linkUnder at*
 split
 ·rename_i hs;rw [hs] at hl;simp only [decide_eq_true_eq] at hl⊢;omega
 ·rfl
theorem forgetHd_under {n:Nat} {sh:Hd} (hl:linkUnder n sh=true):forgetHd n sh=sh:=by
 unfold linkUnder at hl
 unfold forgetHd
 split
 ·rename_i hs;rw [hs] at hl;simp only [decide_eq_true_eq] at hl;rw [if_pos hl]
 ·rfl
def mpUnder (m:Nat):List (AV×AV×Nat)→Bool
 | []=>true
 | e::r=>e.2.1.under m&&mpUnder m r
@[simp] theorem mpUnder_nil (m:Nat):mpUnder m []=true:=rfl
theorem mpUnder_map {α:Type} {f:α→AV×AV×Nat} {m:Nat} (h: ∀x,(f x).2.1.under m=true): ∀l:List α,mpUnder m (l.map f)=true
 | []=>rfl
 | a::l=>by simp only [List.map_cons,mpUnder,h,mpUnder_map h l,Bool.and_true]
theorem mpUnder_app {m:Nat}: ∀a b:List (AV×AV×Nat),mpUnder m (a++b)=(mpUnder m a&&mpUnder m b)
 | [],b=>by simp [mpUnder]
 | e::a,b=>by simp only [List.cons_append,mpUnder,mpUnder_app a b,Bool.and_assoc]
def shut (m:Nat):List Box→Bool
 | []=>true
 | .var _ cs::r=>underAll m cs&&shut m r
 | .mp es _::r=>mpUnder m es&&shut m r
 | .sl sh _ _::r=>linkUnder m sh&&shut m r
 | _::r=>shut m r
mutual
theorem under_le {m n:Nat} (h:m≤n): ∀(v:AV),v.under m=true→v.under n=true
 | .ptr k _,hu=>by simp only [AV.under,decide_eq_true_eq] at hu⊢;omega
 | .sptr k _ _ _,hu=>by simp only [AV.under,decide_eq_true_eq] at hu⊢;omega
 | .osl k _,hu=>by simp only [AV.under,decide_eq_true_eq] at hu⊢;omega
 | .osv k _ _ _,hu=>by simp only [AV.under,decide_eq_true_eq] at hu⊢;omega
 | .mapv k,hu=>by simp only [AV.under,decide_eq_true_eq] at hu⊢;omega
 | .itv k,hu=>by simp only [AV.under,decide_eq_true_eq] at hu⊢;omega
 | .nilm,_=>rfl
 | .agg cs,hu=>by simp only [AV.under] at hu⊢;exact underAll_le h cs hu
 | .tup cs,hu=>by simp only [AV.under] at hu⊢;exact underAll_le h cs hu
 | .fn f a b,hu=>by
  simp only [AV.under,Bool.and_eq_true] at hu⊢
  exact ⟨underAll_le h a hu.1,underAll_le h b hu.2⟩
 | .any,_=>rfl
 | .unk,_=>rfl
 | .int _ _,_=>rfl
 | .bool _,_=>rfl
 | .str _,_=>rfl
 | .nilp,_=>rfl
 | .eptr _,_=>rfl
 | .lst _ _ _,_=>rfl
 | .cap0 _,_=>rfl
 | .nilf,_=>rfl
 | .ifc _,_=>rfl
 | .ifi _ _ _,_=>rfl
 | .yld k _ env,hu=>by
  simp only [AV.under,Bool.and_eq_true,decide_eq_true_eq] at hu⊢
  exact ⟨by omega,underAll_le h env hu.2⟩
theorem underAll_le {m n:Nat} (h:m≤n): ∀(l:List AV),underAll m l=true→underAll n l=true
 | [],_=>rfl
 | v::r,hu=>by
  simp only [underAll,Bool.and_eq_true] at hu⊢
  exact ⟨under_le h v hu.1,underAll_le h r hu.2⟩
end
theorem forget_under {n:Nat}: ∀{l:List AV},underAll n l=true→l.map (forget n)=l
 | [],_=>rfl
 | v::r,h=>by
  simp only [underAll,Bool.and_eq_true] at h
  simp only [List.map_cons,forget,h.1,forget_under h.2]
theorem mpUnder_le {m n:Nat} (h:m≤n): ∀(l:List (AV×AV×Nat)),mpUnder m l=true→mpUnder n l=true
 | [],_=>rfl
 | e::r,hu=>by
  simp only [mpUnder,Bool.and_eq_true] at hu⊢
  exact ⟨under_le h _ hu.1,mpUnder_le h r hu.2⟩
theorem mpUnder_forget {n:Nat}: ∀{l:List (AV×AV×Nat)},mpUnder n l=true→l.map (forgetVal n)=l
 | [],_=>rfl
 | e::r,h=>by
  simp only [mpUnder,Bool.and_eq_true] at h
  simp only [List.map_cons,forgetVal,forget,h.1,mpUnder_forget h.2]
theorem shut_map {m n:Nat} (hn:m≤n): ∀{bs:List Box},shut m bs=true→bs.map (forgetBox n)=bs
 | [],_=>rfl
 | .var ty cs::r,h=>by
  simp only [shut,Bool.and_eq_true] at h
  simp only [List.map_cons,forgetBox,forget_under (underAll_le hn cs h.1),shut_map hn h.2]
 | .sl sh sz es::r,h=>by
  simp only [shut,Bool.and_eq_true] at h
  simp only [List.map_cons,forgetBox,forgetHd_under (linkUnder_le hn h.1),shut_map hn h.2]
 | .dead::r,h=>by simp only [List.map_cons,forgetBox,shut_map hn (by simpa [shut] using h)]
 | .loop st::r,h=>by simp only [List.map_cons,forgetBox,shut_map hn (by simpa [shut] using h)]
 | .mp es clock::r,h=>by
  simp only [shut,Bool.and_eq_true] at h
  simp only [List.map_cons,forgetBox,mpUnder_forget (mpUnder_le hn es h.1),shut_map hn h.2]
 | .gone::r,h=>by simp only [List.map_cons,forgetBox,shut_map hn (by simpa [shut] using h)]
 | .iter o::r,h=>by simp only [List.map_cons,forgetBox,shut_map hn (by simpa [shut] using h)]
theorem shut_app (n:Nat): ∀(l m:List Box),shut n (l++m)=(shut n l&&shut n m)
 | [],m=>rfl
 | .var ty cs::l,m=>by simp only [List.cons_append,shut,shut_app n l m,Bool.and_assoc]
 | .sl _ _ _::l,m=>by simp only [List.cons_append,shut,shut_app n l m,Bool.and_assoc]
 | .dead::l,m=>by simp only [List.cons_append,shut,shut_app n l m]
 | .loop _::l,m=>by simp only [List.cons_append,shut,shut_app n l m]
 | .mp _ _::l,m=>by simp only [List.cons_append,shut,shut_app n l m,Bool.and_assoc]
 | .gone::l,m=>by simp only [List.cons_append,shut,shut_app n l m]
 | .iter _::l,m=>by simp only [List.cons_append,shut,shut_app n l m]
theorem shut_le {m n:Nat} (h:m≤n): ∀{bs:List Box},shut m bs=true→shut n bs=true
 | [],_=>rfl
 | .var ty cs::l,hs=>by
  simp only [shut,Bool.and_eq_true] at hs⊢
  exact ⟨underAll_le h cs hs.1,shut_le h hs.2⟩
 | .sl _ _ _::l,hs=>by
  simp only [shut,Bool.and_eq_true] at hs⊢
  exact ⟨linkUnder_le h hs.1,shut_le h hs.2⟩
 | .dead::l,hs=>by simp only [shut] at hs⊢;exact shut_le h hs
 | .loop _::l,hs=>by simp only [shut] at hs⊢;exact shut_le h hs
 | .mp es _::l,hs=>by
  simp only [shut,Bool.and_eq_true] at hs⊢
  exact ⟨mpUnder_le h es hs.1,shut_le h hs.2⟩
 | .gone::l,hs=>by simp only [shut] at hs⊢;exact shut_le h hs
 | .iter _::l,hs=>by simp only [shut] at hs⊢;exact shut_le h hs
def Bare (J:List Box):Prop:= ∀n,shut n J=true
theorem Bare.app {J K:List Box} (h:Bare J) (k:Bare K):Bare (J++K):=fun n=>by rw [shut_app,h n,k n];rfl
theorem shut_set1 {n:Nat}: ∀{bs:List Box} (k:Nat) {x:Box},shut n bs=true→shut n [x]=true→shut n (bs.set k x)=true
 | [],_,_,_,_=>rfl
 | b::r,0,x,h,hx=>by
  cases x <;> cases b <;> simp_all [shut]
 | b::r,k+1,x,h,hx=>by
  have:=fun (h:shut n r=true)=>shut_set1 (bs:=r) k h hx
  cases b <;> simp_all [shut]
theorem Bare.set {J:List Box} (h:Bare J) (k:Nat) {x:Box} (hx:Bare [x]):Bare (J.set k x):=fun n=>shut_set1 k (h n) (hx n)
def w64 (x:BitVec 64):AV:= .int .u64 (x.toNat:Int)
theorem w64_lt (x:BitVec 64):(x.toNat:Int)<18446744073709551616:=by have:=x.isLt;omega
theorem wrap_w64 (x:BitVec 64):IntKind.u64.wrap (x.toNat:Int)=(x.toNat:Int):=wrap_u64 (Int.natCast_nonneg _) (w64_lt x)
theorem ofInt_w64 (x:BitVec 64):BitVec.ofInt 64 (x.toNat:Int)=x:=by simp
section
variable (c:Cfg) (ty:TypeId) (x y:BitVec 64)
@[simp] theorem w64_xor:binA c ty .xor (w64 x) (w64 y)=some (w64 (x^^^y)):=by
 show some (AV.int .u64 (IntKind.u64.wrap ((BitVec.ofInt 64 (x.toNat:Int)^^^BitVec.ofInt 64 (y.toNat:Int)).toNat:Int)))=_
 rw [ofInt_w64,ofInt_w64,wrap_w64];rfl
@[simp] theorem w64_and:binA c ty .and (w64 x) (w64 y)=some (w64 (x&&&y)):=by
 show some (AV.int .u64 (IntKind.u64.wrap ((BitVec.ofInt 64 (x.toNat:Int)&&&BitVec.ofInt 64 (y.toNat:Int)).toNat:Int)))=_
 rw [ofInt_w64,ofInt_w64,wrap_w64];rfl
@[simp] theorem w64_or:binA c ty .or (w64 x) (w64 y)=some (w64 (x ||| y)):=by
 show some (AV.int .u64 (IntKind.u64.wrap ((BitVec.ofInt 64 (x.toNat:Int) ||| BitVec.ofInt 64 (y.toNat:Int)).toNat:Int)))=_
 rw [ofInt_w64,ofInt_w64,wrap_w64];rfl
@[simp] theorem w64_not:unA .xor (w64 x)=some (w64 (~~~ x)):=by
 have h:BitVec.ofInt 64 (18446744073709551615:Int)=BitVec.allOnes 64:=by decide
 show some (AV.int .u64 (IntKind.u64.wrap ((BitVec.ofInt 64 (18446744073709551615:Int)^^^BitVec.ofInt 64 (x.toNat:Int)).toNat:Int)))=_
 rw [h,ofInt_w64,BitVec.allOnes_xor,wrap_w64];rfl
theorem w64_shl {k:IntKind} {n:Nat} (hn:n≤64):binA c ty .shl (w64 x) (.int k (n:Int))=some (w64 (x <<< n)):=by
 simp only [w64,binA,shiftOp,IntKind.bits,Int.toNat_natCast]
 rw [if_neg (by omega),Nat.min_eq_left hn]
 congr 2
 simp only [IntKind.wrap,IntKind.bits,IntKind.signed,Bool.false_and,Bool.false_eq_true,if_false,BitVec.toNat_shiftLeft,Nat.shiftLeft_eq]
 norm_cast
theorem w64_shr {k:IntKind} {n:Nat} (hn:n≤64):binA c ty .shr (w64 x) (.int k (n:Int))=some (w64 (x >>> n)):=by
 simp only [w64,binA,shiftOp,IntKind.bits,Int.toNat_natCast]
 rw [if_neg (by omega),Nat.min_eq_left hn]
 congr 2
 simp only [BitVec.toNat_ushiftRight,Nat.shiftRight_eq_div_pow]
 rw [Int.fdiv_eq_ediv_of_nonneg _ (by have : (0 : Int) < 2 ^ n := Int.pow_pos (by decide)
                                      omega)]
 norm_cast
@[simp] theorem w64_plain:(w64 x).plain=true:=rfl
@[simp] theorem w64_flat:(w64 x).flat=true:=rfl
@[simp] theorem w64_isCell:(w64 x).isCell=true:=rfl
@[simp] theorem w64_cells:(w64 x).cells= [w64 x]:=rfl
@[simp] theorem w64_under (n:Nat):(w64 x).under n=true:=rfl
@[simp] theorem w64_hand (n:Nat) (bs:List Box):(w64 x).hand n bs=some (w64 x):=rfl
@[simp] theorem w64_lend (bs:List Box):lend bs (w64 x)=some (w64 x):=rfl
end
section
variable {α:Type} {f:α→AV}
theorem plainAll_map (h: ∀x,(f x).plain=true): ∀l:List α,plainAll (l.map f)=true
 | []=>rfl
 | a::l=>by simp only [List.map_cons,plainAll,h,plainAll_map h l,Bool.and_self]
theorem flatAll_map (h: ∀x,(f x).flat=true): ∀l:List α,flatAll (l.map f)=true
 | []=>rfl
 | a::l=>by simp only [List.map_cons,flatAll,h,flatAll_map h l,Bool.and_self]
theorem underAll_map {n:Nat} (h: ∀x,(f x).under n=true): ∀l:List α,underAll n (l.map f)=true
 | []=>rfl
 | a::l=>by simp only [List.map_cons,underAll,h,underAll_map h l,Bool.and_self]
theorem cellsOk_map (h: ∀x,(f x).isCell=true): ∀l:List α,cellsOk (l.map f)=true
 | []=>rfl
 | a::l=>by simp only [List.map_cons,cellsOk,h,cellsOk_map h l,Bool.and_self]
theorem handAll_map {n:Nat} {bs:List Box} (h: ∀x,(f x).hand n bs=some (f x)): ∀l:List α,handAll n bs (l.map f)=some (l.map f)
 | []=>rfl
 | a::l=>by simp only [List.map_cons,handAll,h,handAll_map h l]
theorem forget_map {n:Nat} (h: ∀x,(f x).under n=true): ∀l:List α,(l.map f).map (forget n)=l.map f
 | []=>rfl
 | a::l=>by simp only [List.map_cons,forget,h];rw [forget_map h l]
end
section
variable (l:List (BitVec 64))
@[simp] theorem plainAll_w64:plainAll (l.map w64)=true:=plainAll_map w64_plain l
@[simp] theorem flatAll_w64:flatAll (l.map w64)=true:=flatAll_map w64_flat l
@[simp] theorem underAll_w64 (n:Nat):underAll n (l.map w64)=true:=underAll_map (fun x=>w64_under x n) l
@[simp] theorem cellsOk_w64:cellsOk (l.map w64)=true:=cellsOk_map w64_isCell l
@[simp] theorem handAll_w64 (n:Nat) (bs:List Box):handAll n bs (l.map w64)=some (l.map w64):=handAll_map (fun x=>w64_hand x n bs) l
@[simp] theorem forget_w64 (n:Nat):(l.map w64).map (forget n)=l.map w64:=forget_map (fun x=>w64_under x n) l
end
@[simp] theorem forget_comp_w64 (n:Nat):forget n∘w64=w64:=rfl
theorem get_w64 {a:List (BitVec 64)} {i:Nat} (h:i<a.length):a[i]?=some (a.getD i 0#64):=by
 simp [List.getD_eq_getElem?_getD,List.getElem?_eq_getElem h]
theorem splice_w64 {a:List (BitVec 64)} {i:Nat} {x:BitVec 64} (h:i<a.length):splice (a.map w64) i [w64 x]=(a.set i x).map w64:=by
 rw [splice_one (by simpa using h),List.map_set]
theorem take_eq {α:Type} {l:List α} {n:Nat} (h:l.length=n):l.take n=l:=by subst h;simp
theorem take_w64 {a:List (BitVec 64)} {n:Nat} (h:a.length=n):(a.map w64).take n=a.map w64:=take_eq (by simpa using h)
section
variable (c:Cfg) (ty:TypeId) (x y:UInt8)
@[simp] theorem ofByte_plain:(ofByte x).plain=true:=rfl
@[simp] theorem ofByte_flat:(ofByte x).flat=true:=rfl
@[simp] theorem ofByte_isCell:(ofByte x).isCell=true:=rfl
@[simp] theorem ofByte_cells:(ofByte x).cells= [ofByte x]:=rfl
@[simp] theorem ofByte_under (n:Nat):(ofByte x).under n=true:=rfl
@[simp] theorem ofByte_hand (n:Nat) (bs:List Box):(ofByte x).hand n bs=some (ofByte x):=rfl
@[simp] theorem ofByte_lend (bs:List Box):lend bs (ofByte x)=some (ofByte x):=rfl
@[simp] theorem byteOf_ofByte:byteOf (ofByte x)=some x:=by
 simp [ofByte,byteOf]
@[simp] theorem storeElem_ofByte:storeElem (ofByte x) 0 [ofByte y]=some (ofByte y):=rfl
theorem ofByte_or (n:Nat) (_hn:n<256):binA c ty .or (ofByte x) (.int .u8 (n:Int))=some (ofByte (x ||| UInt8.ofNat n)):=by
 show some (AV.int .u8 (IntKind.u8.wrap ((BitVec.ofInt 8 (x.toNat:Int) ||| BitVec.ofInt 8 (n:Int)).toNat:Int)))=_
 have h1:BitVec.ofInt 8 (x.toNat:Int)=x.toBitVec:=by
  apply BitVec.eq_of_toNat_eq
  simp
 have h2:BitVec.ofInt 8 (n:Int)=(UInt8.ofNat n).toBitVec:=by
  apply BitVec.eq_of_toNat_eq
  simp
 rw [h1,h2,←UInt8.toBitVec_or]
 have h3:=UInt8.toNat_lt (x ||| UInt8.ofNat n)
 rw [show ((x ||| UInt8.ofNat n).toBitVec.toNat)=(x ||| UInt8.ofNat n).toNat from rfl,wrap_u8 (by omega) (by omega)]
 rfl
end
section
variable (l:List UInt8)
@[simp] theorem plainAll_ofByte:plainAll (l.map ofByte)=true:=plainAll_map ofByte_plain l
@[simp] theorem flatAll_ofByte:flatAll (l.map ofByte)=true:=flatAll_map ofByte_flat l
@[simp] theorem cellsOk_ofByte:cellsOk (l.map ofByte)=true:=cellsOk_map ofByte_isCell l
@[simp] theorem forget_ofByte (n:Nat):(l.map ofByte).map (forget n)=l.map ofByte:=forget_map (fun x=>ofByte_under x n) l
@[simp] theorem bytesOf_ofByte:bytesOf (l.map ofByte)=some l:=by
 induction l with
 | nil=>rfl
 | cons a l ih=>simp only [List.map_cons,bytesOf,byteOf_ofByte,ih]
theorem get_str {d:List UInt8} {i:Nat} (h:i<d.length):d[i]?=some (d.getD i 0):=by
 simp [List.getD_eq_getElem?_getD,List.getElem?_eq_getElem h]
theorem set_ofByte (i:Nat) (x:UInt8):(l.map ofByte).set i (ofByte x)=(l.set i x).map ofByte:=by rw [List.map_set]
end
def i64n (n:Nat):AV:= .int .i64 (n:Int)
section
variable (x:Nat)
@[simp] theorem i64n_plain:(i64n x).plain=true:=rfl
@[simp] theorem i64n_flat:(i64n x).flat=true:=rfl
@[simp] theorem i64n_isCell:(i64n x).isCell=true:=rfl
@[simp] theorem i64n_cells:(i64n x).cells= [i64n x]:=rfl
@[simp] theorem i64n_under (n:Nat):(i64n x).under n=true:=rfl
@[simp] theorem i64n_hand (n:Nat) (bs:List Box):(i64n x).hand n bs=some (i64n x):=rfl
@[simp] theorem i64n_lend (bs:List Box):lend bs (i64n x)=some (i64n x):=rfl
end
section
variable (l:List Nat)
@[simp] theorem plainAll_i64n:plainAll (l.map i64n)=true:=plainAll_map (fun _=>rfl) l
@[simp] theorem flatAll_i64n:flatAll (l.map i64n)=true:=flatAll_map (fun _=>rfl) l
@[simp] theorem underAll_i64n (n:Nat):underAll n (l.map i64n)=true:=underAll_map (fun _=>rfl) l
@[simp] theorem cellsOk_i64n:cellsOk (l.map i64n)=true:=cellsOk_map (fun _=>rfl) l
@[simp] theorem handAll_i64n (n:Nat) (bs:List Box):handAll n bs (l.map i64n)=some (l.map i64n):=handAll_map (fun _=>rfl) l
@[simp] theorem forget_i64n (n:Nat):(l.map i64n).map (forget n)=l.map i64n:=forget_map (fun _=>rfl) l
end
end Go.Am
namespace Go.Am
section
variable {a b:Int}
theorem omLe (h:a≤b):(a≤b)=True:=eq_true h
theorem omLeN (h: ¬ a≤b):(a≤b)=False:=eq_false h
theorem omLt (h:a<b):(a<b)=True:=eq_true h
theorem omLtN (h: ¬ a<b):(a<b)=False:=eq_false h
theorem omEq (h:a=b):(a=b)=True:=eq_true h
theorem omEqN (h: ¬ a=b):(a=b)=False:=eq_false h
end
section
variable {a b:Nat}
theorem onLe (h:a≤b):(a≤b)=True:=eq_true h
theorem onLeN (h: ¬ a≤b):(a≤b)=False:=eq_false h
theorem onLt (h:a<b):(a<b)=True:=eq_true h
theorem onLtN (h: ¬ a<b):(a<b)=False:=eq_false h
theorem onEq (h:a=b):(a=b)=True:=eq_true h
theorem onEqN (h: ¬ a=b):(a=b)=False:=eq_false h
end
theorem om:(∀{a b:Int},a≤b→(a≤b)=True)∧(∀{a b:Int},¬ a≤b→(a≤b)=False)∧(∀{a b:Int},a<b→(a<b)=True)∧(∀{a b:Int},¬ a<b→(a<b)=False)∧(∀{a b:Int},a=b→(a=b)=True)∧(∀{a b:Int},¬ a=b→(a=b)=False)∧
  (∀{a b:Nat},a≤b→(a≤b)=True)∧(∀{a b:Nat},¬ a≤b→(a≤b)=False)∧(∀{a b:Nat},a<b→(a<b)=True)∧(∀{a b:Nat},¬ a<b→(a<b)=False)∧(∀{a b:Nat},a=b→(a=b)=True)∧(∀{a b:Nat},¬ a=b→(a=b)=False)∧
  (∀{x:Int},-9223372036854775808≤x→x<9223372036854775808→IntKind.i64.wrap x=x)∧(∀{n:Nat},n≤1000000000000→n≤strLim)∧(∀{n:Nat},n≤1000000000000→n≤sliceLim)∧(∀{n:Nat},n≤10000000→n≤buildLim)∧(∀{n:Int},n≤1000000000000→n≤(sliceLim:Int)):=
 ⟨omLe,omLeN,omLt,omLtN,omEq,omEqN,onLe,onLeN,onLt,onLtN,onEq,onEqN,wrap_i64,le_strLim,le_sliceLim,le_buildLim,le_sliceLimI⟩
theorem byte_fold (c:UInt8):AV.int .u8 (c.toNat:Int)=ofByte c:=rfl
theorem bytesN_ofByte: ∀l:List UInt8,bytesN (l.map ofByte)=some l
 | []=>rfl
 | a::l=>by
  have h:=a.toNat_lt
  have h2:=bytesN_ofByte l
  simp only [List.map_cons,ofByte,bytesN]
  rw [if_pos (by omega)]
  rw [h2]
  simp
end Go.Am
