/-
 Rules for proofs over the plainer form: 'simp' runs it; loops go by an invariant. Numbers, words and lists of the machine. Rules for 'simp' that ask its discharger (omega) whether a comparison of numbers is true or false; bytes of strings.
-/
import Derived.Test.YtfnkchadeaedlaaGreatDoorAmIr6
set_option linter.all false
namespace Go.Am
theorem Wp.bw {c:ax} {k:List Nat} {x:IR} {Q:cy} {α:Type} (m:α→Nat) (V:α→List (Option AV)) (B:α→List ab) (P:α→Prop)
  (step: ∀a,P a→Wp c x (fun e v' b'=>match e with
   | .normal=> ∃a',P a'∧m a'<m a∧jL k (pR k (B a).length v' b')=V a'∧pS k (B a).length v' b'=B a'
   | e=>Q e v' b') (V a) (B a)) (a:α) (hp:P a) {v:List (Option AV)} (hv:jL k v=V a) {b:List ab} (hb:b=B a):Wp c (.loop k x) Q v b:=by
 subst hb
 have: ∀(n:Nat) (a:α),m a<n→P a→ ∀v,jL k v=V a→nC (Wp c x) k Q n v (B a):=by
  intro n
  induction n with
  | zero=>intro a h;omega
  | succ n ih=>
   intro a hn hp v hv;show Wp c x _ (jL k v) (B a);rw [hv];refine Wp.mono x (fun e v' b' hq=> ?_) _ _ (step a hp);cases e with
   | normal=>obtain ⟨a',h1,h2,h3,h4⟩:=hq;simp only;rw [h4];exact ih a' (by omega) h1 _ h3
   | ret=>exact hq
   | exit i=>exact hq
 exact ⟨m a+1,this (m a+1) a (by omega) hp v hv⟩
theorem Wp.qN {c:ax} {x:Nat} {s:Site} {Q:cy} {v:List (Option AV)} {b:List ab} {f:FuncId} {caps:List AV} (hx:kA v x=some (.fn f [] caps)) (he:c.ext f=none) {r:AV} {b':List ab} {st:Mj} {e:Ex}
  (ha:ar c f (.fB b.length s (v.map (·.getD .any))::caps) (b++ [.loop .ready])=some (r,b')) (hb:ab.at b' b.length= .loop st) (hst:st=sA e) (hQ:Q e (yE b.length v b') (ec b.length b')):Wp c (.qN x s) Q v b:=by
 have ha':mC c (.fn f) (.fB b.length s (v.map (·.getD .any))::caps) (b++ [.loop .ready])=some (r,b'):=ha;simp only [Wp,JC,yr,hx,he,ha',JA,hb,hst];cases e <;> exact hQ
theorem Wp.zh {c:ax} {x k n i m clock:Nat} {its:List It} {seen:List Nat} {es:List (AV×AV×Nat)} {Q:cy} {v:List (Option AV)} {b:List ab} (hx:kA v x=some (.kq i)) (hi:ab.at b i= .iter (.map m seen clock)) (hm:ab.at b m= .mp es clock)
  (h0:(∀e∈es,seen.contains e.2.2=true)→nW (bh c (mC c) b.length [] its (v.set k (some (.aO [.bool false]))) (b++List.replicate n .dead)) Q)
  (h1: ∀e∈es,seen.contains e.2.2=false→nW (bh c (mC c) b.length [] its (v.set k (some (.aO [.bool true,e.1,e.2.1]))) (b.set i (.iter (.map m (seen++ [e.2.2]) clock))++List.replicate n .dead)) Q):Wp c (.zh x k n its) Q v b:=
 ⟨i,m,clock,seen,es,hx,hi,hm,h0,h1⟩
section
variable {c:ax} {Q:cy} {v:List (Option AV)} {b:List ab}
@[simp] theorem Sv:Wp c .skip Q v b=Q .normal v b:=rfl
@[simp] theorem Tk:Wp c .ret Q v b=Q .ret v b:=rfl
@[simp] theorem QC:Wp c .stuck Q v b=False:=rfl
@[simp] theorem Tl (l:List pV):Wp c (.own l) Q v b=Q .normal (gU l v b).1 (gU l v b).2:=rfl
@[simp] theorem Sw (i:Nat):Wp c (.exit i) Q v b=Q (.exit i) v b:=rfl
@[simp] theorem Mx (x y:IR):Wp c (.seq x y) Q v b=Wp c x (Aw (Wp c y) Q) v b:=rfl
@[simp] theorem QD (i:Nat) (x:IR):Wp c (.block i x) Q v b=Wp c x (fun e v b=>Q (leave i e) v b) v b:=rfl
@[simp] theorem Tm (l:List (Nat×List Nat×List It)):Wp c (.alt l) Q v b=(l≠ []∧ ∀x∈l,nW (bh c (mC c) b.length x.2.1 x.2.2 v (b++List.replicate x.1 .dead)) Q):=rfl
@[simp] theorem Tn (n:Nat) (kl:List Nat) (its:List It):Wp c (.al n kl its) Q v b=nW (bh c (mC c) b.length kl its v (b++List.replicate n .dead)) Q:=rfl
@[simp] theorem Sx (x:Nat) (p q:IR):Wp c (.cond x p q) Q v b=xb (kA v x) (Wp c p Q (v.set x none) b) (Wp c q Q (v.set x none) b):=rfl
@[simp] theorem JI (W:cy→List (Option AV)→List ab→Prop):Aw W Q .normal v b=W Q v b:=rfl
@[simp] theorem Og (W:cy→List (Option AV)→List ab→Prop):Aw W Q .ret v b=Q .ret v b:=rfl
@[simp] theorem My (W:cy→List (Option AV)→List ab→Prop) (i:Nat):Aw W Q (.exit i) v b=Q (.exit i) v b:=rfl
@[simp] theorem Oh:nW (some (v,b)) Q=Q .normal v b:=rfl
@[simp] theorem Oi:nW none Q=False:=rfl
@[simp] theorem Mz (x:Bool) (p q:Prop):xb (some (.bool x)) p q=if x=true then p else q:=by cases x <;> simp [xb]
@[simp] theorem JJ (i:Nat):leave i .normal= .normal:=rfl
@[simp] theorem Oj (i:Nat):leave i .ret= .ret:=rfl
@[simp] theorem MA (i j:Nat):leave i (.exit j)=if j=i then .normal else .exit j:=rfl
@[simp] theorem KV (own:Bool) (res:List IM) (n:Nat) (r:AV×List ab):Ax c own res n r .normal v b=(Fx c own res n v b=some r):=rfl
@[simp] theorem QE (own:Bool) (res:List IM) (n:Nat) (r:AV×List ab):Ax c own res n r .ret v b=(Fx c own res n v b=some r):=rfl
@[simp] theorem Ol (p q:Bool):Fp (some (.bool p)) (some (.bool q))=some (.bool (p&&q)):=by cases p <;> rfl
@[simp] theorem QF (p q:Bool):Of (some (.bool p)) (some (.bool q))=some (.bool (p || q)):=by cases p <;> rfl
@[simp] theorem Om (x:Option AV):Fp (some (.bool true)) x=x:=rfl
@[simp] theorem MB (x:Option AV):Fp (some (.bool false)) x=some (.bool false):=rfl
@[simp] theorem QG (x:Option AV):Of (some (.bool true)) x=some (.bool true):=rfl
@[simp] theorem On (x:Option AV):Of (some (.bool false)) x=x:=rfl
@[simp] theorem Uc (a:AV) (f:AV→Option AV):D9 (some a) f=f a:=rfl
@[simp] theorem Ud (a d:AV) (f:AV→AV→Option AV):Jp (some a) (some d) f=f a d:=rfl
@[simp] theorem Ue (a d e:AV) (f:AV→AV→AV→Option AV):Qy (some a) (some d) (some e) f=f a d e:=rfl
@[simp] theorem To (a:AV):ri (some (a,.none))=some a:=rfl
end
attribute [simp] eQ pK yh iU AV.isNil gU Fw Hp bh nV bq dj uC sx sv Fq Eb Ea cp Af eZ wH E3 E2 yd Qz look dG cK lp Mo Fx Hr kG Jz Hq ec yE pR pS rB sy gV jL gT aR ev fK iQ Tr.get cQ.on asks ua kr kZ wF oK iT ma mb dQ linked GX iC oJ dR se gi ud dD iS qW k9 uc gC eB fL ub GW ea oI gv ez tZ ye partOf elems gB iR dn jC cJ qX isZero qV sc ku yf yg bH k7 eqFields eqItems both ei AV.plain ai AV.flat flatAll l9 oc pH wG dd aN cP k8 aI zH AV.hand jD AV.under aw forget bA eC ed hZ bytesOf byteOf j5 zF zG E4 E5 dE oL AV.Mk AV.differ ej jB AV.apart ey
attribute [simp] List.getElem?_cons_zero
@[simp] theorem Oo (ty a:Nat) (v:Value):qZ (.store ty (.tmp a) (.const v))= [a]:=rfl
@[simp] theorem Oq (ty a b:Nat):qZ (.store ty (.tmp a) (.tmp b))= [a,b]:=rfl
@[simp] theorem Ot (ty a f:Nat):qZ (.store ty (.tmp a) (.func f))= [a]:=rfl
@[simp] theorem IN (cs:List AV) (off:Nat) (v:List AV):cF (.agg cs) off v=if off+v.length≤cs.length∧ai v=true then some (.agg (af cs off v)) else .none:=rfl
@[simp] theorem IP (k:IntKind) (n:Int) (k':IntKind) (n':Int):cF (.int k n) 0 [.int k' n']=some (.int k' n'):=rfl
@[simp] theorem IQ (a b:List UInt8):cF (.str a) 0 [.str b]=some (.str b):=rfl
@[simp] theorem Hy (a b:Bool):cF (.bool a) 0 [.bool b]=some (.bool b):=rfl
@[simp] theorem Ou (a:Option AV) (l:List (Option AV)):kA (a::l) 0=a:=rfl
@[simp] theorem Ov (a:Option AV) (l:List (Option AV)) (n:Nat):kA (a::l) (n+1)=kA l n:=rfl
@[simp] theorem Sy (a:ab) (l:List ab):ab.at (a::l) 0=a:=rfl
@[simp] theorem Sz (a:ab) (l:List ab) (n:Nat):ab.at (a::l) (n+1)=ab.at l n:=rfl
@[simp] theorem Tp (n:Nat):ab.at [] n= .dead:=by simp [ab.at]
@[simp] theorem MC  :(AV.any).bT=false:=rfl
@[simp] theorem Ow  :(AV.any).cells= [(AV.any)]:=rfl
@[simp] theorem QH (bs:List ab)  :eA bs (AV.any)=some (AV.any):=rfl
@[simp] theorem MD  :(AV.j4).bT=true:=rfl
@[simp] theorem Ox  :(AV.j4).cells= [(AV.j4)]:=rfl
@[simp] theorem QI (bs:List ab)  :eA bs (AV.j4)=some (AV.j4):=rfl
@[simp] theorem ME (k:IntKind) (n:Int):(AV.int k n).bT=true:=rfl
@[simp] theorem Oy (k:IntKind) (n:Int):(AV.int k n).cells= [(AV.int k n)]:=rfl
@[simp] theorem QJ (bs:List ab) (k:IntKind) (n:Int):eA bs (AV.int k n)=some (AV.int k n):=rfl
@[simp] theorem KW (b:Bool):(AV.bool b).bT=true:=rfl
@[simp] theorem MF (b:Bool):(AV.bool b).cells= [(AV.bool b)]:=rfl
@[simp] theorem Oz (bs:List ab) (b:Bool):eA bs (AV.bool b)=some (AV.bool b):=rfl
@[simp] theorem IS (c:ax) (ty:TypeId) (y:AV) (b:Bool):ju c ty .eql (AV.bool b) y=(bH c 20 ty (AV.bool b) y).map .bool:=by unfold ju;rfl
@[simp] theorem MG (s:List UInt8):(AV.str s).bT=true:=rfl
@[simp] theorem OB (s:List UInt8):(AV.str s).cells= [(AV.str s)]:=rfl
@[simp] theorem QK (bs:List ab) (s:List UInt8):eA bs (AV.str s)=some (AV.str s):=rfl
@[simp] theorem MH (cs:List AV):(AV.agg cs).bT=false:=rfl
@[simp] theorem OC (cs:List AV):(AV.agg cs).cells=cs:=rfl
@[simp] theorem MI  :(AV.any).leaves= [AV.any]:=rfl
@[simp] theorem MJ  :(AV.j4).leaves= [AV.j4]:=rfl
@[simp] theorem MK (k:IntKind) (n:Int):(AV.int k n).leaves= [AV.int k n]:=rfl
@[simp] theorem KX (b:Bool):(AV.bool b).leaves= [AV.bool b]:=rfl
@[simp] theorem ML (s:List UInt8):(AV.str s).leaves= [AV.str s]:=rfl
@[simp] theorem MM (vs:List AV):(AV.aO vs).leaves= [AV.aO vs]:=rfl
@[simp] theorem KY  :(AV.bJ).leaves= [AV.bJ]:=rfl
@[simp] theorem MN (k off:Nat):(AV.ptr k off).leaves= [AV.ptr k off]:=rfl
@[simp] theorem KZ (k n i off:Nat):(AV.cg k n i off).leaves= [AV.cg k n i off]:=rfl
@[simp] theorem K0 (cs:List AV):(AV.cW cs).leaves= [AV.cW cs]:=rfl
@[simp] theorem MO (nl:Option Bool) (sz:Nat) (es:List AV):(AV.ah nl sz es).leaves= [AV.ah nl sz es]:=rfl
@[simp] theorem K4 (nl:Option Bool):(AV.bS nl).leaves= [AV.bS nl]:=rfl
@[simp] theorem MP (k n:Nat):(AV.az k n).leaves= [AV.az k n]:=rfl
@[simp] theorem OD (f:FuncId) (a b:List AV):(AV.fn f a b).leaves= [AV.fn f a b]:=rfl
@[simp] theorem K5  :(AV.dZ).leaves= [AV.dZ]:=rfl
@[simp] theorem MQ (b:Bool):(AV.fq b).leaves= [AV.fq b]:=rfl
@[simp] theorem MR (t:TypeId) (k:IntKind) (n:Int):(AV.kT t k n).leaves= [AV.kT t k n]:=rfl
@[simp] theorem MS (k:Nat) (s:Site) (env:List AV):(AV.fB k s env).leaves= [AV.fB k s env]:=rfl
@[simp] theorem QL (bs:List ab) (cs:List AV):eA bs (AV.agg cs)=if ai cs=true then some (AV.agg cs) else (dd bs cs).map .agg:=by simp only [eA];cases ai cs <;> rfl
@[simp] theorem MT (cs:List AV):(AV.agg cs).leaves=if ai cs=true then [] else aN cs:=by simp only [AV.leaves];cases ai cs <;> rfl
@[simp] theorem JK (c:ax) (ty:TypeId) (y:AV) (cs:List AV):ju c ty .eql (AV.agg cs) y=(bH c 20 ty (AV.agg cs) y).map .bool:=by unfold ju;rfl
@[simp] theorem JL (c:ax) (ty:TypeId) (y:AV) (cs:List AV):ju c ty .neq (AV.agg cs) y=(bH c 20 ty (AV.agg cs) y).map fun b=> .bool (!b):=by unfold ju;rfl
@[simp] theorem MU (vs:List AV):(AV.aO vs).bT=false:=rfl
@[simp] theorem OE (vs:List AV):(AV.aO vs).cells= [(AV.aO vs)]:=rfl
@[simp] theorem QM (bs:List ab) (vs:List AV):eA bs (AV.aO vs)=some (AV.aO vs):=rfl
@[simp] theorem JM (c:ax) (ty:TypeId) (y:AV) (vs:List AV):ju c ty .eql (AV.aO vs) y=(bH c 20 ty (AV.aO vs) y).map .bool:=by unfold ju;rfl
@[simp] theorem K6  :(AV.bJ).bT=true:=rfl
@[simp] theorem MV  :(AV.bJ).cells= [(AV.bJ)]:=rfl
@[simp] theorem OF (bs:List ab)  :eA bs (AV.bJ)=some (AV.bJ):=rfl
@[simp] theorem IT (c:ax) (ty:TypeId) (y:AV)  :ju c ty .eql (AV.bJ) y=(bH c 20 ty (AV.bJ) y).map .bool:=by unfold ju;rfl
@[simp] theorem IU (c:ax) (ty:TypeId) (y:AV)  :ju c ty .neq (AV.bJ) y=(bH c 20 ty (AV.bJ) y).map fun b=> .bool (!b):=by unfold ju;rfl
@[simp] theorem MW (k off:Nat):(AV.ptr k off).bT=true:=rfl
@[simp] theorem OG (k off:Nat):(AV.ptr k off).cells= [(AV.ptr k off)]:=rfl
@[simp] theorem QN (bs:List ab) (k off:Nat):eA bs (AV.ptr k off)=some (AV.ptr k off):=rfl
@[simp] theorem JN (c:ax) (ty:TypeId) (y:AV) (k off:Nat):ju c ty .eql (AV.ptr k off) y=(bH c 20 ty (AV.ptr k off) y).map .bool:=by unfold ju;rfl
@[simp] theorem JO (c:ax) (ty:TypeId) (y:AV) (k off:Nat):ju c ty .neq (AV.ptr k off) y=(bH c 20 ty (AV.ptr k off) y).map fun b=> .bool (!b):=by unfold ju;rfl
@[simp] theorem K7 (k n i off:Nat):(AV.cg k n i off).bT=true:=rfl
@[simp] theorem MX (k n i off:Nat):(AV.cg k n i off).cells= [(AV.cg k n i off)]:=rfl
@[simp] theorem OH (bs:List ab) (k n i off:Nat):eA bs (AV.cg k n i off)=some (AV.cg k n i off):=rfl
@[simp] theorem K8 (cs:List AV):(AV.cW cs).bT=true:=rfl
@[simp] theorem MY (cs:List AV):(AV.cW cs).cells= [(AV.cW cs)]:=rfl
@[simp] theorem OI (bs:List ab) (cs:List AV):eA bs (AV.cW cs)=some (AV.cW cs):=rfl
@[simp] theorem MZ (nl:Option Bool) (sz:Nat) (es:List AV):(AV.ah nl sz es).bT=true:=rfl
@[simp] theorem OJ (nl:Option Bool) (sz:Nat) (es:List AV):(AV.ah nl sz es).cells= [(AV.ah nl sz es)]:=rfl
@[simp] theorem QO (bs:List ab) (nl:Option Bool) (sz:Nat) (es:List AV):eA bs (AV.ah nl sz es)=some (AV.ah nl sz es):=rfl
@[simp] theorem K9 (nl:Option Bool):(AV.bS nl).bT=true:=rfl
@[simp] theorem M4 (nl:Option Bool):(AV.bS nl).cells= [(AV.bS nl)]:=rfl
@[simp] theorem OK (bs:List ab) (nl:Option Bool):eA bs (AV.bS nl)=some (AV.bS nl):=rfl
@[simp] theorem M5 (k n:Nat):(AV.az k n).bT=true:=rfl
@[simp] theorem OL (k n:Nat):(AV.az k n).cells= [(AV.az k n)]:=rfl
@[simp] theorem OM (f:FuncId) (first caps:List AV):(AV.fn f first caps).bT=true:=rfl
@[simp] theorem QP (f:FuncId) (first caps:List AV):(AV.fn f first caps).cells= [(AV.fn f first caps)]:=rfl
@[simp] theorem SB (bs:List ab) (f:FuncId) (first caps:List AV):eA bs (AV.fn f first caps)=some (AV.fn f first caps):=rfl
@[simp] theorem La  :(AV.dZ).bT=true:=rfl
@[simp] theorem M6  :(AV.dZ).cells= [(AV.dZ)]:=rfl
@[simp] theorem ON (bs:List ab)  :eA bs (AV.dZ)=some (AV.dZ):=rfl
@[simp] theorem M7 (b:Bool):(AV.fq b).bT=true:=rfl
@[simp] theorem M8 (t:TypeId) (k:IntKind) (n:Int):(AV.kT t k n).bT=true:=rfl
@[simp] theorem OO (b:Bool):(AV.fq b).cells= [(AV.fq b)]:=rfl
@[simp] theorem OP (t:TypeId) (k:IntKind) (n:Int):(AV.kT t k n).cells= [(AV.kT t k n)]:=rfl
@[simp] theorem QQ (bs:List ab) (b:Bool):eA bs (AV.fq b)=some (AV.fq b):=rfl
@[simp] theorem QR (bs:List ab) (t:TypeId) (k:IntKind) (n:Int):eA bs (AV.kT t k n)=some (AV.kT t k n):=rfl
@[simp] theorem M9 (k:Nat) (s:Site) (env:List AV):(AV.fB k s env).bT=true:=rfl
@[simp] theorem OQ (k:Nat) (s:Site) (env:List AV):(AV.fB k s env).cells= [AV.fB k s env]:=rfl
@[simp] theorem QS (bs:List ab) (k:Nat) (s:Site) (env:List AV):eA bs (AV.fB k s env)=some (AV.fB k s env):=rfl
@[simp] theorem QT (bs:List ab) (k n:Nat):eA bs (.az k n)=match ab.at bs k with | .sl _ sz es=>if n=es.length then some (.ah .none sz es) else .none | _=> .none:=rfl
@[simp] theorem QU (c:ax) (ty:TypeId) (op:BinOp) (k k':IntKind) (a b:Int):ju c ty op (.int k a) (.int k' b)=match op with | .shl=>kZ .shl k a b | .shr=>kZ .shr k a b | op=>if k=k' then kr op k a b else none:=rfl
@[simp] theorem QV (c:ax) (ty:TypeId) (op:BinOp) (a b:List UInt8):ju c ty op (.str a) (.str b)=wF op a b:=rfl
@[simp] theorem SC (k:IntKind) (n:Int):Jc .neg (.int k n)=kr .sub k 0 n:=rfl
@[simp] theorem SD (k:IntKind) (n:Int):Jc .xor (.int k n)=kr .xor k (if k.signed then -1 else k.max) n:=rfl
@[simp] theorem SE (b:Bool):Jc .not (.bool b)=some (.bool (!b)):=rfl
@[simp] theorem Na (k k':IntKind) (n:Int):Cx k (.int k' n)=some (.int k (k.wrap n)):=rfl
@[simp] theorem OR (s:List UInt8):Hi (.str s)=some (.int .i64 s.length):=rfl
@[simp] theorem Nb (s:List UInt8) (lo hi:Option AV):oT (.str s) lo hi=match cJ hi s.length s.length with | some h=>(match cJ lo 0 h with | some l=>some (.str ((s.take h).drop l)) | none=>none) | none=>none:=rfl
@[simp] theorem QW  :(AV.any).soft=(AV.any):=rfl
@[simp] theorem OS  :(AV.any).df=(AV.any):=rfl
@[simp] theorem QX  :(AV.j4).soft=(AV.j4):=rfl
@[simp] theorem OT  :(AV.j4).df=(AV.j4):=rfl
@[simp] theorem QY (k:IntKind) (n:Int):(AV.int k n).soft=(AV.int k n):=rfl
@[simp] theorem OU (k:IntKind) (n:Int):(AV.int k n).df=(AV.int k n):=rfl
@[simp] theorem OV (b:Bool):(AV.bool b).soft=(AV.bool b):=rfl
@[simp] theorem Nc (b:Bool):(AV.bool b).df=(AV.bool b):=rfl
@[simp] theorem QZ (s:List UInt8):(AV.str s).soft=(AV.str s):=rfl
@[simp] theorem OW (s:List UInt8):(AV.str s).df=(AV.str s):=rfl
@[simp] theorem Q0 (vs:List AV):(AV.aO vs).soft=(AV.aO vs):=rfl
@[simp] theorem OX (vs:List AV):(AV.aO vs).df=(AV.aO vs):=rfl
@[simp] theorem OY  :(AV.bJ).soft=(AV.bJ):=rfl
@[simp] theorem Nf  :(AV.bJ).df=(AV.bJ):=rfl
@[simp] theorem Q1 (k off:Nat):(AV.ptr k off).soft=(AV.ptr k off):=rfl
@[simp] theorem OZ (k off:Nat):(AV.ptr k off).df=(AV.ptr k off):=rfl
@[simp] theorem O0 (k n i off:Nat):(AV.cg k n i off).soft=(AV.cg k n i off):=rfl
@[simp] theorem Ng (k n i off:Nat):(AV.cg k n i off).df=(AV.cg k n i off):=rfl
@[simp] theorem O1 (cs:List AV):(AV.cW cs).soft=(AV.cW cs):=rfl
@[simp] theorem Nh (cs:List AV):(AV.cW cs).df=(AV.cW cs):=rfl
@[simp] theorem Q2 (nl:Option Bool) (sz:Nat) (es:List AV):(AV.ah nl sz es).soft=(AV.ah nl sz es):=rfl
@[simp] theorem O2 (nl:Option Bool) (sz:Nat) (es:List AV):(AV.ah nl sz es).df=(AV.ah nl sz es):=rfl
@[simp] theorem Q3 (k n:Nat):(AV.az k n).soft=(AV.az k n):=rfl
@[simp] theorem O3 (k n:Nat):(AV.az k n).df=(AV.az k n):=rfl
@[simp] theorem Q4 (k n lo hi:Nat):(AV.fE k n lo hi).soft=(AV.fE k n lo hi):=rfl
@[simp] theorem O4 (k n lo hi:Nat):(AV.fE k n lo hi).df=(AV.fE k n lo hi):=rfl
@[simp] theorem SF (f:FuncId) (a b:List AV):(AV.fn f a b).soft=(AV.fn f a b):=rfl
@[simp] theorem Q5 (f:FuncId) (a b:List AV):(AV.fn f a b).df=(AV.fn f a b):=rfl
@[simp] theorem O5  :(AV.dZ).soft=(AV.dZ):=rfl
@[simp] theorem Ni  :(AV.dZ).df=(AV.dZ):=rfl
@[simp] theorem Q6 (b:Bool):(AV.fq b).soft=(AV.fq b):=rfl
@[simp] theorem Q7 (t:TypeId) (k:IntKind) (n:Int):(AV.kT t k n).soft=(AV.kT t k n):=rfl
@[simp] theorem O6 (b:Bool):(AV.fq b).df=(AV.fq b):=rfl
@[simp] theorem O7 (t:TypeId) (k:IntKind) (n:Int):(AV.kT t k n).df=(AV.kT t k n):=rfl
@[simp] theorem Q8 (k:Nat) (s:Site) (env:List AV):(AV.fB k s env).soft=(AV.fB k s env):=rfl
@[simp] theorem O8 (k:Nat) (s:Site) (env:List AV):(AV.fB k s env).df=(AV.fB k s env):=rfl
@[simp] theorem O9 (k:Nat):(AV.cw k).soft=(AV.cw k):=rfl
@[simp] theorem Nj (k:Nat):(AV.cw k).df=(AV.cw k):=rfl
@[simp] theorem Q9 (k:Nat):(AV.kq k).soft=(AV.kq k):=rfl
@[simp] theorem Pa (k:Nat):(AV.kq k).df=(AV.kq k):=rfl
@[simp] theorem Pb  :(AV.gR).soft=(AV.gR):=rfl
@[simp] theorem Nk  :(AV.gR).df=(AV.gR):=rfl
@[simp] theorem Ra (cs:List AV):(AV.agg cs).soft= .agg (cs.map AV.df):=rfl
@[simp] theorem Pc (nl:Option Bool):(AV.bS nl).soft= .ah nl 0 []:=rfl
@[simp] theorem Pd (cs:List AV):(AV.agg cs).df= .agg cs:=rfl
@[simp] theorem Nl (nl:Option Bool):(AV.bS nl).df= .ah nl 0 []:=rfl
@[simp] theorem Pe (c:UInt8):(aj c).soft=aj c:=rfl
end Go.Am
namespace Go.Am
theorem wrap_i64 {x:Int} (h1: -9223372036854775808≤x) (h2:x<9223372036854775808):IntKind.i64.wrap x=x:=by
 have e:IntKind.i64.wrap x=if x%18446744073709551616≥9223372036854775808 then x%18446744073709551616-18446744073709551616 else x%18446744073709551616:=by simp [IntKind.wrap,IntKind.bits,IntKind.signed]
 rw [e];split <;> omega
theorem wrap_u8 {x:Int} (h1:0≤x) (h2:x<256):IntKind.u8.wrap x=x:=by simp only [IntKind.wrap,IntKind.bits,IntKind.signed,Bool.false_and];rw [if_neg (by simp)];omega
@[simp] theorem SG (i n:Nat):0≤(i:Int)%(no_index (OfNat.ofNat n):Int):=Int.natCast_nonneg (i%n)
@[simp] theorem toNat_emod (i n:Nat):((i:Int)%(no_index (OfNat.ofNat n):Int)).toNat=i%n:=Int.toNat_natCast (i%n)
@[simp] theorem SH (i n:Nat):0≤(i:Int) / (no_index (OfNat.ofNat n):Int):=Int.natCast_nonneg (i / n)
@[simp] theorem Nn (i n:Nat):((i:Int) / (no_index (OfNat.ofNat n):Int)).toNat=i / n:=Int.toNat_natCast (i / n)
theorem nk {n:Nat} (h:n≤1000000000000):n≤tY:=by unfold tY;omega
theorem jz {n:Nat} (h:n≤1000000000000):n≤bK:=by unfold bK;omega
theorem jA {n:Nat} (h:n≤10000000):n≤l8:=by unfold l8;omega
theorem ig {n:Int} (h:n≤1000000000000):n≤(bK:Int):=by unfold bK;omega
section
variable (bs l:List ab) (j:Nat) (x:ab)
theorem eV {k:Nat} (h:k<bs.length):ab.at (bs++l) k=ab.at bs k:=by simp only [ab.at,List.getD_eq_getElem?_getD,List.getElem?_append_left h]
@[simp] theorem dX:ab.at (bs++l) (bs.length+j)=ab.at l j:=by simp only [ab.at,List.getD_eq_getElem?_getD,List.getElem?_append_right (Nat.le_add_right _ _),Nat.add_sub_cancel_left]
@[simp] theorem wA:ab.at (bs++l) bs.length=ab.at l 0:=dX bs l 0
@[simp] theorem dC:(bs++l)[bs.length+j]?=l[j]?:=by rw [List.getElem?_append_right (Nat.le_add_right _ _),Nat.add_sub_cancel_left]
@[simp] theorem No:(bs++l)[bs.length]?=l[0]?:=dC bs l 0
@[simp] theorem cB:(bs++l).set (bs.length+j) x=bs++l.set j x:=by rw [List.set_append_right _ _ (Nat.le_add_right _ _),Nat.add_sub_cancel_left]
@[simp] theorem tW:(bs++l).set bs.length x=bs++l.set 0 x:=cB bs l 0 x
end
def cC (m:Nat) (sh:Hd):Bool:=
 match sh.link with
 | some (_,_,k,_)=>decide (k<m)
 | none=>true
@[simp] theorem Hz (m:Nat) (o:Bool) (t:Option TypeId):cC m ⟨o,t,none⟩=true:=rfl
@[simp] theorem IV (n:Nat) (o:Bool) (t:Option TypeId):eC n ⟨o,t,none⟩=⟨o,t,none⟩:=rfl
theorem qi {m n:Nat} (h:m≤n) {sh:Hd} (hl:cC m sh=true):cC n sh=true:=by
 unfold cC at*
 split
 ·rename_i hs;rw [hs] at hl;simp only [decide_eq_true_eq] at hl⊢;omega
 ·rfl
theorem uW {n:Nat} {sh:Hd} (hl:cC n sh=true):eC n sh=sh:=by
 unfold cC at hl;unfold eC;split
 ·rename_i hs;rw [hs] at hl;simp only [decide_eq_true_eq] at hl;rw [if_pos hl]
 ·rfl
def dN (m:Nat):List (AV×AV×Nat)→Bool
 | []=>true
 | e::r=>e.2.1.under m&&dN m r
@[simp] theorem Lc (m:Nat):dN m []=true:=rfl
theorem sG {α:Type} {f:α→AV×AV×Nat} {m:Nat} (h: ∀x,(f x).2.1.under m=true): ∀l:List α,dN m (l.map f)=true
 | []=>rfl
 | a::l=>by simp only [List.map_cons,dN,h,sG h l,Bool.and_true]
def shut (m:Nat):List ab→Bool
 | []=>true
 | .var _ cs::r=>aw m cs&&shut m r
 | .mp es _::r=>dN m es&&shut m r
 | .sl sh _ _::r=>cC m sh&&shut m r
 | _::r=>shut m r
mutual
theorem AJ {m n:Nat} (h:m≤n): ∀(v:AV),v.under m=true→v.under n=true
 | .ptr k _,hu=>by simp only [AV.under,decide_eq_true_eq] at hu⊢;omega
 | .cg k _ _ _,hu=>by simp only [AV.under,decide_eq_true_eq] at hu⊢;omega
 | .az k _,hu=>by simp only [AV.under,decide_eq_true_eq] at hu⊢;omega
 | .fE k _ _ _,hu=>by simp only [AV.under,decide_eq_true_eq] at hu⊢;omega
 | .cw k,hu=>by simp only [AV.under,decide_eq_true_eq] at hu⊢;omega
 | .kq k,hu=>by simp only [AV.under,decide_eq_true_eq] at hu⊢;omega
 | .gR,_=>rfl
 | .agg cs,hu=>by simp only [AV.under] at hu⊢;exact dL h cs hu
 | .aO cs,hu=>by simp only [AV.under] at hu⊢;exact dL h cs hu
 | .fn f a b,hu=>by
  simp only [AV.under,Bool.and_eq_true] at hu⊢;exact ⟨dL h a hu.1,dL h b hu.2⟩
 | .any,_=>rfl
 | .j4,_=>rfl
 | .int _ _,_=>rfl
 | .bool _,_=>rfl
 | .str _,_=>rfl
 | .bJ,_=>rfl
 | .cW _,_=>rfl
 | .ah _ _ _,_=>rfl
 | .bS _,_=>rfl
 | .dZ,_=>rfl
 | .fq _,_=>rfl
 | .kT _ _ _,_=>rfl
 | .fB k _ env,hu=>by
  simp only [AV.under,Bool.and_eq_true,decide_eq_true_eq] at hu⊢;exact ⟨by omega,dL h env hu.2⟩
theorem dL {m n:Nat} (h:m≤n): ∀(l:List AV),aw m l=true→aw n l=true
 | [],_=>rfl
 | v::r,hu=>by
  simp only [aw,Bool.and_eq_true] at hu⊢;exact ⟨AJ h v hu.1,dL h r hu.2⟩
end
theorem qj {n:Nat}: ∀{l:List AV},aw n l=true→l.map (forget n)=l
 | [],_=>rfl
 | v::r,h=>by
  simp only [aw,Bool.and_eq_true] at h;simp only [List.map_cons,forget,h.1,qj h.2]
theorem o8 {m n:Nat} (h:m≤n): ∀(l:List (AV×AV×Nat)),dN m l=true→dN n l=true
 | [],_=>rfl
 | e::r,hu=>by
  simp only [dN,Bool.and_eq_true] at hu⊢;exact ⟨AJ h _ hu.1,o8 h r hu.2⟩
theorem mE {n:Nat}: ∀{l:List (AV×AV×Nat)},dN n l=true→l.map (ed n)=l
 | [],_=>rfl
 | e::r,h=>by
  simp only [dN,Bool.and_eq_true] at h;simp only [List.map_cons,ed,forget,h.1,mE h.2]
theorem shut_map {m n:Nat} (hn:m≤n): ∀{bs:List ab},shut m bs=true→bs.map (bA n)=bs
 | [],_=>rfl
 | .var ty cs::r,h=>by
  simp only [shut,Bool.and_eq_true] at h;simp only [List.map_cons,bA,qj (dL hn cs h.1),shut_map hn h.2]
 | .sl sh sz es::r,h=>by
  simp only [shut,Bool.and_eq_true] at h;simp only [List.map_cons,bA,uW (qi hn h.1),shut_map hn h.2]
 | .dead::r,h=>by simp only [List.map_cons,bA,shut_map hn (by simpa [shut] using h)]
 | .loop st::r,h=>by simp only [List.map_cons,bA,shut_map hn (by simpa [shut] using h)]
 | .mp es clock::r,h=>by
  simp only [shut,Bool.and_eq_true] at h;simp only [List.map_cons,bA,mE (o8 hn es h.1),shut_map hn h.2]
 | .gone::r,h=>by simp only [List.map_cons,bA,shut_map hn (by simpa [shut] using h)]
 | .iter o::r,h=>by simp only [List.map_cons,bA,shut_map hn (by simpa [shut] using h)]
theorem dY (n:Nat): ∀(l m:List ab),shut n (l++m)=(shut n l&&shut n m)
 | [],m=>rfl
 | .var ty cs::l,m=>by simp only [List.cons_append,shut,dY n l m,Bool.and_assoc]
 | .sl _ _ _::l,m=>by simp only [List.cons_append,shut,dY n l m,Bool.and_assoc]
 | .dead::l,m=>by simp only [List.cons_append,shut,dY n l m]
 | .loop _::l,m=>by simp only [List.cons_append,shut,dY n l m]
 | .mp _ _::l,m=>by simp only [List.cons_append,shut,dY n l m,Bool.and_assoc]
 | .gone::l,m=>by simp only [List.cons_append,shut,dY n l m]
 | .iter _::l,m=>by simp only [List.cons_append,shut,dY n l m]
theorem ie {m n:Nat} (h:m≤n): ∀{bs:List ab},shut m bs=true→shut n bs=true
 | [],_=>rfl
 | .var ty cs::l,hs=>by
  simp only [shut,Bool.and_eq_true] at hs⊢;exact ⟨dL h cs hs.1,ie h hs.2⟩
 | .sl _ _ _::l,hs=>by
  simp only [shut,Bool.and_eq_true] at hs⊢;exact ⟨qi h hs.1,ie h hs.2⟩
 | .dead::l,hs=>by simp only [shut] at hs⊢;exact ie h hs
 | .loop _::l,hs=>by simp only [shut] at hs⊢;exact ie h hs
 | .mp es _::l,hs=>by
  simp only [shut,Bool.and_eq_true] at hs⊢;exact ⟨o8 h es hs.1,ie h hs.2⟩
 | .gone::l,hs=>by simp only [shut] at hs⊢;exact ie h hs
 | .iter _::l,hs=>by simp only [shut] at hs⊢;exact ie h hs
def nU (J:List ab):Prop:= ∀n,shut n J=true
theorem nU.app {J K:List ab} (h:nU J) (k:nU K):nU (J++K):=fun n=>by rw [dY,h n,k n];rfl
theorem xg {n:Nat}: ∀{bs:List ab} (k:Nat) {x:ab},shut n bs=true→shut n [x]=true→shut n (bs.set k x)=true
 | [],_,_,_,_=>rfl
 | b::r,0,x,h,hx=>by
  cases x <;> cases b <;> simp_all [shut]
 | b::r,k+1,x,h,hx=>by
  have:=fun (h:shut n r=true)=>xg (bs:=r) k h hx;cases b <;> simp_all [shut]
theorem nU.set {J:List ab} (h:nU J) (k:Nat) {x:ab} (hx:nU [x]):nU (J.set k x):=fun n=>xg k (h n) (hx n)
def zg (x:BitVec 64):AV:= .int .u64 (x.toNat:Int)
section
variable (c:ax) (ty:TypeId) (x y:BitVec 64)
@[simp] theorem Pf:(zg x).plain=true:=rfl
@[simp] theorem Rb:(zg x).flat=true:=rfl
@[simp] theorem Np:(zg x).bT=true:=rfl
@[simp] theorem Pg:(zg x).cells= [zg x]:=rfl
@[simp] theorem Ph (n:Nat):(zg x).under n=true:=rfl
@[simp] theorem Rc (n:Nat) (bs:List ab):(zg x).hand n bs=some (zg x):=rfl
@[simp] theorem Re (bs:List ab):eA bs (zg x)=some (zg x):=rfl
end
section
variable {α:Type} {f:α→AV}
theorem eK (h: ∀x,(f x).plain=true): ∀l:List α,ai (l.map f)=true
 | []=>rfl
 | a::l=>by simp only [List.map_cons,ai,h,eK h l,Bool.and_self]
end
section
variable (l:List (BitVec 64))
end
@[simp] theorem Gu (n:Nat):forget n∘zg=zg:=rfl
section
variable (c:ax) (ty:TypeId) (x y:UInt8)
@[simp] theorem JP:(aj x).plain=true:=rfl
@[simp] theorem Ld:(aj x).flat=true:=rfl
@[simp] theorem IW:(aj x).bT=true:=rfl
@[simp] theorem JQ:(aj x).cells= [aj x]:=rfl
@[simp] theorem JR (n:Nat):(aj x).under n=true:=rfl
@[simp] theorem Lf (n:Nat) (bs:List ab):(aj x).hand n bs=some (aj x):=rfl
@[simp] theorem Lg (bs:List ab):eA bs (aj x)=some (aj x):=rfl
@[simp] theorem vU:byteOf (aj x)=some x:=by simp [aj,byteOf]
@[simp] theorem FD:cF (aj x) 0 [aj y]=some (aj y):=rfl
end
section
variable (l:List UInt8)
@[simp] theorem HA:bytesOf (l.map aj)=some l:=by
 induction l with
 | nil=>rfl
 | cons a l ih=>simp only [List.map_cons,bytesOf,vU,ih]
theorem nF {d:List UInt8} {i:Nat} (h:i<d.length):d[i]?=some (d.getD i 0):=by simp [List.getD_eq_getElem?_getD,List.getElem?_eq_getElem h]
end
def vV (n:Nat):AV:= .int .i64 (n:Int)
section
variable (x:Nat)
@[simp] theorem Nq:(vV x).plain=true:=rfl
@[simp] theorem Pj:(vV x).flat=true:=rfl
@[simp] theorem Lh:(vV x).bT=true:=rfl
@[simp] theorem Nr:(vV x).cells= [vV x]:=rfl
@[simp] theorem Ns (n:Nat):(vV x).under n=true:=rfl
@[simp] theorem Pk (n:Nat) (bs:List ab):(vV x).hand n bs=some (vV x):=rfl
@[simp] theorem Pl (bs:List ab):eA bs (vV x)=some (vV x):=rfl
end
section
variable (l:List Nat)
end
end Go.Am
namespace Go.Am
section
variable {a b:Int}
theorem Tq (h:a≤b):(a≤b)=True:=eq_true h
theorem Rf (h: ¬ a≤b):(a≤b)=False:=eq_false h
theorem Ts (h:a<b):(a<b)=True:=eq_true h
theorem Rg (h: ¬ a<b):(a<b)=False:=eq_false h
theorem Tt (h:a=b):(a=b)=True:=eq_true h
theorem Rh (h: ¬ a=b):(a=b)=False:=eq_false h
end
section
variable {a b:Nat}
theorem Tu (h:a≤b):(a≤b)=True:=eq_true h
theorem Ri (h: ¬ a≤b):(a≤b)=False:=eq_false h
theorem Tv (h:a<b):(a<b)=True:=eq_true h
theorem Rj (h: ¬ a<b):(a<b)=False:=eq_false h
theorem Tw (h:a=b):(a=b)=True:=eq_true h
theorem Rk (h: ¬ a=b):(a=b)=False:=eq_false h
end
theorem om:(∀{a b:Int},a≤b→(a≤b)=True)∧(∀{a b:Int},¬ a≤b→(a≤b)=False)∧(∀{a b:Int},a<b→(a<b)=True)∧(∀{a b:Int},¬ a<b→(a<b)=False)∧(∀{a b:Int},a=b→(a=b)=True)∧(∀{a b:Int},¬ a=b→(a=b)=False)∧
  (∀{a b:Nat},a≤b→(a≤b)=True)∧(∀{a b:Nat},¬ a≤b→(a≤b)=False)∧(∀{a b:Nat},a<b→(a<b)=True)∧(∀{a b:Nat},¬ a<b→(a<b)=False)∧(∀{a b:Nat},a=b→(a=b)=True)∧(∀{a b:Nat},¬ a=b→(a=b)=False)∧
  (∀{x:Int},-9223372036854775808≤x→x<9223372036854775808→IntKind.i64.wrap x=x)∧(∀{n:Nat},n≤1000000000000→n≤tY)∧(∀{n:Nat},n≤1000000000000→n≤bK)∧(∀{n:Nat},n≤10000000→n≤l8)∧(∀{n:Int},n≤1000000000000→n≤(bK:Int)):=
 ⟨Tq,Rf,Ts,Rg,Tt,Rh,Tu,Ri,Tv,Rj,Tw,Rk,wrap_i64,nk,jz,jA,ig⟩
theorem rF (c:UInt8):AV.int .u8 (c.toNat:Int)=aj c:=rfl
theorem n9: ∀l:List UInt8,j5 (l.map aj)=some l
 | []=>rfl
 | a::l=>by
  have h:=a.toNat_lt;have h2:=n9 l;simp only [List.map_cons,aj,j5];rw [if_pos (by omega)];rw [h2];simp
end Go.Am
