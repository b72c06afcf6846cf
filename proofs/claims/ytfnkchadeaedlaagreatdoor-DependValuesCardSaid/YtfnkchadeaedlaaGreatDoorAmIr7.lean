/-
 Rules for proofs over the plainer form: 'simp' runs it; loops go by an invariant. Numbers, words and lists of the machine. Rules for 'simp' that ask its discharger (omega) whether a comparison of numbers is true or false; bytes of strings.
-/
import Derived.Test.YtfnkchadeaedlaaGreatDoorAmIr6
set_option linter.all false
namespace Go.Am
theorem Wp.aA {c:ax} {k:List Nat} {x:IR} {Q:cH} {α:Type} (m:α→Nat) (V:α→List (Option AV)) (B:α→List ad) (P:α→Prop)
  (step: ∀a,P a→Wp c x (fun e v' b'=>match e with
   | .normal=> ∃a',P a'∧m a'<m a∧jP k (qd k (B a).length v' b')=V a'∧qe k (B a).length v' b'=B a'
   | e=>Q e v' b') (V a) (B a)) (a:α) (hp:P a) {v:List (Option AV)} (hv:jP k v=V a) {b:List ad} (hb:b=B a):Wp c (.loop k x) Q v b:=by
 subst hb
 have: ∀(n:Nat) (a:α),m a<n→P a→ ∀v,jP k v=V a→nK (Wp c x) k Q n v (B a):=by
  intro n
  induction n with
  | zero=>intro a h;omega
  | succ n ih=>
   intro a hn hp v hv;show Wp c x _ (jP k v) (B a);rw [hv];refine Wp.mono x (fun e v' b' hq=> ?_) _ _ (step a hp);cases e with
   | normal=>obtain ⟨a',h1,h2,h3,h4⟩:=hq;simp only;rw [h4];exact ih a' (by omega) h1 _ h3
   | ret=>exact hq
   | exit i=>exact hq
 exact ⟨m a+1,this (m a+1) a (by omega) hp v hv⟩
theorem Wp.q8 {c:ax} {x:Nat} {s:Site} {Q:cH} {v:List (Option AV)} {b:List ad} {f:FuncId} {caps:List AV} (hx:kL v x=some (.fn f [] caps)) (he:c.ext f=none) {r:AV} {b':List ad} {st:NI} {e:Ex}
  (ha:ar c f (.fL b.length s (v.map (·.getD .any))::caps) (b++ [.loop .ready])=some (r,b')) (hb:ad.at b' b.length= .loop st) (hst:st=sW e) (hQ:Q e (zc b.length v b') (eP b.length b')):Wp c (.q8 x s) Q v b:=by
 have ha':mO c (.fn f) (.fL b.length s (v.map (·.getD .any))::caps) (b++ [.loop .ready])=some (r,b'):=ha;simp only [Wp,KC,yW,hx,he,ha',KA,hb,hst];cases e <;> exact hQ
theorem Wp.AR {c:ax} {x k n i m clock:Nat} {its:List It} {seen:List Nat} {es:List (AV×AV×Nat)} {Q:cH} {v:List (Option AV)} {b:List ad} (hx:kL v x=some (.kD i)) (hi:ad.at b i= .iter (.map m seen clock)) (hm:ad.at b m= .mp es clock)
  (h0:(∀e∈es,seen.contains e.2.2=true)→oh (br c (mO c) b.length [] its (v.set k (some (.aT [.bool false]))) (b++List.replicate n .dead)) Q)
  (h1: ∀e∈es,seen.contains e.2.2=false→oh (br c (mO c) b.length [] its (v.set k (some (.aT [.bool true,e.1,e.2.1]))) (b.set i (.iter (.map m (seen++ [e.2.2]) clock))++List.replicate n .dead)) Q):Wp c (.AR x k n its) Q v b:=
 ⟨i,m,clock,seen,es,hx,hi,hm,h0,h1⟩
section
variable {c:ax} {Q:cH} {v:List (Option AV)} {b:List ad}
@[simp] theorem U2:Wp c .skip Q v b=Q .normal v b:=rfl
@[simp] theorem VK:Wp c .ret Q v b=Q .ret v b:=rfl
@[simp] theorem Sf:Wp c .stuck Q v b=False:=rfl
@[simp] theorem VL (l:List qh):Wp c (.own l) Q v b=Q .normal (hZ l v b).1 (hZ l v b).2:=rfl
@[simp] theorem U3 (i:Nat):Wp c (.exit i) Q v b=Q (.exit i) v b:=rfl
@[simp] theorem NY (x y:IR):Wp c (.seq x y) Q v b=Wp c x (Bd (Wp c y) Q) v b:=rfl
@[simp] theorem Sg (i:Nat) (x:IR):Wp c (.block i x) Q v b=Wp c x (fun e v b=>Q (leave i e) v b) v b:=rfl
@[simp] theorem VM (l:List (Nat×List Nat×List It)):Wp c (.alt l) Q v b=(l≠ []∧ ∀x∈l,oh (br c (mO c) b.length x.2.1 x.2.2 v (b++List.replicate x.1 .dead)) Q):=rfl
@[simp] theorem VN (n:Nat) (kl:List Nat) (its:List It):Wp c (.cg n kl its) Q v b=oh (br c (mO c) b.length kl its v (b++List.replicate n .dead)) Q:=rfl
@[simp] theorem U4 (x:Nat) (p q:IR):Wp c (.cond x p q) Q v b=xG (kL v x) (Wp c p Q (v.set x none) b) (Wp c q Q (v.set x none) b):=rfl
@[simp] theorem KI (W:cH→List (Option AV)→List ad→Prop):Bd W Q .normal v b=W Q v b:=rfl
@[simp] theorem P1 (W:cH→List (Option AV)→List ad→Prop):Bd W Q .ret v b=Q .ret v b:=rfl
@[simp] theorem NZ (W:cH→List (Option AV)→List ad→Prop) (i:Nat):Bd W Q (.exit i) v b=Q (.exit i) v b:=rfl
@[simp] theorem P2:oh (some (v,b)) Q=Q .normal v b:=rfl
@[simp] theorem P3:oh none Q=False:=rfl
@[simp] theorem N0 (x:Bool) (p q:Prop):xG (some (.bool x)) p q=if x=true then p else q:=by cases x <;> simp [xG]
@[simp] theorem KJ (i:Nat):leave i .normal= .normal:=rfl
@[simp] theorem P4 (i:Nat):leave i .ret= .ret:=rfl
@[simp] theorem N1 (i j:Nat):leave i (.exit j)=if j=i then .normal else .exit j:=rfl
@[simp] theorem Mj (own:Bool) (res:List JN) (n:Nat) (r:AV×List ad):Be c own res n r .normal v b=(Gc c own res n v b=some r):=rfl
@[simp] theorem Si (own:Bool) (res:List JN) (n:Nat) (r:AV×List ad):Be c own res n r .ret v b=(Gc c own res n v b=some r):=rfl
@[simp] theorem P5 (p q:Bool):F5 (some (.bool p)) (some (.bool q))=some (.bool (p&&q)):=by cases p <;> rfl
@[simp] theorem Sj (p q:Bool):P0 (some (.bool p)) (some (.bool q))=some (.bool (p || q)):=by cases p <;> rfl
@[simp] theorem P6 (x:Option AV):F5 (some (.bool true)) x=x:=rfl
@[simp] theorem N2 (x:Option AV):F5 (some (.bool false)) x=some (.bool false):=rfl
@[simp] theorem Sk (x:Option AV):P0 (some (.bool true)) x=some (.bool true):=rfl
@[simp] theorem P7 (x:Option AV):P0 (some (.bool false)) x=x:=rfl
@[simp] theorem Xh (a:AV) (f:AV→Option AV):ES (some a) f=f a:=rfl
@[simp] theorem Xi (a d:AV) (f:AV→AV→Option AV):Kp (some a) (some d) f=f a d:=rfl
@[simp] theorem Xj (a d e:AV) (f:AV→AV→AV→Option AV):Sb (some a) (some d) (some e) f=f a d e:=rfl
@[simp] theorem VO (a:AV):rI (some (a,.none))=some a:=rfl
end
attribute [simp] e9 pW yM jc AV.isNil hZ Gb H9 br og bB dv uX sU sT F6 EU ET cC AU fj xj FK FJ yI Sc look dL cS lE NN Gc Ib kR Kz Ia eP zc qd qe rP sV ia jP gZ aY ev fS iY Tr.get cY.on asks uz kE lr xh oW jb mq mr ea linked HG iL oV eb sJ gu uC dI ja rq ly uB gL eK fT uA HF er oU gD eI uy yJ partOf elems gK iZ dz jG cR rA isZero rn sH kG yK yL bO lu eqFields eqItems both eA AV.plain al AV.flat flatAll mo ou pT xi dq aV cX lx aP Ao AV.hand jH AV.under aw forget bG eL eu ij bytesOf byteOf j9 Al An FL FM dJ oX AV.NJ AV.differ eB jF AV.apart eH
attribute [simp] List.getElem?_cons_zero
@[simp] theorem P8 (ty a:Nat) (v:Value):rC (.store ty (.tmp a) (.const v))= [a]:=rfl
@[simp] theorem P9 (ty a b:Nat):rC (.store ty (.tmp a) (.tmp b))= [a,b]:=rfl
@[simp] theorem Qa (ty a f:Nat):rC (.store ty (.tmp a) (.func f))= [a]:=rfl
@[simp] theorem JO (cs:List AV) (off:Nat) (v:List AV):cP (.agg cs) off v=if off+v.length≤cs.length∧al v=true then some (.agg (ae cs off v)) else .none:=rfl
@[simp] theorem JP (k:IntKind) (n:Int) (k':IntKind) (n':Int):cP (.int k n) 0 [.int k' n']=some (.int k' n'):=rfl
@[simp] theorem JQ (a b:List UInt8):cP (.str a) 0 [.str b]=some (.str b):=rfl
@[simp] theorem Ik (a b:Bool):cP (.bool a) 0 [.bool b]=some (.bool b):=rfl
@[simp] theorem Qb (a:Option AV) (l:List (Option AV)):kL (a::l) 0=a:=rfl
@[simp] theorem Qc (a:Option AV) (l:List (Option AV)) (n:Nat):kL (a::l) (n+1)=kL l n:=rfl
@[simp] theorem U5 (a:ad) (l:List ad):ad.at (a::l) 0=a:=rfl
@[simp] theorem U6 (a:ad) (l:List ad) (n:Nat):ad.at (a::l) (n+1)=ad.at l n:=rfl
@[simp] theorem VP (n:Nat):ad.at [] n= .dead:=by simp [ad.at]
@[simp] theorem N3  :(AV.any).ca=false:=rfl
@[simp] theorem Qd  :(AV.any).cells= [(AV.any)]:=rfl
@[simp] theorem Sl (bs:List ad)  :eJ bs (AV.any)=some (AV.any):=rfl
@[simp] theorem N4  :(AV.j8).ca=true:=rfl
@[simp] theorem Qe  :(AV.j8).cells= [(AV.j8)]:=rfl
@[simp] theorem Sm (bs:List ad)  :eJ bs (AV.j8)=some (AV.j8):=rfl
@[simp] theorem N5 (k:IntKind) (n:Int):(AV.int k n).ca=true:=rfl
@[simp] theorem Qf (k:IntKind) (n:Int):(AV.int k n).cells= [(AV.int k n)]:=rfl
@[simp] theorem Sn (bs:List ad) (k:IntKind) (n:Int):eJ bs (AV.int k n)=some (AV.int k n):=rfl
@[simp] theorem Mk (b:Bool):(AV.bool b).ca=true:=rfl
@[simp] theorem N6 (b:Bool):(AV.bool b).cells= [(AV.bool b)]:=rfl
@[simp] theorem Qg (bs:List ad) (b:Bool):eJ bs (AV.bool b)=some (AV.bool b):=rfl
@[simp] theorem N7 (s:List UInt8):(AV.str s).ca=true:=rfl
@[simp] theorem Qh (s:List UInt8):(AV.str s).cells= [(AV.str s)]:=rfl
@[simp] theorem Sp (bs:List ad) (s:List UInt8):eJ bs (AV.str s)=some (AV.str s):=rfl
@[simp] theorem N8 (cs:List AV):(AV.agg cs).ca=false:=rfl
@[simp] theorem Qi (cs:List AV):(AV.agg cs).cells=cs:=rfl
@[simp] theorem N9  :(AV.any).leaves= [AV.any]:=rfl
@[simp] theorem Oa  :(AV.j8).leaves= [AV.j8]:=rfl
@[simp] theorem Ob (k:IntKind) (n:Int):(AV.int k n).leaves= [AV.int k n]:=rfl
@[simp] theorem Ml (b:Bool):(AV.bool b).leaves= [AV.bool b]:=rfl
@[simp] theorem Oc (s:List UInt8):(AV.str s).leaves= [AV.str s]:=rfl
@[simp] theorem Od (vs:List AV):(AV.aT vs).leaves= [AV.aT vs]:=rfl
@[simp] theorem Mm  :(AV.bS).leaves= [AV.bS]:=rfl
@[simp] theorem Oe (k off:Nat):(AV.ptr k off).leaves= [AV.ptr k off]:=rfl
@[simp] theorem Mn (k n i off:Nat):(AV.cz k n i off).leaves= [AV.cz k n i off]:=rfl
@[simp] theorem Mo (cs:List AV):(AV.dd cs).leaves= [AV.dd cs]:=rfl
@[simp] theorem Of (nl:Option Bool) (sz:Nat) (es:List AV):(AV.ah nl sz es).leaves= [AV.ah nl sz es]:=rfl
@[simp] theorem Mq (nl:Option Bool):(AV.b8 nl).leaves= [AV.b8 nl]:=rfl
@[simp] theorem Og (k n:Nat):(AV.ay k n).leaves= [AV.ay k n]:=rfl
@[simp] theorem Qj (f:FuncId) (a b:List AV):(AV.fn f a b).leaves= [AV.fn f a b]:=rfl
@[simp] theorem Mr  :(AV.ep).leaves= [AV.ep]:=rfl
@[simp] theorem Oh (b:Bool):(AV.gj b).leaves= [AV.gj b]:=rfl
@[simp] theorem Oi (t:TypeId) (k:IntKind) (n:Int):(AV.lh t k n).leaves= [AV.lh t k n]:=rfl
@[simp] theorem Oj (k:Nat) (s:Site) (env:List AV):(AV.fL k s env).leaves= [AV.fL k s env]:=rfl
@[simp] theorem Sq (bs:List ad) (cs:List AV):eJ bs (AV.agg cs)=if al cs=true then some (AV.agg cs) else (dq bs cs).map .agg:=by simp only [eJ];cases al cs <;> rfl
@[simp] theorem Ol (cs:List AV):(AV.agg cs).leaves=if al cs=true then [] else aV cs:=by simp only [AV.leaves];cases al cs <;> rfl
@[simp] theorem KK (c:ax) (ty:TypeId) (y:AV) (cs:List AV):kF c ty .eql (AV.agg cs) y=(bO c 20 ty (AV.agg cs) y).map .bool:=by unfold kF;rfl
@[simp] theorem KL (c:ax) (ty:TypeId) (y:AV) (cs:List AV):kF c ty .neq (AV.agg cs) y=(bO c 20 ty (AV.agg cs) y).map fun b=> .bool (!b):=by unfold kF;rfl
@[simp] theorem Om (vs:List AV):(AV.aT vs).ca=false:=rfl
@[simp] theorem Qk (vs:List AV):(AV.aT vs).cells= [(AV.aT vs)]:=rfl
@[simp] theorem Sr (bs:List ad) (vs:List AV):eJ bs (AV.aT vs)=some (AV.aT vs):=rfl
@[simp] theorem KM (c:ax) (ty:TypeId) (y:AV) (vs:List AV):kF c ty .eql (AV.aT vs) y=(bO c 20 ty (AV.aT vs) y).map .bool:=by unfold kF;rfl
@[simp] theorem Ms  :(AV.bS).ca=true:=rfl
@[simp] theorem On  :(AV.bS).cells= [(AV.bS)]:=rfl
@[simp] theorem Ql (bs:List ad)  :eJ bs (AV.bS)=some (AV.bS):=rfl
@[simp] theorem JR (c:ax) (ty:TypeId) (y:AV)  :kF c ty .eql (AV.bS) y=(bO c 20 ty (AV.bS) y).map .bool:=by unfold kF;rfl
@[simp] theorem JS (c:ax) (ty:TypeId) (y:AV)  :kF c ty .neq (AV.bS) y=(bO c 20 ty (AV.bS) y).map fun b=> .bool (!b):=by unfold kF;rfl
@[simp] theorem Oo (k off:Nat):(AV.ptr k off).ca=true:=rfl
@[simp] theorem Qm (k off:Nat):(AV.ptr k off).cells= [(AV.ptr k off)]:=rfl
@[simp] theorem Ss (bs:List ad) (k off:Nat):eJ bs (AV.ptr k off)=some (AV.ptr k off):=rfl
@[simp] theorem KN (c:ax) (ty:TypeId) (y:AV) (k off:Nat):kF c ty .eql (AV.ptr k off) y=(bO c 20 ty (AV.ptr k off) y).map .bool:=by unfold kF;rfl
@[simp] theorem KO (c:ax) (ty:TypeId) (y:AV) (k off:Nat):kF c ty .neq (AV.ptr k off) y=(bO c 20 ty (AV.ptr k off) y).map fun b=> .bool (!b):=by unfold kF;rfl
@[simp] theorem Mt (k n i off:Nat):(AV.cz k n i off).ca=true:=rfl
@[simp] theorem Oq (k n i off:Nat):(AV.cz k n i off).cells= [(AV.cz k n i off)]:=rfl
@[simp] theorem Qn (bs:List ad) (k n i off:Nat):eJ bs (AV.cz k n i off)=some (AV.cz k n i off):=rfl
@[simp] theorem Mu (cs:List AV):(AV.dd cs).ca=true:=rfl
@[simp] theorem Ot (cs:List AV):(AV.dd cs).cells= [(AV.dd cs)]:=rfl
@[simp] theorem Qo (bs:List ad) (cs:List AV):eJ bs (AV.dd cs)=some (AV.dd cs):=rfl
@[simp] theorem Ou (nl:Option Bool) (sz:Nat) (es:List AV):(AV.ah nl sz es).ca=true:=rfl
@[simp] theorem Qp (nl:Option Bool) (sz:Nat) (es:List AV):(AV.ah nl sz es).cells= [(AV.ah nl sz es)]:=rfl
@[simp] theorem Su (bs:List ad) (nl:Option Bool) (sz:Nat) (es:List AV):eJ bs (AV.ah nl sz es)=some (AV.ah nl sz es):=rfl
@[simp] theorem Mv (nl:Option Bool):(AV.b8 nl).ca=true:=rfl
@[simp] theorem Ov (nl:Option Bool):(AV.b8 nl).cells= [(AV.b8 nl)]:=rfl
@[simp] theorem Qq (bs:List ad) (nl:Option Bool):eJ bs (AV.b8 nl)=some (AV.b8 nl):=rfl
@[simp] theorem Ow (k n:Nat):(AV.ay k n).ca=true:=rfl
@[simp] theorem Qr (k n:Nat):(AV.ay k n).cells= [(AV.ay k n)]:=rfl
@[simp] theorem Qs (f:FuncId) (first caps:List AV):(AV.fn f first caps).ca=true:=rfl
@[simp] theorem Sv (f:FuncId) (first caps:List AV):(AV.fn f first caps).cells= [(AV.fn f first caps)]:=rfl
@[simp] theorem U7 (bs:List ad) (f:FuncId) (first caps:List AV):eJ bs (AV.fn f first caps)=some (AV.fn f first caps):=rfl
@[simp] theorem Mw  :(AV.ep).ca=true:=rfl
@[simp] theorem Ox  :(AV.ep).cells= [(AV.ep)]:=rfl
@[simp] theorem Qt (bs:List ad)  :eJ bs (AV.ep)=some (AV.ep):=rfl
@[simp] theorem Oy (b:Bool):(AV.gj b).ca=true:=rfl
@[simp] theorem Oz (t:TypeId) (k:IntKind) (n:Int):(AV.lh t k n).ca=true:=rfl
@[simp] theorem Qu (b:Bool):(AV.gj b).cells= [(AV.gj b)]:=rfl
@[simp] theorem Qv (t:TypeId) (k:IntKind) (n:Int):(AV.lh t k n).cells= [(AV.lh t k n)]:=rfl
@[simp] theorem Sw (bs:List ad) (b:Bool):eJ bs (AV.gj b)=some (AV.gj b):=rfl
@[simp] theorem Sx (bs:List ad) (t:TypeId) (k:IntKind) (n:Int):eJ bs (AV.lh t k n)=some (AV.lh t k n):=rfl
@[simp] theorem OB (k:Nat) (s:Site) (env:List AV):(AV.fL k s env).ca=true:=rfl
@[simp] theorem Qw (k:Nat) (s:Site) (env:List AV):(AV.fL k s env).cells= [AV.fL k s env]:=rfl
@[simp] theorem Sy (bs:List ad) (k:Nat) (s:Site) (env:List AV):eJ bs (AV.fL k s env)=some (AV.fL k s env):=rfl
@[simp] theorem Sz (bs:List ad) (k n:Nat):eJ bs (.ay k n)=match ad.at bs k with | .sl _ sz es=>if n=es.length then some (.ah .none sz es) else .none | _=> .none:=rfl
@[simp] theorem SB (c:ax) (ty:TypeId) (op:BinOp) (k k':IntKind) (a b:Int):kF c ty op (.int k a) (.int k' b)=match op with | .shl=>lr .shl k a b | .shr=>lr .shr k a b | op=>if k=k' then kE op k a b else none:=rfl
@[simp] theorem SC (c:ax) (ty:TypeId) (op:BinOp) (a b:List UInt8):kF c ty op (.str a) (.str b)=xh op a b:=rfl
@[simp] theorem U8 (k:IntKind) (n:Int):Kb .neg (.int k n)=kE .sub k 0 n:=rfl
@[simp] theorem U9 (k:IntKind) (n:Int):Kb .xor (.int k n)=kE .xor k (if k.signed then -1 else k.max) n:=rfl
@[simp] theorem Va (b:Bool):Kb .not (.bool b)=some (.bool (!b)):=rfl
@[simp] theorem OC (k k':IntKind) (n:Int):Dh k (.int k' n)=some (.int k (k.wrap n)):=rfl
@[simp] theorem Qx (s:List UInt8):H0 (.str s)=some (.int .i64 s.length):=rfl
@[simp] theorem OD (s:List UInt8) (lo hi:Option AV):o9 (.str s) lo hi=match cR hi s.length s.length with | some h=>(match cR lo 0 h with | some l=>some (.str ((s.take h).drop l)) | none=>none) | none=>none:=rfl
@[simp] theorem SD  :(AV.any).soft=(AV.any):=rfl
@[simp] theorem Qy  :(AV.any).dt=(AV.any):=rfl
@[simp] theorem SE  :(AV.j8).soft=(AV.j8):=rfl
@[simp] theorem Qz  :(AV.j8).dt=(AV.j8):=rfl
@[simp] theorem SF (k:IntKind) (n:Int):(AV.int k n).soft=(AV.int k n):=rfl
@[simp] theorem QA (k:IntKind) (n:Int):(AV.int k n).dt=(AV.int k n):=rfl
@[simp] theorem QB (b:Bool):(AV.bool b).soft=(AV.bool b):=rfl
@[simp] theorem OE (b:Bool):(AV.bool b).dt=(AV.bool b):=rfl
@[simp] theorem SG (s:List UInt8):(AV.str s).soft=(AV.str s):=rfl
@[simp] theorem QC (s:List UInt8):(AV.str s).dt=(AV.str s):=rfl
@[simp] theorem SH (vs:List AV):(AV.aT vs).soft=(AV.aT vs):=rfl
@[simp] theorem QD (vs:List AV):(AV.aT vs).dt=(AV.aT vs):=rfl
@[simp] theorem QE  :(AV.bS).soft=(AV.bS):=rfl
@[simp] theorem OF  :(AV.bS).dt=(AV.bS):=rfl
@[simp] theorem SI (k off:Nat):(AV.ptr k off).soft=(AV.ptr k off):=rfl
@[simp] theorem QF (k off:Nat):(AV.ptr k off).dt=(AV.ptr k off):=rfl
@[simp] theorem QG (k n i off:Nat):(AV.cz k n i off).soft=(AV.cz k n i off):=rfl
@[simp] theorem OG (k n i off:Nat):(AV.cz k n i off).dt=(AV.cz k n i off):=rfl
@[simp] theorem QH (cs:List AV):(AV.dd cs).soft=(AV.dd cs):=rfl
@[simp] theorem OH (cs:List AV):(AV.dd cs).dt=(AV.dd cs):=rfl
@[simp] theorem SJ (nl:Option Bool) (sz:Nat) (es:List AV):(AV.ah nl sz es).soft=(AV.ah nl sz es):=rfl
@[simp] theorem QI (nl:Option Bool) (sz:Nat) (es:List AV):(AV.ah nl sz es).dt=(AV.ah nl sz es):=rfl
@[simp] theorem SK (k n:Nat):(AV.ay k n).soft=(AV.ay k n):=rfl
@[simp] theorem QJ (k n:Nat):(AV.ay k n).dt=(AV.ay k n):=rfl
@[simp] theorem SL (k n lo hi:Nat):(AV.fN k n lo hi).soft=(AV.fN k n lo hi):=rfl
@[simp] theorem QK (k n lo hi:Nat):(AV.fN k n lo hi).dt=(AV.fN k n lo hi):=rfl
@[simp] theorem Vb (f:FuncId) (a b:List AV):(AV.fn f a b).soft=(AV.fn f a b):=rfl
@[simp] theorem SM (f:FuncId) (a b:List AV):(AV.fn f a b).dt=(AV.fn f a b):=rfl
@[simp] theorem QL  :(AV.ep).soft=(AV.ep):=rfl
@[simp] theorem OI  :(AV.ep).dt=(AV.ep):=rfl
@[simp] theorem SN (b:Bool):(AV.gj b).soft=(AV.gj b):=rfl
@[simp] theorem SO (t:TypeId) (k:IntKind) (n:Int):(AV.lh t k n).soft=(AV.lh t k n):=rfl
@[simp] theorem QM (b:Bool):(AV.gj b).dt=(AV.gj b):=rfl
@[simp] theorem QN (t:TypeId) (k:IntKind) (n:Int):(AV.lh t k n).dt=(AV.lh t k n):=rfl
@[simp] theorem SP (k:Nat) (s:Site) (env:List AV):(AV.fL k s env).soft=(AV.fL k s env):=rfl
@[simp] theorem QO (k:Nat) (s:Site) (env:List AV):(AV.fL k s env).dt=(AV.fL k s env):=rfl
@[simp] theorem QP (k:Nat):(AV.cF k).soft=(AV.cF k):=rfl
@[simp] theorem OJ (k:Nat):(AV.cF k).dt=(AV.cF k):=rfl
@[simp] theorem SQ (k:Nat):(AV.kD k).soft=(AV.kD k):=rfl
@[simp] theorem QQ (k:Nat):(AV.kD k).dt=(AV.kD k):=rfl
@[simp] theorem QR  :(AV.gX).soft=(AV.gX):=rfl
@[simp] theorem OK  :(AV.gX).dt=(AV.gX):=rfl
@[simp] theorem SR (cs:List AV):(AV.agg cs).soft= .agg (cs.map AV.dt):=rfl
@[simp] theorem QS (nl:Option Bool):(AV.b8 nl).soft= .ah nl 0 []:=rfl
@[simp] theorem QT (cs:List AV):(AV.agg cs).dt= .agg cs:=rfl
@[simp] theorem OL (nl:Option Bool):(AV.b8 nl).dt= .ah nl 0 []:=rfl
@[simp] theorem QU (c:UInt8):(aj c).soft=aj c:=rfl
end Go.Am
namespace Go.Am
theorem wrap_i64 {x:Int} (h1: -9223372036854775808≤x) (h2:x<9223372036854775808):IntKind.i64.wrap x=x:=by
 have e:IntKind.i64.wrap x=if x%18446744073709551616≥9223372036854775808 then x%18446744073709551616-18446744073709551616 else x%18446744073709551616:=by simp [IntKind.wrap,IntKind.bits,IntKind.signed]
 rw [e];split <;> omega
theorem wrap_u8 {x:Int} (h1:0≤x) (h2:x<256):IntKind.u8.wrap x=x:=by simp only [IntKind.wrap,IntKind.bits,IntKind.signed,Bool.false_and];rw [if_neg (by simp)];omega
@[simp] theorem SS (i n:Nat):Int.tmod (i:Int) (no_index (OfNat.ofNat n):Int)=((i%n:Nat):Int):=(Int.ofNat_tmod i n).symm
@[simp] theorem toNat_emod (i n:Nat):((i:Int)%(no_index (OfNat.ofNat n):Int)).toNat=i%n:=Int.toNat_natCast (i%n)
@[simp] theorem OM (i n:Nat):((i:Int) / (no_index (OfNat.ofNat n):Int)).toNat=i / n:=Int.toNat_natCast (i / n)
theorem ny {n:Nat} (h:n≤1000000000000):n≤ux:=by unfold ux;omega
theorem jD {n:Nat} (h:n≤1000000000000):n≤bP:=by unfold bP;omega
theorem jE {n:Nat} (h:n≤10000000):n≤mn:=by unfold mn;omega
theorem iv {n:Int} (h:n≤1000000000000):n≤(bP:Int):=by unfold bP;omega
section
variable (bs l:List ad) (j:Nat) (x:ad)
theorem ff {k:Nat} (h:k<bs.length):ad.at (bs++l) k=ad.at bs k:=by simp only [ad.at,List.getD_eq_getElem?_getD,List.getElem?_append_left h]
@[simp] theorem ej:ad.at (bs++l) (bs.length+j)=ad.at l j:=by simp only [ad.at,List.getD_eq_getElem?_getD,List.getElem?_append_right (Nat.le_add_right _ _),Nat.add_sub_cancel_left]
@[simp] theorem xc:ad.at (bs++l) bs.length=ad.at l 0:=ej bs l 0
@[simp] theorem dH:(bs++l)[bs.length+j]?=l[j]?:=by rw [List.getElem?_append_right (Nat.le_add_right _ _),Nat.add_sub_cancel_left]
@[simp] theorem ON:(bs++l)[bs.length]?=l[0]?:=dH bs l 0
@[simp] theorem cK:(bs++l).set (bs.length+j) x=bs++l.set j x:=by rw [List.set_append_right _ _ (Nat.le_add_right _ _),Nat.add_sub_cancel_left]
@[simp] theorem uv:(bs++l).set bs.length x=bs++l.set 0 x:=cK bs l 0 x
end
def cM (m:Nat) (sh:Hd):Bool:=
 match sh.link with
 | some (_,_,k,_)=>decide (k<m)
 | none=>true
@[simp] theorem Il (m:Nat) (o:Bool) (t:Option TypeId):cM m ⟨o,t,none⟩=true:=rfl
@[simp] theorem JT (n:Nat) (o:Bool) (t:Option TypeId):eL n ⟨o,t,none⟩=⟨o,t,none⟩:=rfl
theorem qw {m n:Nat} (h:m≤n) {sh:Hd} (hl:cM m sh=true):cM n sh=true:=by
 unfold cM at*
 split
 ·rename_i hs;rw [hs] at hl;simp only [decide_eq_true_eq] at hl⊢;omega
 ·rfl
theorem vu {n:Nat} {sh:Hd} (hl:cM n sh=true):eL n sh=sh:=by
 unfold cM at hl;unfold eL;split
 ·rename_i hs;rw [hs] at hl;simp only [decide_eq_true_eq] at hl;rw [if_pos hl]
 ·rfl
def dX (m:Nat):List (AV×AV×Nat)→Bool
 | []=>true
 | e::r=>e.2.1.under m&&dX m r
@[simp] theorem Mx (m:Nat):dX m []=true:=rfl
theorem td {α:Type} {f:α→AV×AV×Nat} {m:Nat} (h: ∀x,(f x).2.1.under m=true): ∀l:List α,dX m (l.map f)=true
 | []=>rfl
 | a::l=>by simp only [List.map_cons,dX,h,td h l,Bool.and_true]
def shut (m:Nat):List ad→Bool
 | []=>true
 | .var _ cs::r=>aw m cs&&shut m r
 | .mp es _::r=>dX m es&&shut m r
 | .sl sh _ _::r=>cM m sh&&shut m r
 | _::r=>shut m r
mutual
theorem Bn {m n:Nat} (h:m≤n): ∀(v:AV),v.under m=true→v.under n=true
 | .ptr k _,hu=>by simp only [AV.under,decide_eq_true_eq] at hu⊢;omega
 | .cz k _ _ _,hu=>by simp only [AV.under,decide_eq_true_eq] at hu⊢;omega
 | .ay k _,hu=>by simp only [AV.under,decide_eq_true_eq] at hu⊢;omega
 | .fN k _ _ _,hu=>by simp only [AV.under,decide_eq_true_eq] at hu⊢;omega
 | .cF k,hu=>by simp only [AV.under,decide_eq_true_eq] at hu⊢;omega
 | .kD k,hu=>by simp only [AV.under,decide_eq_true_eq] at hu⊢;omega
 | .gX,_=>rfl
 | .agg cs,hu=>by simp only [AV.under] at hu⊢;exact dV h cs hu
 | .aT cs,hu=>by simp only [AV.under] at hu⊢;exact dV h cs hu
 | .fn f a b,hu=>by
  simp only [AV.under,Bool.and_eq_true] at hu⊢;exact ⟨dV h a hu.1,dV h b hu.2⟩
 | .any,_=>rfl
 | .j8,_=>rfl
 | .int _ _,_=>rfl
 | .bool _,_=>rfl
 | .str _,_=>rfl
 | .bS,_=>rfl
 | .dd _,_=>rfl
 | .ah _ _ _,_=>rfl
 | .b8 _,_=>rfl
 | .ep,_=>rfl
 | .gj _,_=>rfl
 | .lh _ _ _,_=>rfl
 | .fL k _ env,hu=>by
  simp only [AV.under,Bool.and_eq_true,decide_eq_true_eq] at hu⊢;exact ⟨by omega,dV h env hu.2⟩
theorem dV {m n:Nat} (h:m≤n): ∀(l:List AV),aw m l=true→aw n l=true
 | [],_=>rfl
 | v::r,hu=>by
  simp only [aw,Bool.and_eq_true] at hu⊢;exact ⟨Bn h v hu.1,dV h r hu.2⟩
end
theorem qx {n:Nat}: ∀{l:List AV},aw n l=true→l.map (forget n)=l
 | [],_=>rfl
 | v::r,h=>by
  simp only [aw,Bool.and_eq_true] at h;simp only [List.map_cons,forget,h.1,qx h.2]
theorem pt {m n:Nat} (h:m≤n): ∀(l:List (AV×AV×Nat)),dX m l=true→dX n l=true
 | [],_=>rfl
 | e::r,hu=>by
  simp only [dX,Bool.and_eq_true] at hu⊢;exact ⟨Bn h _ hu.1,pt h r hu.2⟩
theorem mQ {n:Nat}: ∀{l:List (AV×AV×Nat)},dX n l=true→l.map (eu n)=l
 | [],_=>rfl
 | e::r,h=>by
  simp only [dX,Bool.and_eq_true] at h;simp only [List.map_cons,eu,forget,h.1,mQ h.2]
theorem shut_map {m n:Nat} (hn:m≤n): ∀{bs:List ad},shut m bs=true→bs.map (bG n)=bs
 | [],_=>rfl
 | .var ty cs::r,h=>by
  simp only [shut,Bool.and_eq_true] at h;simp only [List.map_cons,bG,qx (dV hn cs h.1),shut_map hn h.2]
 | .sl sh sz es::r,h=>by
  simp only [shut,Bool.and_eq_true] at h;simp only [List.map_cons,bG,vu (qw hn h.1),shut_map hn h.2]
 | .dead::r,h=>by simp only [List.map_cons,bG,shut_map hn (by simpa [shut] using h)]
 | .loop st::r,h=>by simp only [List.map_cons,bG,shut_map hn (by simpa [shut] using h)]
 | .mp es clock::r,h=>by
  simp only [shut,Bool.and_eq_true] at h;simp only [List.map_cons,bG,mQ (pt hn es h.1),shut_map hn h.2]
 | .gone::r,h=>by simp only [List.map_cons,bG,shut_map hn (by simpa [shut] using h)]
 | .iter o::r,h=>by simp only [List.map_cons,bG,shut_map hn (by simpa [shut] using h)]
theorem eo (n:Nat): ∀(l m:List ad),shut n (l++m)=(shut n l&&shut n m)
 | [],m=>rfl
 | .var ty cs::l,m=>by simp only [List.cons_append,shut,eo n l m,Bool.and_assoc]
 | .sl _ _ _::l,m=>by simp only [List.cons_append,shut,eo n l m,Bool.and_assoc]
 | .dead::l,m=>by simp only [List.cons_append,shut,eo n l m]
 | .loop _::l,m=>by simp only [List.cons_append,shut,eo n l m]
 | .mp _ _::l,m=>by simp only [List.cons_append,shut,eo n l m,Bool.and_assoc]
 | .gone::l,m=>by simp only [List.cons_append,shut,eo n l m]
 | .iter _::l,m=>by simp only [List.cons_append,shut,eo n l m]
theorem iq {m n:Nat} (h:m≤n): ∀{bs:List ad},shut m bs=true→shut n bs=true
 | [],_=>rfl
 | .var ty cs::l,hs=>by
  simp only [shut,Bool.and_eq_true] at hs⊢;exact ⟨dV h cs hs.1,iq h hs.2⟩
 | .sl _ _ _::l,hs=>by
  simp only [shut,Bool.and_eq_true] at hs⊢;exact ⟨qw h hs.1,iq h hs.2⟩
 | .dead::l,hs=>by simp only [shut] at hs⊢;exact iq h hs
 | .loop _::l,hs=>by simp only [shut] at hs⊢;exact iq h hs
 | .mp es _::l,hs=>by
  simp only [shut,Bool.and_eq_true] at hs⊢;exact ⟨pt h es hs.1,iq h hs.2⟩
 | .gone::l,hs=>by simp only [shut] at hs⊢;exact iq h hs
 | .iter _::l,hs=>by simp only [shut] at hs⊢;exact iq h hs
def oe (J:List ad):Prop:= ∀n,shut n J=true
theorem oe.app {J K:List ad} (h:oe J) (k:oe K):oe (J++K):=fun n=>by rw [eo,h n,k n];rfl
theorem xK {n:Nat}: ∀{bs:List ad} (k:Nat) {x:ad},shut n bs=true→shut n [x]=true→shut n (bs.set k x)=true
 | [],_,_,_,_=>rfl
 | b::r,0,x,h,hx=>by
  cases x <;> cases b <;> simp_all [shut]
 | b::r,k+1,x,h,hx=>by
  have:=fun (h:shut n r=true)=>xK (bs:=r) k h hx;cases b <;> simp_all [shut]
theorem oe.set {J:List ad} (h:oe J) (k:Nat) {x:ad} (hx:oe [x]):oe (J.set k x):=fun n=>xK k (h n) (hx n)
def zS (x:BitVec 64):AV:= .int .u64 (x.toNat:Int)
section
variable (c:ax) (ty:TypeId) (x y:BitVec 64)
@[simp] theorem QV:(zS x).plain=true:=rfl
@[simp] theorem SU:(zS x).flat=true:=rfl
@[simp] theorem OO:(zS x).ca=true:=rfl
@[simp] theorem QW:(zS x).cells= [zS x]:=rfl
@[simp] theorem QX (n:Nat):(zS x).under n=true:=rfl
@[simp] theorem SV (n:Nat) (bs:List ad):(zS x).hand n bs=some (zS x):=rfl
@[simp] theorem SX (bs:List ad):eJ bs (zS x)=some (zS x):=rfl
end
section
variable {α:Type} {f:α→AV}
theorem eU (h: ∀x,(f x).plain=true): ∀l:List α,al (l.map f)=true
 | []=>rfl
 | a::l=>by simp only [List.map_cons,al,h,eU h l,Bool.and_self]
end
section
variable (l:List (BitVec 64))
end
@[simp] theorem Hb (n:Nat):forget n∘zS=zS:=rfl
section
variable (c:ax) (ty:TypeId) (x y:UInt8)
@[simp] theorem KP:(aj x).plain=true:=rfl
@[simp] theorem My:(aj x).flat=true:=rfl
@[simp] theorem JU:(aj x).ca=true:=rfl
@[simp] theorem KQ:(aj x).cells= [aj x]:=rfl
@[simp] theorem KR (n:Nat):(aj x).under n=true:=rfl
@[simp] theorem Mz (n:Nat) (bs:List ad):(aj x).hand n bs=some (aj x):=rfl
@[simp] theorem MA (bs:List ad):eJ bs (aj x)=some (aj x):=rfl
@[simp] theorem wF:byteOf (aj x)=some x:=by simp [aj,byteOf]
@[simp] theorem Gi:cP (aj x) 0 [aj y]=some (aj y):=rfl
end
section
variable (l:List UInt8)
@[simp] theorem Im:bytesOf (l.map aj)=some l:=by
 induction l with
 | nil=>rfl
 | cons a l ih=>simp only [List.map_cons,bytesOf,wF,ih]
theorem lP {d:List UInt8} {i:Nat} (h:i<d.length):d[i]?=some (d.getD i 0):=by simp [List.getD_eq_getElem?_getD,List.getElem?_eq_getElem h]
end
def wG (n:Nat):AV:= .int .i64 (n:Int)
section
variable (x:Nat)
@[simp] theorem OP:(wG x).plain=true:=rfl
@[simp] theorem QY:(wG x).flat=true:=rfl
@[simp] theorem MB:(wG x).ca=true:=rfl
@[simp] theorem OQ:(wG x).cells= [wG x]:=rfl
@[simp] theorem OR (n:Nat):(wG x).under n=true:=rfl
@[simp] theorem QZ (n:Nat) (bs:List ad):(wG x).hand n bs=some (wG x):=rfl
@[simp] theorem Q0 (bs:List ad):eJ bs (wG x)=some (wG x):=rfl
end
section
variable (l:List Nat)
end
end Go.Am
namespace Go.Am
section
variable {a b:Int}
theorem VQ (h:a≤b):(a≤b)=True:=eq_true h
theorem SY (h: ¬ a≤b):(a≤b)=False:=eq_false h
theorem VR (h:a<b):(a<b)=True:=eq_true h
theorem SZ (h: ¬ a<b):(a<b)=False:=eq_false h
theorem VS (h:a=b):(a=b)=True:=eq_true h
theorem S0 (h: ¬ a=b):(a=b)=False:=eq_false h
end
section
variable {a b:Nat}
theorem VT (h:a≤b):(a≤b)=True:=eq_true h
theorem S1 (h: ¬ a≤b):(a≤b)=False:=eq_false h
theorem VU (h:a<b):(a<b)=True:=eq_true h
theorem S4 (h: ¬ a<b):(a<b)=False:=eq_false h
theorem VV (h:a=b):(a=b)=True:=eq_true h
theorem S5 (h: ¬ a=b):(a=b)=False:=eq_false h
end
theorem om:(∀{a b:Int},a≤b→(a≤b)=True)∧(∀{a b:Int},¬ a≤b→(a≤b)=False)∧(∀{a b:Int},a<b→(a<b)=True)∧(∀{a b:Int},¬ a<b→(a<b)=False)∧(∀{a b:Int},a=b→(a=b)=True)∧(∀{a b:Int},¬ a=b→(a=b)=False)∧
  (∀{a b:Nat},a≤b→(a≤b)=True)∧(∀{a b:Nat},¬ a≤b→(a≤b)=False)∧(∀{a b:Nat},a<b→(a<b)=True)∧(∀{a b:Nat},¬ a<b→(a<b)=False)∧(∀{a b:Nat},a=b→(a=b)=True)∧(∀{a b:Nat},¬ a=b→(a=b)=False)∧
  (∀{x:Int},-9223372036854775808≤x→x<9223372036854775808→IntKind.i64.wrap x=x)∧(∀{n:Nat},n≤1000000000000→n≤ux)∧(∀{n:Nat},n≤1000000000000→n≤bP)∧(∀{n:Nat},n≤10000000→n≤mn)∧(∀{n:Int},n≤1000000000000→n≤(bP:Int)):=
 ⟨VQ,SY,VR,SZ,VS,S0,VT,S1,VU,S4,VV,S5,wrap_i64,ny,jD,jE,iv⟩
theorem kT (c:UInt8):AV.int .u8 (c.toNat:Int)=aj c:=rfl
theorem oq: ∀l:List UInt8,j9 (l.map aj)=some l
 | []=>rfl
 | a::l=>by
  have h:=a.toNat_lt;have h2:=oq l;simp only [List.map_cons,aj,j9];rw [if_pos (by omega)];rw [h2];simp
end Go.Am
