/- Rules for proofs over the plainer form: -/
import Derived.Test.YtfgbpngakkhdcaaGreatDoorAmIr6
open Bool renaming and_assoc->ack,and_eq_true->abj
open Int renaming natCast_nonneg->acm,toNat_natCast->aa5
open List renaming cons_append->abI,getD_eq_getElem?_getD->aaE,getElem?_append_right->abW,map_cons->aaM
open Nat renaming add_sub_cancel_left->acn,le_add_right->aco
set_option linter.all false
namespace Go.Am
theorem Wp.aP {c:av} {k:List Nat} {x:IR} {Q:cV} {α:Type} (m:α->Nat) (V:α->List (Option AV)) (B:α->List ad) (P:α->Prop)
  (step: ∀a,P a->Wp c x (fun e v' b'=>match e with
   | .normal=> ∃a',P a'∧m a'<m a∧kD k (rI k (B a).length v' b')=V a'∧rJ k (B a).length v' b'=B a'
   | e=>Q e v' b') (V a) (B a)) (a:α) (hp:P a) {v:List (Option AV)} (hv:kD k v=V a) {b:List ad} (hb:b=B a):Wp c (.loop k x) Q v b:=by
 subst hb
 have: ∀(n:Nat) (a:α),m a<n->P a-> ∀v,kD k v=V a->o6 (Wp c x) k Q n v (B a):=by
  intro n
  induction n with
  | zero=>intro a h;omega
  | succ n ih=>
   intro a hn hp v hv;show Wp c x _ (kD k v) (B a);rw [hv];refine Wp.mono x (fun e v' b' hq=> ?_) _ _ (step a hp);cases e with
   | normal=>obtain ⟨a',h1,h2,h3,h4⟩:=hq;simp only;rw [h4];exact ih a' (by omega) h1 _ h3
   | ret=>exact hq
   | exit i=>exact hq
 exact ⟨m a+1,this (m a+1) a (by omega) hp v hv⟩
theorem Wp.sP {c:av} {x:Nat} {s:Site} {Q:cV} {v:List (Option AV)} {b:List ad} {f:FuncId} {caps:List AV} (hx:lK v x=some (.fn f [] caps)) (he:c.ext f=none) {r:AV} {b':List ad} {st:QP} {e:Ex}
  (ha:aq c f (.gm b.length s (v.map (·.getD .any))::caps) (b++ [.loop .ready])=some (r,b')) (hb:ad.at b' b.length= .loop st) (hst:st=xf e) (hQ:Q e (AZ b.length v b') (eO b.length b')):Wp c (.sP x s) Q v b:=by
 have ha':oe c (.fn f) (.gm b.length s (v.map (·.getD .any))::caps) (b++ [.loop .ready])=some (r,b'):=ha;simp only [Wp,Nz,AJ,hx,he,ha',Nx,hb,hst];cases e <;> exact hQ
theorem Wp.CF {c:av} {x k n i m clock:Nat} {its:List It} {seen:List Nat} {es:List (AV×AV×Nat)} {Q:cV} {v:List (Option AV)} {b:List ad} (hx:lK v x=some (.lE i)) (hi:ad.at b i= .iter (.map m seen clock)) (hm:ad.at b m= .mp es clock)
  (h0:(∀e∈es,seen.contains e.2.2=true)->pH (bD c (oe c) b.length [] its (v.set k (some (.aL [.bool false]))) (b++List.replicate n .dead)) Q)
  (h1: ∀e∈es,seen.contains e.2.2=false->pH (bD c (oe c) b.length [] its (v.set k (some (.aL [.bool true,e.1,e.2.1]))) (b.set i (.iter (.map m (seen++ [e.2.2]) clock))++List.replicate n .dead)) Q):Wp c (.CF x k n its) Q v b:=
 ⟨i,m,clock,seen,es,hx,hi,hm,h0,h1⟩
section
variable {c:av} {Q:cV} {v:List (Option AV)} {b:List ad}
@[simp] theorem Ys:Wp c .skip Q v b=Q .normal v b:=rfl
@[simp] theorem Zg:Wp c .ret Q v b=Q .ret v b:=rfl
@[simp] theorem VB:Wp c .stuck Q v b=False:=rfl
@[simp] theorem Zh (l:List rO):Wp c (.own l) Q v b=Q .normal (jd l v b).1 (jd l v b).2:=rfl
@[simp] theorem Yt (i:Nat):Wp c (.exit i) Q v b=Q (.exit i) v b:=rfl
@[simp] theorem Q3 (x y:IR):Wp c (.seq x y) Q v b=Wp c x (C2 (Wp c y) Q) v b:=rfl
@[simp] theorem VC (i:Nat) (x:IR):Wp c (.block i x) Q v b=Wp c x (fun e v b=>Q (leave i e) v b) v b:=rfl
@[simp] theorem Zi (l:List (Nat×List Nat×List It)):Wp c (.alt l) Q v b=(l≠ []∧ ∀x∈l,pH (bD c (oe c) b.length x.2.1 x.2.2 v (b++List.replicate x.1 .dead)) Q):=rfl
@[simp] theorem Zj (n:Nat) (kl:List Nat) (its:List It):Wp c (.bW n kl its) Q v b=pH (bD c (oe c) b.length kl its v (b++List.replicate n .dead)) Q:=rfl
@[simp] theorem Yu (x:Nat) (p q:IR):Wp c (.cond x p q) Q v b=zf (lK v x) (Wp c p Q (v.set x none) b) (Wp c q Q (v.set x none) b):=rfl
@[simp] theorem NI (W:cV->List (Option AV)->List ad->Prop):C2 W Q .normal v b=W Q v b:=rfl
@[simp] theorem Tf (W:cV->List (Option AV)->List ad->Prop):C2 W Q .ret v b=Q .ret v b:=rfl
@[simp] theorem Q4 (W:cV->List (Option AV)->List ad->Prop) (i:Nat):C2 W Q (.exit i) v b=Q (.exit i) v b:=rfl
@[simp] theorem Tg:pH (some (v,b)) Q=Q .normal v b:=rfl
@[simp] theorem Th:pH none Q=False:=rfl
@[simp] theorem Q5 (x:Bool) (p q:Prop):zf (some (.bool x)) p q=if x=true then p else q:=by cases x <;> simp [zf]
@[simp] theorem NJ (i:Nat):leave i .normal= .normal:=rfl
@[simp] theorem Ti (i:Nat):leave i .ret= .ret:=rfl
@[simp] theorem Q6 (i j:Nat):leave i (.exit j)=if j=i then .normal else .exit j:=rfl
@[simp] theorem Px (own:Bool) (res:List Mz) (n:Nat) (r:AV×List ad):C3 c own res n r .normal v b=(Ij c own res n v b=some r):=rfl
@[simp] theorem VD (own:Bool) (res:List Mz) (n:Nat) (r:AV×List ad):C3 c own res n r .ret v b=(Ij c own res n v b=some r):=rfl
@[simp] theorem Tj (p q:Bool):H9 (some (.bool p)) (some (.bool q))=some (.bool (p&&q)):=by cases p <;> rfl
@[simp] theorem VE (p q:Bool):Te (some (.bool p)) (some (.bool q))=some (.bool (p || q)):=by cases p <;> rfl
@[simp] theorem Tk (x:Option AV):H9 (some (.bool true)) x=x:=rfl
@[simp] theorem Q7 (x:Option AV):H9 (some (.bool false)) x=some (.bool false):=rfl
@[simp] theorem VF (x:Option AV):Te (some (.bool true)) x=some (.bool true):=rfl
@[simp] theorem Tl (x:Option AV):Te (some (.bool false)) x=x:=rfl
@[simp] theorem aay (a:AV) (f:AV->Option AV):Fe (some a) f=f a:=rfl
@[simp] theorem aaz (a d:AV) (f:AV->AV->Option AV):GX (some a) (some d) f=f a d:=rfl
@[simp] theorem aaA (a d e:AV) (f:AV->AV->AV->Option AV):My (some a) (some d) (some e) f=f a d e:=rfl
@[simp] theorem Zk (a:AV):rN (some (a,.none))=some a:=rfl
end
attribute [simp] cx rq Av nT rB iJ AV.isNil jd Ii Kw bD pG bF dJ wS uH uG Ia GZ GY cA CI fA nk HP HO Aq Vy look eb c8 mG QV Ij Ky lQ Nw Kx eO AZ rI rJ tv uI je kD jc bc ev gA jH Tr.get c9.on asks wm lF mr yQ qj jK nK nM cN linked J0 jt qi er nh g9 wx ea jJ sW mw wu iH fa gB wq JZ eH qh im e8 wk Ar partOf elems iF iD dP kv c7 sX isZero sV uu lG As Au bh jI eqFields eqItems both eS AV.plain ai AV.flat flatAll nJ nj HT ni uv dC aU cn mv aR Ce AV.hand ky AV.under ar forget bO fb cK gb bytesOf byteOf k8 Cc Cd HQ HR dv qk AV.QQ AV.differ eT kr AV.apart e7
attribute [simp] List.getElem?_cons_zero
@[simp] theorem Tm (ty a:Nat) (v:Value):mA (.store ty (.tmp a) (.const v))= [a]:=rfl
@[simp] theorem Tn (ty a b:Nat):mA (.store ty (.tmp a) (.tmp b))= [a,b]:=rfl
@[simp] theorem To (ty a f:Nat):mA (.store ty (.tmp a) (.func f))= [a]:=rfl
@[simp] theorem MA (cs:List AV) (off:Nat) (v:List AV):cY (.agg cs) off v=if off+v.length<=cs.length∧ai v=true then some (.agg (ab cs off v)) else .none:=rfl
@[simp] theorem MC (k:IntKind) (n:Int) (k':IntKind) (n':Int):cY (.int k n) 0 [.int k' n']=some (.int k' n'):=rfl
@[simp] theorem MD (a b:List UInt8):cY (.str a) 0 [.str b]=some (.str b):=rfl
@[simp] theorem KF (a b:Bool):cY (.bool a) 0 [.bool b]=some (.bool b):=rfl
@[simp] theorem Tp (a:Option AV) (l:List (Option AV)):lK (a::l) 0=a:=rfl
@[simp] theorem Tq (a:Option AV) (l:List (Option AV)) (n:Nat):lK (a::l) (n+1)=lK l n:=rfl
@[simp] theorem Yv (a:ad) (l:List ad):ad.at (a::l) 0=a:=rfl
@[simp] theorem Yw (a:ad) (l:List ad) (n:Nat):ad.at (a::l) (n+1)=ad.at l n:=rfl
@[simp] theorem Zl (n:Nat):ad.at [] n= .dead:=by simp [ad.at]
@[simp] theorem Q8  :(AV.any).cz=false:=rfl
@[simp] theorem Ts  :(AV.any).cells= [(AV.any)]:=rfl
@[simp] theorem VG (bs:List ad)  :e9 bs (AV.any)=some (AV.any):=rfl
@[simp] theorem Q9  :(AV.kc).cz=true:=rfl
@[simp] theorem Tt  :(AV.kc).cells= [(AV.kc)]:=rfl
@[simp] theorem VH (bs:List ad)  :e9 bs (AV.kc)=some (AV.kc):=rfl
@[simp] theorem Ra (k:IntKind) (n:Int):(AV.int k n).cz=true:=rfl
@[simp] theorem Tu (k:IntKind) (n:Int):(AV.int k n).cells= [(AV.int k n)]:=rfl
@[simp] theorem VI (bs:List ad) (k:IntKind) (n:Int):e9 bs (AV.int k n)=some (AV.int k n):=rfl
@[simp] theorem Py (b:Bool):(AV.bool b).cz=true:=rfl
@[simp] theorem Rb (b:Bool):(AV.bool b).cells= [(AV.bool b)]:=rfl
@[simp] theorem Tv (bs:List ad) (b:Bool):e9 bs (AV.bool b)=some (AV.bool b):=rfl
@[simp] theorem MG (c:av) (ty:TypeId) (y:AV) (b:Bool):iG c ty .neq (AV.bool b) y=(bh c 20 ty (AV.bool b) y).map fun b=> .bool (!b):=by unfold iG;rfl
@[simp] theorem Rc (s:List UInt8):(AV.str s).cz=true:=rfl
@[simp] theorem Tw (s:List UInt8):(AV.str s).cells= [(AV.str s)]:=rfl
@[simp] theorem VJ (bs:List ad) (s:List UInt8):e9 bs (AV.str s)=some (AV.str s):=rfl
@[simp] theorem Re (cs:List AV):(AV.agg cs).cz=false:=rfl
@[simp] theorem Tx (cs:List AV):(AV.agg cs).cells=cs:=rfl
@[simp] theorem Rf  :(AV.any).leaves= [AV.any]:=rfl
@[simp] theorem Rg  :(AV.kc).leaves= [AV.kc]:=rfl
@[simp] theorem Rh (k:IntKind) (n:Int):(AV.int k n).leaves= [AV.int k n]:=rfl
@[simp] theorem Pz (b:Bool):(AV.bool b).leaves= [AV.bool b]:=rfl
@[simp] theorem Ri (s:List UInt8):(AV.str s).leaves= [AV.str s]:=rfl
@[simp] theorem Rj (vs:List AV):(AV.aL vs).leaves= [AV.aL vs]:=rfl
@[simp] theorem PA  :(AV.bZ).leaves= [AV.bZ]:=rfl
@[simp] theorem Rk (k off:Nat):(AV.ptr k off).leaves= [AV.ptr k off]:=rfl
@[simp] theorem PB (k n i off:Nat):(AV.cM k n i off).leaves= [AV.cM k n i off]:=rfl
@[simp] theorem PC (cs:List AV):(AV.dj cs).leaves= [AV.dj cs]:=rfl
@[simp] theorem Rm (nl:Option Bool) (sz:Nat) (es:List AV):(AV.ag nl sz es).leaves= [AV.ag nl sz es]:=rfl
@[simp] theorem PD (nl:Option Bool):(AV.cv nl).leaves= [AV.cv nl]:=rfl
@[simp] theorem Rn (k n:Nat):(AV.ax k n).leaves= [AV.ax k n]:=rfl
@[simp] theorem Ty (f:FuncId) (a b:List AV):(AV.fn f a b).leaves= [AV.fn f a b]:=rfl
@[simp] theorem PE  :(AV.eG).leaves= [AV.eG]:=rfl
@[simp] theorem Ro (b:Bool):(AV.gR b).leaves= [AV.gR b]:=rfl
@[simp] theorem Rp (t:TypeId) (k:IntKind) (n:Int):(AV.ma t k n).leaves= [AV.ma t k n]:=rfl
@[simp] theorem Rq (k:Nat) (s:Site) (env:List AV):(AV.gm k s env).leaves= [AV.gm k s env]:=rfl
@[simp] theorem VK (bs:List ad) (cs:List AV):e9 bs (AV.agg cs)=if ai cs=true then some (AV.agg cs) else (dC bs cs).map .agg:=by simp only [e9];cases ai cs <;> rfl
@[simp] theorem Rr (cs:List AV):(AV.agg cs).leaves=if ai cs=true then [] else aU cs:=by simp only [AV.leaves];cases ai cs <;> rfl
@[simp] theorem NK (c:av) (ty:TypeId) (y:AV) (cs:List AV):iG c ty .eql (AV.agg cs) y=(bh c 20 ty (AV.agg cs) y).map .bool:=by unfold iG;rfl
@[simp] theorem NM (c:av) (ty:TypeId) (y:AV) (cs:List AV):iG c ty .neq (AV.agg cs) y=(bh c 20 ty (AV.agg cs) y).map fun b=> .bool (!b):=by unfold iG;rfl
@[simp] theorem Rs (vs:List AV):(AV.aL vs).cz=false:=rfl
@[simp] theorem Tz (vs:List AV):(AV.aL vs).cells= [(AV.aL vs)]:=rfl
@[simp] theorem VL (bs:List ad) (vs:List AV):e9 bs (AV.aL vs)=some (AV.aL vs):=rfl
@[simp] theorem NO (c:av) (ty:TypeId) (y:AV) (vs:List AV):iG c ty .eql (AV.aL vs) y=(bh c 20 ty (AV.aL vs) y).map .bool:=by unfold iG;rfl
@[simp] theorem NP (c:av) (ty:TypeId) (y:AV) (vs:List AV):iG c ty .neq (AV.aL vs) y=(bh c 20 ty (AV.aL vs) y).map fun b=> .bool (!b):=by unfold iG;rfl
@[simp] theorem PF  :(AV.bZ).cz=true:=rfl
@[simp] theorem Rt  :(AV.bZ).cells= [(AV.bZ)]:=rfl
@[simp] theorem TA (bs:List ad)  :e9 bs (AV.bZ)=some (AV.bZ):=rfl
@[simp] theorem MH (c:av) (ty:TypeId) (y:AV)  :iG c ty .eql (AV.bZ) y=(bh c 20 ty (AV.bZ) y).map .bool:=by unfold iG;rfl
@[simp] theorem MI (c:av) (ty:TypeId) (y:AV)  :iG c ty .neq (AV.bZ) y=(bh c 20 ty (AV.bZ) y).map fun b=> .bool (!b):=by unfold iG;rfl
@[simp] theorem Ru (k off:Nat):(AV.ptr k off).cz=true:=rfl
@[simp] theorem TB (k off:Nat):(AV.ptr k off).cells= [(AV.ptr k off)]:=rfl
@[simp] theorem VM (bs:List ad) (k off:Nat):e9 bs (AV.ptr k off)=some (AV.ptr k off):=rfl
@[simp] theorem NQ (c:av) (ty:TypeId) (y:AV) (k off:Nat):iG c ty .eql (AV.ptr k off) y=(bh c 20 ty (AV.ptr k off) y).map .bool:=by unfold iG;rfl
@[simp] theorem NR (c:av) (ty:TypeId) (y:AV) (k off:Nat):iG c ty .neq (AV.ptr k off) y=(bh c 20 ty (AV.ptr k off) y).map fun b=> .bool (!b):=by unfold iG;rfl
@[simp] theorem PG (k n i off:Nat):(AV.cM k n i off).cz=true:=rfl
@[simp] theorem Rv (k n i off:Nat):(AV.cM k n i off).cells= [(AV.cM k n i off)]:=rfl
@[simp] theorem TC (bs:List ad) (k n i off:Nat):e9 bs (AV.cM k n i off)=some (AV.cM k n i off):=rfl
@[simp] theorem PH (cs:List AV):(AV.dj cs).cz=true:=rfl
@[simp] theorem Rw (cs:List AV):(AV.dj cs).cells= [(AV.dj cs)]:=rfl
@[simp] theorem TD (bs:List ad) (cs:List AV):e9 bs (AV.dj cs)=some (AV.dj cs):=rfl
@[simp] theorem Rx (nl:Option Bool) (sz:Nat) (es:List AV):(AV.ag nl sz es).cz=true:=rfl
@[simp] theorem TE (nl:Option Bool) (sz:Nat) (es:List AV):(AV.ag nl sz es).cells= [(AV.ag nl sz es)]:=rfl
@[simp] theorem VN (bs:List ad) (nl:Option Bool) (sz:Nat) (es:List AV):e9 bs (AV.ag nl sz es)=some (AV.ag nl sz es):=rfl
@[simp] theorem NT (c:av) (ty:TypeId) (y:AV) (nl:Option Bool) (sz:Nat) (es:List AV):iG c ty .eql (AV.ag nl sz es) y=(bh c 20 ty (AV.ag nl sz es) y).map .bool:=by unfold iG;rfl
@[simp] theorem PI (nl:Option Bool):(AV.cv nl).cz=true:=rfl
@[simp] theorem Ry (nl:Option Bool):(AV.cv nl).cells= [(AV.cv nl)]:=rfl
@[simp] theorem TF (bs:List ad) (nl:Option Bool):e9 bs (AV.cv nl)=some (AV.cv nl):=rfl
@[simp] theorem Rz (k n:Nat):(AV.ax k n).cz=true:=rfl
@[simp] theorem TG (k n:Nat):(AV.ax k n).cells= [(AV.ax k n)]:=rfl
@[simp] theorem TH (f:FuncId) (first caps:List AV):(AV.fn f first caps).cz=true:=rfl
@[simp] theorem VO (f:FuncId) (first caps:List AV):(AV.fn f first caps).cells= [(AV.fn f first caps)]:=rfl
@[simp] theorem Yx (bs:List ad) (f:FuncId) (first caps:List AV):e9 bs (AV.fn f first caps)=some (AV.fn f first caps):=rfl
@[simp] theorem PJ  :(AV.eG).cz=true:=rfl
@[simp] theorem RA  :(AV.eG).cells= [(AV.eG)]:=rfl
@[simp] theorem TJ (bs:List ad)  :e9 bs (AV.eG)=some (AV.eG):=rfl
@[simp] theorem RB (b:Bool):(AV.gR b).cz=true:=rfl
@[simp] theorem RC (t:TypeId) (k:IntKind) (n:Int):(AV.ma t k n).cz=true:=rfl
@[simp] theorem TK (b:Bool):(AV.gR b).cells= [(AV.gR b)]:=rfl
@[simp] theorem TL (t:TypeId) (k:IntKind) (n:Int):(AV.ma t k n).cells= [(AV.ma t k n)]:=rfl
@[simp] theorem VP (bs:List ad) (b:Bool):e9 bs (AV.gR b)=some (AV.gR b):=rfl
@[simp] theorem VQ (bs:List ad) (t:TypeId) (k:IntKind) (n:Int):e9 bs (AV.ma t k n)=some (AV.ma t k n):=rfl
@[simp] theorem RE (k:Nat) (s:Site) (env:List AV):(AV.gm k s env).cz=true:=rfl
@[simp] theorem TM (k:Nat) (s:Site) (env:List AV):(AV.gm k s env).cells= [AV.gm k s env]:=rfl
@[simp] theorem VR (bs:List ad) (k:Nat) (s:Site) (env:List AV):e9 bs (AV.gm k s env)=some (AV.gm k s env):=rfl
@[simp] theorem VS (bs:List ad) (k n:Nat):e9 bs (.ax k n)=match ad.at bs k with | .sl _ sz es=>if n=es.length then some (.ag .none sz es) else .none | _=> .none:=rfl
@[simp] theorem VT (c:av) (ty:TypeId) (op:BinOp) (k k':IntKind) (a b:Int):iG c ty op (.int k a) (.int k' b)=match op with | .shl=>mr .shl k a b | .shr=>mr .shr k a b | op=>if k=k' then lF op k a b else none:=rfl
@[simp] theorem VU (c:av) (ty:TypeId) (op:BinOp) (a b:List UInt8):iG c ty op (.str a) (.str b)=yQ op a b:=rfl
@[simp] theorem Yy (k:IntKind) (n:Int):M7 .neg (.int k n)=lF .sub k 0 n:=rfl
@[simp] theorem Yz (k:IntKind) (n:Int):M7 .xor (.int k n)=lF .xor k (if k.signed then -1 else k.max) n:=rfl
@[simp] theorem YA (b:Bool):M7 .not (.bool b)=some (.bool (!b)):=rfl
@[simp] theorem RF (k k':IntKind) (n:Int):Fb k (.int k' n)=some (.int k (k.wrap n)):=rfl
@[simp] theorem TO (s:List UInt8):Km (.str s)=some (.int .i64 s.length):=rfl
@[simp] theorem RG (s:List UInt8) (lo hi:Option AV):qw (.str s) lo hi=match c7 hi s.length s.length with | some h=>(match c7 lo 0 h with | some l=>some (.str ((s.take h).drop l)) | none=>none) | none=>none:=rfl
@[simp] theorem VV  :(AV.any).soft=(AV.any):=rfl
@[simp] theorem TP  :(AV.any).dD=(AV.any):=rfl
@[simp] theorem VW  :(AV.kc).soft=(AV.kc):=rfl
@[simp] theorem TQ  :(AV.kc).dD=(AV.kc):=rfl
@[simp] theorem VX (k:IntKind) (n:Int):(AV.int k n).soft=(AV.int k n):=rfl
@[simp] theorem TR (k:IntKind) (n:Int):(AV.int k n).dD=(AV.int k n):=rfl
@[simp] theorem TS (b:Bool):(AV.bool b).soft=(AV.bool b):=rfl
@[simp] theorem RH (b:Bool):(AV.bool b).dD=(AV.bool b):=rfl
@[simp] theorem VY (s:List UInt8):(AV.str s).soft=(AV.str s):=rfl
@[simp] theorem TU (s:List UInt8):(AV.str s).dD=(AV.str s):=rfl
@[simp] theorem VZ (vs:List AV):(AV.aL vs).soft=(AV.aL vs):=rfl
@[simp] theorem TV (vs:List AV):(AV.aL vs).dD=(AV.aL vs):=rfl
@[simp] theorem TW  :(AV.bZ).soft=(AV.bZ):=rfl
@[simp] theorem RI  :(AV.bZ).dD=(AV.bZ):=rfl
@[simp] theorem V0 (k off:Nat):(AV.ptr k off).soft=(AV.ptr k off):=rfl
@[simp] theorem TX (k off:Nat):(AV.ptr k off).dD=(AV.ptr k off):=rfl
@[simp] theorem TY (k n i off:Nat):(AV.cM k n i off).soft=(AV.cM k n i off):=rfl
@[simp] theorem RJ (k n i off:Nat):(AV.cM k n i off).dD=(AV.cM k n i off):=rfl
@[simp] theorem TZ (cs:List AV):(AV.dj cs).soft=(AV.dj cs):=rfl
@[simp] theorem RL (cs:List AV):(AV.dj cs).dD=(AV.dj cs):=rfl
@[simp] theorem V5 (nl:Option Bool) (sz:Nat) (es:List AV):(AV.ag nl sz es).soft=(AV.ag nl sz es):=rfl
@[simp] theorem T0 (nl:Option Bool) (sz:Nat) (es:List AV):(AV.ag nl sz es).dD=(AV.ag nl sz es):=rfl
@[simp] theorem V6 (k n:Nat):(AV.ax k n).soft=(AV.ax k n):=rfl
@[simp] theorem T1 (k n:Nat):(AV.ax k n).dD=(AV.ax k n):=rfl
@[simp] theorem V7 (k n lo hi:Nat):(AV.gn k n lo hi).soft=(AV.gn k n lo hi):=rfl
@[simp] theorem T2 (k n lo hi:Nat):(AV.gn k n lo hi).dD=(AV.gn k n lo hi):=rfl
@[simp] theorem YB (f:FuncId) (a b:List AV):(AV.fn f a b).soft=(AV.fn f a b):=rfl
@[simp] theorem V8 (f:FuncId) (a b:List AV):(AV.fn f a b).dD=(AV.fn f a b):=rfl
@[simp] theorem T3  :(AV.eG).soft=(AV.eG):=rfl
@[simp] theorem RM  :(AV.eG).dD=(AV.eG):=rfl
@[simp] theorem V9 (b:Bool):(AV.gR b).soft=(AV.gR b):=rfl
@[simp] theorem Wa (t:TypeId) (k:IntKind) (n:Int):(AV.ma t k n).soft=(AV.ma t k n):=rfl
@[simp] theorem T4 (b:Bool):(AV.gR b).dD=(AV.gR b):=rfl
@[simp] theorem T5 (t:TypeId) (k:IntKind) (n:Int):(AV.ma t k n).dD=(AV.ma t k n):=rfl
@[simp] theorem Wb (k:Nat) (s:Site) (env:List AV):(AV.gm k s env).soft=(AV.gm k s env):=rfl
@[simp] theorem T6 (k:Nat) (s:Site) (env:List AV):(AV.gm k s env).dD=(AV.gm k s env):=rfl
@[simp] theorem T7 (k:Nat):(AV.bT k).soft=(AV.bT k):=rfl
@[simp] theorem RN (k:Nat):(AV.bT k).dD=(AV.bT k):=rfl
@[simp] theorem Wc (k:Nat):(AV.lE k).soft=(AV.lE k):=rfl
@[simp] theorem T8 (k:Nat):(AV.lE k).dD=(AV.lE k):=rfl
@[simp] theorem T9  :(AV.ja).soft=(AV.ja):=rfl
@[simp] theorem RO  :(AV.ja).dD=(AV.ja):=rfl
@[simp] theorem Wd (cs:List AV):(AV.agg cs).soft= .agg (cs.map AV.dD):=rfl
@[simp] theorem Ua (nl:Option Bool):(AV.cv nl).soft= .ag nl 0 []:=rfl
@[simp] theorem Ub (cs:List AV):(AV.agg cs).dD= .agg cs:=rfl
@[simp] theorem RP (nl:Option Bool):(AV.cv nl).dD= .ag nl 0 []:=rfl
@[simp] theorem Uc (c:UInt8):(ak c).soft=ak c:=rfl
end Go.Am
namespace Go.Am
theorem wrap_i64 {x:Int} (h1: -9223372036854775808<=x) (h2:x<9223372036854775808):IntKind.i64.wrap x=x:=by
 have e:IntKind.i64.wrap x=if x%18446744073709551616≥9223372036854775808 then x%18446744073709551616-18446744073709551616 else x%18446744073709551616:=by simp [IntKind.wrap,IntKind.bits,IntKind.signed]
 rw [e];split <;> omega
theorem wrap_u8 {x:Int} (h1:0<=x) (h2:x<256):IntKind.u8.wrap x=x:=by simp only [IntKind.wrap,IntKind.bits,IntKind.signed,Bool.false_and];rw [if_neg (by simp)];omega
@[simp] theorem We (i n:Nat):Int.tmod (i:Int) (no_index (OfNat.ofNat n):Int)=((i%n:Nat):Int):=(Int.ofNat_tmod i n).symm
@[simp] theorem YC (i n:Nat):0<=(i:Int)%(no_index (OfNat.ofNat n):Int):=acm (i%n)
@[simp] theorem toNat_emod (i n:Nat):((i:Int)%(no_index (OfNat.ofNat n):Int)).toNat=i%n:=aa5 (i%n)
@[simp] theorem YD (i n:Nat):0<=(i:Int) / (no_index (OfNat.ofNat n):Int):=acm (i / n)
@[simp] theorem RQ (i n:Nat):((i:Int) / (no_index (OfNat.ofNat n):Int)).toNat=i / n:=aa5 (i / n)
theorem oS {n:Nat} (h:n<=1000000000000):n<=wh:=by unfold wh;omega
theorem ki {n:Nat} (h:n<=1000000000000):n<=bX:=by unfold bX;omega
theorem kj {n:Nat} (h:n<=10000000):n<=nI:=by unfold nI;omega
theorem jh {n:Int} (h:n<=1000000000000):n<=(bX:Int):=by unfold bX;omega
section
variable (bs l:List ad) (j:Nat) (x:ad)
theorem fG {k:Nat} (h:k<bs.length):ad.at (bs++l) k=ad.at bs k:=by simp only [ad.at,aaE,List.getElem?_append_left h]
@[simp] theorem eC:ad.at (bs++l) (bs.length+j)=ad.at l j:=by simp only [ad.at,aaE,abW (aco _ _),acn]
@[simp] theorem yJ:ad.at (bs++l) bs.length=ad.at l 0:=eC bs l 0
@[simp] theorem dZ:(bs++l)[bs.length+j]?=l[j]?:=by rw [abW (aco _ _),acn]
@[simp] theorem RS:(bs++l)[bs.length]?=l[0]?:=dZ bs l 0
@[simp] theorem cX:(bs++l).set (bs.length+j) x=bs++l.set j x:=by rw [List.set_append_right _ _ (aco _ _),acn]
@[simp] theorem v8:(bs++l).set bs.length x=bs++l.set 0 x:=cX bs l 0 x
end
def cL (m:Nat) (sh:Hd):Bool:=
 match sh.link with
 | some (_,_,k,_)=>decide (k<m)
 | none=>true
@[simp] theorem KG (m:Nat) (o:Bool) (t:Option TypeId):cL m ⟨o,t,none⟩=true:=rfl
@[simp] theorem MJ (n:Nat) (o:Bool) (t:Option TypeId):fb n ⟨o,t,none⟩=⟨o,t,none⟩:=rfl
theorem r9 {m n:Nat} (h:m<=n) {sh:Hd} (hl:cL m sh=true):cL n sh=true:=by
 unfold cL at*
 split
 ·rename_i hs;rw [hs] at hl;simp only [decide_eq_true_eq] at hl⊢;omega
 ·rfl
theorem xn {n:Nat} {sh:Hd} (hl:cL n sh=true):fb n sh=sh:=by
 unfold cL at hl;unfold fb;split
 ·rename_i hs;rw [hs] at hl;simp only [decide_eq_true_eq] at hl;rw [if_pos hl]
 ·rfl
def db (m:Nat):List (AV×AV×Nat)->Bool
 | []=>true
 | e::r=>e.2.1.under m&&db m r
@[simp] theorem PK (m:Nat):db m []=true:=rfl
theorem uO {α:Type} {f:α->AV×AV×Nat} {m:Nat} (h: ∀x,(f x).2.1.under m=true): ∀l:List α,db m (l.map f)=true
 | []=>rfl
 | a::l=>by simp only [aaM,db,h,uO h l,Bool.and_true]
def shut (m:Nat):List ad->Bool
 | []=>true
 | .var _ cs::r=>ar m cs&&shut m r
 | .mp es _::r=>db m es&&shut m r
 | .sl sh _ _::r=>cL m sh&&shut m r
 | _::r=>shut m r
mutual
theorem Dc {m n:Nat} (h:m<=n): ∀(v:AV),v.under m=true->v.under n=true
 | .ptr k _,hu=>by simp only [AV.under,decide_eq_true_eq] at hu⊢;omega
 | .cM k _ _ _,hu=>by simp only [AV.under,decide_eq_true_eq] at hu⊢;omega
 | .ax k _,hu=>by simp only [AV.under,decide_eq_true_eq] at hu⊢;omega
 | .gn k _ _ _,hu=>by simp only [AV.under,decide_eq_true_eq] at hu⊢;omega
 | .bT k,hu=>by simp only [AV.under,decide_eq_true_eq] at hu⊢;omega
 | .lE k,hu=>by simp only [AV.under,decide_eq_true_eq] at hu⊢;omega
 | .ja,_=>rfl
 | .agg cs,hu=>by simp only [AV.under] at hu⊢;exact ei h cs hu
 | .aL cs,hu=>by simp only [AV.under] at hu⊢;exact ei h cs hu
 | .fn f a b,hu=>by
  simp only [AV.under,abj] at hu⊢;exact ⟨ei h a hu.1,ei h b hu.2⟩
 | .any,_=>rfl
 | .kc,_=>rfl
 | .int _ _,_=>rfl
 | .bool _,_=>rfl
 | .str _,_=>rfl
 | .bZ,_=>rfl
 | .dj _,_=>rfl
 | .ag _ _ _,_=>rfl
 | .cv _,_=>rfl
 | .eG,_=>rfl
 | .gR _,_=>rfl
 | .ma _ _ _,_=>rfl
 | .gm k _ env,hu=>by
  simp only [AV.under,abj,decide_eq_true_eq] at hu⊢;exact ⟨by omega,ei h env hu.2⟩
theorem ei {m n:Nat} (h:m<=n): ∀(l:List AV),ar m l=true->ar n l=true
 | [],_=>rfl
 | v::r,hu=>by
  simp only [ar,abj] at hu⊢;exact ⟨Dc h v hu.1,ei h r hu.2⟩
end
theorem sa {n:Nat}: ∀{l:List AV},ar n l=true->l.map (forget n)=l
 | [],_=>rfl
 | v::r,h=>by
  simp only [ar,abj] at h;simp only [aaM,forget,h.1,sa h.2]
theorem qH {m n:Nat} (h:m<=n): ∀(l:List (AV×AV×Nat)),db m l=true->db n l=true
 | [],_=>rfl
 | e::r,hu=>by
  simp only [db,abj] at hu⊢;exact ⟨Dc h _ hu.1,qH h r hu.2⟩
theorem oh {n:Nat}: ∀{l:List (AV×AV×Nat)},db n l=true->l.map (cK n)=l
 | [],_=>rfl
 | e::r,h=>by
  simp only [db,abj] at h;simp only [aaM,cK,forget,h.1,oh h.2]
theorem shut_map {m n:Nat} (hn:m<=n): ∀{bs:List ad},shut m bs=true->bs.map (bO n)=bs
 | [],_=>rfl
 | .var ty cs::r,h=>by
  simp only [shut,abj] at h;simp only [aaM,bO,sa (ei hn cs h.1),shut_map hn h.2]
 | .sl sh sz es::r,h=>by
  simp only [shut,abj] at h;simp only [aaM,bO,xn (r9 hn h.1),shut_map hn h.2]
 | .dead::r,h=>by simp only [aaM,bO,shut_map hn (by simpa [shut] using h)]
 | .loop st::r,h=>by simp only [aaM,bO,shut_map hn (by simpa [shut] using h)]
 | .mp es clock::r,h=>by
  simp only [shut,abj] at h;simp only [aaM,bO,oh (qH hn es h.1),shut_map hn h.2]
 | .gone::r,h=>by simp only [aaM,bO,shut_map hn (by simpa [shut] using h)]
 | .iter o::r,h=>by simp only [aaM,bO,shut_map hn (by simpa [shut] using h)]
theorem eF (n:Nat): ∀(l m:List ad),shut n (l++m)=(shut n l&&shut n m)
 | [],m=>rfl
 | .var ty cs::l,m=>by simp only [abI,shut,eF n l m,ack]
 | .sl _ _ _::l,m=>by simp only [abI,shut,eF n l m,ack]
 | .dead::l,m=>by simp only [abI,shut,eF n l m]
 | .loop _::l,m=>by simp only [abI,shut,eF n l m]
 | .mp _ _::l,m=>by simp only [abI,shut,eF n l m,ack]
 | .gone::l,m=>by simp only [abI,shut,eF n l m]
 | .iter _::l,m=>by simp only [abI,shut,eF n l m]
theorem jj {m n:Nat} (h:m<=n): ∀{bs:List ad},shut m bs=true->shut n bs=true
 | [],_=>rfl
 | .var ty cs::l,hs=>by
  simp only [shut,abj] at hs⊢;exact ⟨ei h cs hs.1,jj h hs.2⟩
 | .sl _ _ _::l,hs=>by
  simp only [shut,abj] at hs⊢;exact ⟨r9 h hs.1,jj h hs.2⟩
 | .dead::l,hs=>by simp only [shut] at hs⊢;exact jj h hs
 | .loop _::l,hs=>by simp only [shut] at hs⊢;exact jj h hs
 | .mp es _::l,hs=>by
  simp only [shut,abj] at hs⊢;exact ⟨qH h es hs.1,jj h hs.2⟩
 | .gone::l,hs=>by simp only [shut] at hs⊢;exact jj h hs
 | .iter _::l,hs=>by simp only [shut] at hs⊢;exact jj h hs
def pF (J:List ad):Prop:= ∀n,shut n J=true
theorem pF.app {J K:List ad} (h:pF J) (k:pF K):pF (J++K):=fun n=>by rw [eF,h n,k n];rfl
theorem zj {n:Nat}: ∀{bs:List ad} (k:Nat) {x:ad},shut n bs=true->shut n [x]=true->shut n (bs.set k x)=true
 | [],_,_,_,_=>rfl
 | b::r,0,x,h,hx=>by
  cases x <;> cases b <;> simp_all [shut]
 | b::r,k+1,x,h,hx=>by
  have:=fun (h:shut n r=true)=>zj (bs:=r) k h hx;cases b <;> simp_all [shut]
theorem pF.set {J:List ad} (h:pF J) (k:Nat) {x:ad} (hx:pF [x]):pF (J.set k x):=fun n=>zj k (h n) (hx n)
def BF (x:BitVec 64):AV:= .int .u64 (x.toNat:Int)
section
variable (c:av) (ty:TypeId) (x y:BitVec 64)
@[simp] theorem Ud:(BF x).plain=true:=rfl
@[simp] theorem Wf:(BF x).flat=true:=rfl
@[simp] theorem RT:(BF x).cz=true:=rfl
@[simp] theorem Ue:(BF x).cells= [BF x]:=rfl
@[simp] theorem Uf (n:Nat):(BF x).under n=true:=rfl
@[simp] theorem Wg (n:Nat) (bs:List ad):(BF x).hand n bs=some (BF x):=rfl
@[simp] theorem Wh (bs:List ad):e9 bs (BF x)=some (BF x):=rfl
end
section
variable {α:Type} {f:α->AV}
theorem cQ (h: ∀x,(f x).plain=true): ∀l:List α,ai (l.map f)=true
 | []=>rfl
 | a::l=>by simp only [aaM,ai,h,cQ h l,Bool.and_self]
end
section
variable (l:List (BitVec 64))
end
@[simp] theorem Ju (n:Nat):forget n∘BF=BF:=rfl
section
variable (c:av) (ty:TypeId) (x y:UInt8)
@[simp] theorem NU:(ak x).plain=true:=rfl
@[simp] theorem PL:(ak x).flat=true:=rfl
@[simp] theorem MK:(ak x).cz=true:=rfl
@[simp] theorem NW:(ak x).cells= [ak x]:=rfl
@[simp] theorem NY (n:Nat):(ak x).under n=true:=rfl
@[simp] theorem PM (n:Nat) (bs:List ad):(ak x).hand n bs=some (ak x):=rfl
@[simp] theorem PN (bs:List ad):e9 bs (ak x)=some (ak x):=rfl
@[simp] theorem yk:byteOf (ak x)=some x:=by simp [ak,byteOf]
@[simp] theorem Ip:cY (ak x) 0 [ak y]=some (ak y):=rfl
end
section
variable (l:List UInt8)
@[simp] theorem KH:bytesOf (l.map ak)=some l:=by
 induction l with
 | nil=>rfl
 | cons a l ih=>simp only [aaM,bytesOf,yk,ih]
theorem o9 {d:List UInt8} {i:Nat} (h:i<d.length):d[i]?=some (d.getD i 0):=by simp [aaE,List.getElem?_eq_getElem h]
end
def yl (n:Nat):AV:= .int .i64 (n:Int)
section
variable (x:Nat)
@[simp] theorem RU:(yl x).plain=true:=rfl
@[simp] theorem Ug:(yl x).flat=true:=rfl
@[simp] theorem PO:(yl x).cz=true:=rfl
@[simp] theorem RV:(yl x).cells= [yl x]:=rfl
@[simp] theorem RW (n:Nat):(yl x).under n=true:=rfl
@[simp] theorem Uh (n:Nat) (bs:List ad):(yl x).hand n bs=some (yl x):=rfl
@[simp] theorem Ui (bs:List ad):e9 bs (yl x)=some (yl x):=rfl
end
section
variable (l:List Nat)
end
end Go.Am
namespace Go.Am
section
variable {a b:Int}
theorem Zm (h:a<=b):(a<=b)=True:=eq_true h
theorem Wi (h: ¬ a<=b):(a<=b)=False:=eq_false h
theorem Zn (h:a<b):(a<b)=True:=eq_true h
theorem Wj (h: ¬ a<b):(a<b)=False:=eq_false h
theorem Zo (h:a=b):(a=b)=True:=eq_true h
theorem Wk (h: ¬ a=b):(a=b)=False:=eq_false h
end
section
variable {a b:Nat}
theorem Zp (h:a<=b):(a<=b)=True:=eq_true h
theorem Wl (h: ¬ a<=b):(a<=b)=False:=eq_false h
theorem Zq (h:a<b):(a<b)=True:=eq_true h
theorem Wm (h: ¬ a<b):(a<b)=False:=eq_false h
theorem Zr (h:a=b):(a=b)=True:=eq_true h
theorem Wn (h: ¬ a=b):(a=b)=False:=eq_false h
end
theorem om:(∀{a b:Int},a<=b->(a<=b)=True)∧(∀{a b:Int},¬ a<=b->(a<=b)=False)∧(∀{a b:Int},a<b->(a<b)=True)∧(∀{a b:Int},¬ a<b->(a<b)=False)∧(∀{a b:Int},a=b->(a=b)=True)∧(∀{a b:Int},¬ a=b->(a=b)=False)∧
  (∀{a b:Nat},a<=b->(a<=b)=True)∧(∀{a b:Nat},¬ a<=b->(a<=b)=False)∧(∀{a b:Nat},a<b->(a<b)=True)∧(∀{a b:Nat},¬ a<b->(a<b)=False)∧(∀{a b:Nat},a=b->(a=b)=True)∧(∀{a b:Nat},¬ a=b->(a=b)=False)∧
  (∀{x:Int},-9223372036854775808<=x->x<9223372036854775808->IntKind.i64.wrap x=x)∧(∀{n:Nat},n<=1000000000000->n<=wh)∧(∀{n:Nat},n<=1000000000000->n<=bX)∧(∀{n:Nat},n<=10000000->n<=nI)∧(∀{n:Int},n<=1000000000000->n<=(bX:Int)):=
 ⟨Zm,Wi,Zn,Wj,Zo,Wk,Zp,Wl,Zq,Wm,Zr,Wn,wrap_i64,oS,ki,kj,jh⟩
theorem tA (c:UInt8):AV.int .u8 (c.toNat:Int)=ak c:=rfl
theorem pJ: ∀l:List UInt8,k8 (l.map ak)=some l
 | []=>rfl
 | a::l=>by
  have h:=a.toNat_lt;have h2:=pJ l;simp only [aaM,ak,k8];rw [if_pos (by omega)];rw [h2];simp
end Go.Am
