/-
 Rules for proofs over the plainer form: 'simp' runs it; loops go by an invariant. Numbers, words and lists of the machine. Rules for 'simp' that ask its discharger (omega) whether a comparison of numbers is true or false; bytes of strings.
-/
import Derived.Test.YtfnkchadeaedlaaGreatDoorAmIr6
set_option linter.all false
namespace Go.Am
theorem Wp.aX {c:ax} {k:List Nat} {x:IR} {Q:cw} {α:Type} (m:α→Nat) (V:α→List (Option AV)) (B:α→List ad) (P:α→Prop)
  (step: ∀a,P a→Wp c x (fun e v' b'=>match e with
   | .normal=> ∃a',P a'∧m a'<m a∧jt k (po k (B a).length v' b')=V a'∧pq k (B a).length v' b'=B a'
   | e=>Q e v' b') (V a) (B a)) (a:α) (hp:P a) {v:List (Option AV)} (hv:jt k v=V a) {b:List ad} (hb:b=B a):Wp c (.loop k x) Q v b:=by
 subst hb
 have: ∀(n:Nat) (a:α),m a<n→P a→ ∀v,jt k v=V a→mX (Wp c x) k Q n v (B a):=by
  intro n
  induction n with
  | zero=>intro a h;omega
  | succ n ih=>
   intro a hn hp v hv;show Wp c x _ (jt k v) (B a);rw [hv];refine Wp.mono x (fun e v' b' hq=> ?_) _ _ (step a hp);cases e with
   | normal=>obtain ⟨a',h1,h2,h3,h4⟩:=hq;simp only;rw [h4];exact ih a' (by omega) h1 _ h3
   | ret=>exact hq
   | exit i=>exact hq
 exact ⟨m a+1,this (m a+1) a (by omega) hp v hv⟩
theorem Wp.qo {c:ax} {x:Nat} {s:Site} {Q:cw} {v:List (Option AV)} {b:List ad} {f:FuncId} {caps:List AV} (hx:j9 v x=some (.fn f [] caps)) (he:c.ext f=none) {r:AV} {b':List ad} {st:Ls} {e:Ex}
  (ha:aq c f (.fg b.length s (v.map (·.getD .any))::caps) (b++ [.loop .ready])=some (r,b')) (hb:ad.at b' b.length= .loop st) (hst:st=rR e) (hQ:Q e (x6 b.length v b') (de b.length b')):Wp c (.qo x s) Q v b:=by
 have ha':me c (.fn f) (.fg b.length s (v.map (·.getD .any))::caps) (b++ [.loop .ready])=some (r,b'):=ha;simp only [Wp,IA,xS,hx,he,ha',Iy,hb,hst];cases e <;> exact hQ
theorem Wp.zw {c:ax} {x k n i m clock:Nat} {its:List It} {seen:List Nat} {es:List (AV×AV×Nat)} {Q:cw} {v:List (Option AV)} {b:List ad} (hx:j9 v x=some (.jZ i)) (hi:ad.at b i= .iter (.map m seen clock)) (hm:ad.at b m= .mp es clock)
  (h0:(∀e∈es,seen.contains e.2.2=true)→ny (ba c (me c) b.length [] its (v.set k (some (.aI [.bool false]))) (b++List.replicate n .dead)) Q)
  (h1: ∀e∈es,seen.contains e.2.2=false→ny (ba c (me c) b.length [] its (v.set k (some (.aI [.bool true,e.1,e.2.1]))) (b.set i (.iter (.map m (seen++ [e.2.2]) clock))++List.replicate n .dead)) Q):Wp c (.zw x k n its) Q v b:=
 ⟨i,m,clock,seen,es,hx,hi,hm,h0,h1⟩
section
variable {c:ax} {Q:cw} {v:List (Option AV)} {b:List ad}
@[simp] theorem Sp:Wp c .skip Q v b=Q .normal v b:=rfl
@[simp] theorem Te:Wp c .ret Q v b=Q .ret v b:=rfl
@[simp] theorem P3:Wp c .stuck Q v b=False:=rfl
@[simp] theorem Tf (l:List pw):Wp c (.own l) Q v b=Q .normal (gF l v b).1 (gF l v b).2:=rfl
@[simp] theorem Sq (i:Nat):Wp c (.exit i) Q v b=Q (.exit i) v b:=rfl
@[simp] theorem LH (x y:IR):Wp c (.seq x y) Q v b=Wp c x (zP (Wp c y) Q) v b:=rfl
@[simp] theorem P4 (i:Nat) (x:IR):Wp c (.block i x) Q v b=Wp c x (fun e v b=>Q (leave i e) v b) v b:=rfl
@[simp] theorem Tg (l:List (Nat×List Nat×List It)):Wp c (.alt l) Q v b=(l≠ []∧ ∀x∈l,ny (ba c (me c) b.length x.2.1 x.2.2 v (b++List.replicate x.1 .dead)) Q):=rfl
@[simp] theorem Th (n:Nat) (kl:List Nat) (its:List It):Wp c (.bH n kl its) Q v b=ny (ba c (me c) b.length kl its v (b++List.replicate n .dead)) Q:=rfl
@[simp] theorem Sr (x:Nat) (p q:IR):Wp c (.cond x p q) Q v b=wF (j9 v x) (Wp c p Q (v.set x none) b) (Wp c q Q (v.set x none) b):=rfl
@[simp] theorem IG (W:cw→List (Option AV)→List ad→Prop):zP W Q .normal v b=W Q v b:=rfl
@[simp] theorem ND (W:cw→List (Option AV)→List ad→Prop):zP W Q .ret v b=Q .ret v b:=rfl
@[simp] theorem LI (W:cw→List (Option AV)→List ad→Prop) (i:Nat):zP W Q (.exit i) v b=Q (.exit i) v b:=rfl
@[simp] theorem NG:ny (some (v,b)) Q=Q .normal v b:=rfl
@[simp] theorem NH:ny none Q=False:=rfl
@[simp] theorem LJ (x:Bool) (p q:Prop):wF (some (.bool x)) p q=if x=true then p else q:=by cases x <;> simp [wF]
@[simp] theorem IH (i:Nat):leave i .normal= .normal:=rfl
@[simp] theorem NI (i:Nat):leave i .ret= .ret:=rfl
@[simp] theorem LK (i j:Nat):leave i (.exit j)=if j=i then .normal else .exit j:=rfl
@[simp] theorem J5 (own:Bool) (res:List HI) (n:Nat) (r:AV×List ad):zQ c own res n r .normal v b=(EF c own res n v b=some r):=rfl
@[simp] theorem P5 (own:Bool) (res:List HI) (n:Nat) (r:AV×List ad):zQ c own res n r .ret v b=(EF c own res n v b=some r):=rfl
@[simp] theorem NJ (p q:Bool):Ew (some (.bool p)) (some (.bool q))=some (.bool (p&&q)):=by cases p <;> rfl
@[simp] theorem P6 (p q:Bool):NC (some (.bool p)) (some (.bool q))=some (.bool (p || q)):=by cases p <;> rfl
@[simp] theorem NK (x:Option AV):Ew (some (.bool true)) x=x:=rfl
@[simp] theorem LL (x:Option AV):Ew (some (.bool false)) x=some (.bool false):=rfl
@[simp] theorem P7 (x:Option AV):NC (some (.bool true)) x=some (.bool true):=rfl
@[simp] theorem NL (x:Option AV):NC (some (.bool false)) x=x:=rfl
@[simp] theorem Un (a:AV) (f:AV→Option AV):Dv (some a) f=f a:=rfl
@[simp] theorem Uo (a d:AV) (f:AV→AV→Option AV):Il (some a) (some d) f=f a d:=rfl
@[simp] theorem Up (a d e:AV) (f:AV→AV→AV→Option AV):PZ (some a) (some d) (some e) f=f a d e:=rfl
@[simp] theorem Ti (a:AV):qJ (some (a,.none))=some a:=rfl
end
attribute [simp] eE pd xI iC AV.isNil gF ED Gx ba nw bj c9 tS rP rO Ey Dx Dw cn zy eN wb Ed Ec xE P0 look dv cF kS Lx EF Gz ki Ix Gy de x6 po pq eH rQ eX jt gE aP ev fq iw Tr.get cJ.on asks tr j0 kK v8 oe iB lP lQ dE linked F3 gW od dF rE fN tw dq iz qA kN tv gl ei fr tu F2 dQ oc fZ ef tq xF partOf elems gk iy db ji cE qB isZero qz rC j4 xG xH bB kL eqFields eqItems both dW AV.plain aj AV.flat flatAll lO nD o7 wa cV aM cH kM aH y7 AV.hand jj AV.under av forget bp ej dS gM bytesOf byteOf jH y5 y6 Ee Ef dt og AV.Lt AV.differ dX jh AV.apart ee
attribute [simp] List.getElem?_cons_zero
@[simp] theorem NM (ty a:Nat) (v:Value):qD (.store ty (.tmp a) (.const v))= [a]:=rfl
@[simp] theorem NN (ty a b:Nat):qD (.store ty (.tmp a) (.tmp b))= [a,b]:=rfl
@[simp] theorem NP (ty a f:Nat):qD (.store ty (.tmp a) (.func f))= [a]:=rfl
@[simp] theorem HJ (cs:List AV) (off:Nat) (v:List AV):cA (.agg cs) off v=if off+v.length≤cs.length∧aj v=true then some (.agg (af cs off v)) else .none:=rfl
@[simp] theorem HK (k:IntKind) (n:Int) (k':IntKind) (n':Int):cA (.int k n) 0 [.int k' n']=some (.int k' n'):=rfl
@[simp] theorem HL (a b:List UInt8):cA (.str a) 0 [.str b]=some (.str b):=rfl
@[simp] theorem GH (a b:Bool):cA (.bool a) 0 [.bool b]=some (.bool b):=rfl
@[simp] theorem NQ (a:Option AV) (l:List (Option AV)):j9 (a::l) 0=a:=rfl
@[simp] theorem NT (a:Option AV) (l:List (Option AV)) (n:Nat):j9 (a::l) (n+1)=j9 l n:=rfl
@[simp] theorem Ss (a:ad) (l:List ad):ad.at (a::l) 0=a:=rfl
@[simp] theorem Su (a:ad) (l:List ad) (n:Nat):ad.at (a::l) (n+1)=ad.at l n:=rfl
@[simp] theorem Tj (n:Nat):ad.at [] n= .dead:=by simp [ad.at]
@[simp] theorem LM  :(AV.any).bR=false:=rfl
@[simp] theorem NU  :(AV.any).cells= [(AV.any)]:=rfl
@[simp] theorem P8 (bs:List ad)  :eh bs (AV.any)=some (AV.any):=rfl
@[simp] theorem LN  :(AV.jG).bR=true:=rfl
@[simp] theorem NV  :(AV.jG).cells= [(AV.jG)]:=rfl
@[simp] theorem P9 (bs:List ad)  :eh bs (AV.jG)=some (AV.jG):=rfl
@[simp] theorem LO (k:IntKind) (n:Int):(AV.int k n).bR=true:=rfl
@[simp] theorem NW (k:IntKind) (n:Int):(AV.int k n).cells= [(AV.int k n)]:=rfl
@[simp] theorem Qa (bs:List ad) (k:IntKind) (n:Int):eh bs (AV.int k n)=some (AV.int k n):=rfl
@[simp] theorem J6 (b:Bool):(AV.bool b).bR=true:=rfl
@[simp] theorem LP (b:Bool):(AV.bool b).cells= [(AV.bool b)]:=rfl
@[simp] theorem NY (bs:List ad) (b:Bool):eh bs (AV.bool b)=some (AV.bool b):=rfl
@[simp] theorem LQ (s:List UInt8):(AV.str s).bR=true:=rfl
@[simp] theorem NZ (s:List UInt8):(AV.str s).cells= [(AV.str s)]:=rfl
@[simp] theorem Qb (bs:List ad) (s:List UInt8):eh bs (AV.str s)=some (AV.str s):=rfl
@[simp] theorem LR (cs:List AV):(AV.agg cs).bR=false:=rfl
@[simp] theorem N0 (cs:List AV):(AV.agg cs).cells=cs:=rfl
@[simp] theorem LS  :(AV.any).leaves= [AV.any]:=rfl
@[simp] theorem LU  :(AV.jG).leaves= [AV.jG]:=rfl
@[simp] theorem LV (k:IntKind) (n:Int):(AV.int k n).leaves= [AV.int k n]:=rfl
@[simp] theorem J7 (b:Bool):(AV.bool b).leaves= [AV.bool b]:=rfl
@[simp] theorem LW (s:List UInt8):(AV.str s).leaves= [AV.str s]:=rfl
@[simp] theorem LX (vs:List AV):(AV.aI vs).leaves= [AV.aI vs]:=rfl
@[simp] theorem J8  :(AV.bG).leaves= [AV.bG]:=rfl
@[simp] theorem LY (k off:Nat):(AV.ptr k off).leaves= [AV.ptr k off]:=rfl
@[simp] theorem J9 (k n i off:Nat):(AV.cj k n i off).leaves= [AV.cj k n i off]:=rfl
@[simp] theorem Ka (cs:List AV):(AV.cO cs).leaves= [AV.cO cs]:=rfl
@[simp] theorem LZ (nl:Option Bool) (sz:Nat) (es:List AV):(AV.ak nl sz es).leaves= [AV.ak nl sz es]:=rfl
@[simp] theorem Kb (nl:Option Bool):(AV.bW nl).leaves= [AV.bW nl]:=rfl
@[simp] theorem L0 (k n:Nat):(AV.az k n).leaves= [AV.az k n]:=rfl
@[simp] theorem N1 (f:FuncId) (a b:List AV):(AV.fn f a b).leaves= [AV.fn f a b]:=rfl
@[simp] theorem Kc  :(AV.dP).leaves= [AV.dP]:=rfl
@[simp] theorem L4 (b:Bool):(AV.fG b).leaves= [AV.fG b]:=rfl
@[simp] theorem L5 (t:TypeId) (k:IntKind) (n:Int):(AV.kE t k n).leaves= [AV.kE t k n]:=rfl
@[simp] theorem L6 (k:Nat) (s:Site) (env:List AV):(AV.fg k s env).leaves= [AV.fg k s env]:=rfl
@[simp] theorem Qc (bs:List ad) (cs:List AV):eh bs (AV.agg cs)=if aj cs=true then some (AV.agg cs) else (cV bs cs).map .agg:=by simp only [eh];cases aj cs <;> rfl
@[simp] theorem L7 (cs:List AV):(AV.agg cs).leaves=if aj cs=true then [] else aM cs:=by simp only [AV.leaves];cases aj cs <;> rfl
@[simp] theorem II (c:ax) (ty:TypeId) (y:AV) (cs:List AV):ja c ty .eql (AV.agg cs) y=(bB c 20 ty (AV.agg cs) y).map .bool:=by unfold ja;rfl
@[simp] theorem IJ (c:ax) (ty:TypeId) (y:AV) (cs:List AV):ja c ty .neq (AV.agg cs) y=(bB c 20 ty (AV.agg cs) y).map fun b=> .bool (!b):=by unfold ja;rfl
@[simp] theorem L8 (vs:List AV):(AV.aI vs).bR=false:=rfl
@[simp] theorem N2 (vs:List AV):(AV.aI vs).cells= [(AV.aI vs)]:=rfl
@[simp] theorem Qd (bs:List ad) (vs:List AV):eh bs (AV.aI vs)=some (AV.aI vs):=rfl
@[simp] theorem IK (c:ax) (ty:TypeId) (y:AV) (vs:List AV):ja c ty .eql (AV.aI vs) y=(bB c 20 ty (AV.aI vs) y).map .bool:=by unfold ja;rfl
@[simp] theorem Kd  :(AV.bG).bR=true:=rfl
@[simp] theorem L9  :(AV.bG).cells= [(AV.bG)]:=rfl
@[simp] theorem N3 (bs:List ad)  :eh bs (AV.bG)=some (AV.bG):=rfl
@[simp] theorem HM (c:ax) (ty:TypeId) (y:AV)  :ja c ty .eql (AV.bG) y=(bB c 20 ty (AV.bG) y).map .bool:=by unfold ja;rfl
@[simp] theorem HN (c:ax) (ty:TypeId) (y:AV)  :ja c ty .neq (AV.bG) y=(bB c 20 ty (AV.bG) y).map fun b=> .bool (!b):=by unfold ja;rfl
@[simp] theorem Ma (k off:Nat):(AV.ptr k off).bR=true:=rfl
@[simp] theorem N4 (k off:Nat):(AV.ptr k off).cells= [(AV.ptr k off)]:=rfl
@[simp] theorem Qe (bs:List ad) (k off:Nat):eh bs (AV.ptr k off)=some (AV.ptr k off):=rfl
@[simp] theorem IL (c:ax) (ty:TypeId) (y:AV) (k off:Nat):ja c ty .eql (AV.ptr k off) y=(bB c 20 ty (AV.ptr k off) y).map .bool:=by unfold ja;rfl
@[simp] theorem IM (c:ax) (ty:TypeId) (y:AV) (k off:Nat):ja c ty .neq (AV.ptr k off) y=(bB c 20 ty (AV.ptr k off) y).map fun b=> .bool (!b):=by unfold ja;rfl
@[simp] theorem Ke (k n i off:Nat):(AV.cj k n i off).bR=true:=rfl
@[simp] theorem Mb (k n i off:Nat):(AV.cj k n i off).cells= [(AV.cj k n i off)]:=rfl
@[simp] theorem N5 (bs:List ad) (k n i off:Nat):eh bs (AV.cj k n i off)=some (AV.cj k n i off):=rfl
@[simp] theorem Kf (cs:List AV):(AV.cO cs).bR=true:=rfl
@[simp] theorem Mc (cs:List AV):(AV.cO cs).cells= [(AV.cO cs)]:=rfl
@[simp] theorem N6 (bs:List ad) (cs:List AV):eh bs (AV.cO cs)=some (AV.cO cs):=rfl
@[simp] theorem Md (nl:Option Bool) (sz:Nat) (es:List AV):(AV.ak nl sz es).bR=true:=rfl
@[simp] theorem N7 (nl:Option Bool) (sz:Nat) (es:List AV):(AV.ak nl sz es).cells= [(AV.ak nl sz es)]:=rfl
@[simp] theorem Qf (bs:List ad) (nl:Option Bool) (sz:Nat) (es:List AV):eh bs (AV.ak nl sz es)=some (AV.ak nl sz es):=rfl
@[simp] theorem IN (c:ax) (ty:TypeId) (y:AV) (nl:Option Bool) (sz:Nat) (es:List AV):ja c ty .eql (AV.ak nl sz es) y=(bB c 20 ty (AV.ak nl sz es) y).map .bool:=by unfold ja;rfl
@[simp] theorem Kg (nl:Option Bool):(AV.bW nl).bR=true:=rfl
@[simp] theorem Me (nl:Option Bool):(AV.bW nl).cells= [(AV.bW nl)]:=rfl
@[simp] theorem N8 (bs:List ad) (nl:Option Bool):eh bs (AV.bW nl)=some (AV.bW nl):=rfl
@[simp] theorem Mf (k n:Nat):(AV.az k n).bR=true:=rfl
@[simp] theorem N9 (k n:Nat):(AV.az k n).cells= [(AV.az k n)]:=rfl
@[simp] theorem Oa (f:FuncId) (first caps:List AV):(AV.fn f first caps).bR=true:=rfl
@[simp] theorem Qg (f:FuncId) (first caps:List AV):(AV.fn f first caps).cells= [(AV.fn f first caps)]:=rfl
@[simp] theorem Sv (bs:List ad) (f:FuncId) (first caps:List AV):eh bs (AV.fn f first caps)=some (AV.fn f first caps):=rfl
@[simp] theorem Kh  :(AV.dP).bR=true:=rfl
@[simp] theorem Mg  :(AV.dP).cells= [(AV.dP)]:=rfl
@[simp] theorem Ob (bs:List ad)  :eh bs (AV.dP)=some (AV.dP):=rfl
@[simp] theorem Mh (b:Bool):(AV.fG b).bR=true:=rfl
@[simp] theorem Mi (t:TypeId) (k:IntKind) (n:Int):(AV.kE t k n).bR=true:=rfl
@[simp] theorem Oc (b:Bool):(AV.fG b).cells= [(AV.fG b)]:=rfl
@[simp] theorem Od (t:TypeId) (k:IntKind) (n:Int):(AV.kE t k n).cells= [(AV.kE t k n)]:=rfl
@[simp] theorem Qh (bs:List ad) (b:Bool):eh bs (AV.fG b)=some (AV.fG b):=rfl
@[simp] theorem Qi (bs:List ad) (t:TypeId) (k:IntKind) (n:Int):eh bs (AV.kE t k n)=some (AV.kE t k n):=rfl
@[simp] theorem Mj (k:Nat) (s:Site) (env:List AV):(AV.fg k s env).bR=true:=rfl
@[simp] theorem Oe (k:Nat) (s:Site) (env:List AV):(AV.fg k s env).cells= [AV.fg k s env]:=rfl
@[simp] theorem Qj (bs:List ad) (k:Nat) (s:Site) (env:List AV):eh bs (AV.fg k s env)=some (AV.fg k s env):=rfl
@[simp] theorem Qk (bs:List ad) (k n:Nat):eh bs (.az k n)=match ad.at bs k with | .sl _ sz es=>if n=es.length then some (.ak .none sz es) else .none | _=> .none:=rfl
@[simp] theorem Ql (c:ax) (ty:TypeId) (op:BinOp) (k k':IntKind) (a b:Int):ja c ty op (.int k a) (.int k' b)=match op with | .shl=>kK .shl k a b | .shr=>kK .shr k a b | op=>if k=k' then j0 op k a b else none:=rfl
@[simp] theorem Qm (c:ax) (ty:TypeId) (op:BinOp) (a b:List UInt8):ja c ty op (.str a) (.str b)=v8 op a b:=rfl
@[simp] theorem Sw (k:IntKind) (n:Int):H6 .neg (.int k n)=j0 .sub k 0 n:=rfl
@[simp] theorem Sx (k:IntKind) (n:Int):H6 .xor (.int k n)=j0 .xor k (if k.signed then -1 else k.max) n:=rfl
@[simp] theorem Sy (b:Bool):H6 .not (.bool b)=some (.bool (!b)):=rfl
@[simp] theorem Mk (k k':IntKind) (n:Int):B6 k (.int k' n)=some (.int k (k.wrap n)):=rfl
@[simp] theorem Of (s:List UInt8):Gq (.str s)=some (.int .i64 s.length):=rfl
@[simp] theorem Ml (s:List UInt8) (lo hi:Option AV):oz (.str s) lo hi=match cE hi s.length s.length with | some h=>(match cE lo 0 h with | some l=>some (.str ((s.take h).drop l)) | none=>none) | none=>none:=rfl
@[simp] theorem Qn  :(AV.any).soft=(AV.any):=rfl
@[simp] theorem Og  :(AV.any).cX=(AV.any):=rfl
@[simp] theorem Qo  :(AV.jG).soft=(AV.jG):=rfl
@[simp] theorem Oh  :(AV.jG).cX=(AV.jG):=rfl
@[simp] theorem Qp (k:IntKind) (n:Int):(AV.int k n).soft=(AV.int k n):=rfl
@[simp] theorem Oi (k:IntKind) (n:Int):(AV.int k n).cX=(AV.int k n):=rfl
@[simp] theorem Oj (b:Bool):(AV.bool b).soft=(AV.bool b):=rfl
@[simp] theorem Mm (b:Bool):(AV.bool b).cX=(AV.bool b):=rfl
@[simp] theorem Qq (s:List UInt8):(AV.str s).soft=(AV.str s):=rfl
@[simp] theorem Ol (s:List UInt8):(AV.str s).cX=(AV.str s):=rfl
@[simp] theorem Qr (vs:List AV):(AV.aI vs).soft=(AV.aI vs):=rfl
@[simp] theorem Om (vs:List AV):(AV.aI vs).cX=(AV.aI vs):=rfl
@[simp] theorem On  :(AV.bG).soft=(AV.bG):=rfl
@[simp] theorem Mn  :(AV.bG).cX=(AV.bG):=rfl
@[simp] theorem Qs (k off:Nat):(AV.ptr k off).soft=(AV.ptr k off):=rfl
@[simp] theorem Oo (k off:Nat):(AV.ptr k off).cX=(AV.ptr k off):=rfl
@[simp] theorem Oq (k n i off:Nat):(AV.cj k n i off).soft=(AV.cj k n i off):=rfl
@[simp] theorem Mo (k n i off:Nat):(AV.cj k n i off).cX=(AV.cj k n i off):=rfl
@[simp] theorem Ot (cs:List AV):(AV.cO cs).soft=(AV.cO cs):=rfl
@[simp] theorem Mq (cs:List AV):(AV.cO cs).cX=(AV.cO cs):=rfl
@[simp] theorem Qt (nl:Option Bool) (sz:Nat) (es:List AV):(AV.ak nl sz es).soft=(AV.ak nl sz es):=rfl
@[simp] theorem Ou (nl:Option Bool) (sz:Nat) (es:List AV):(AV.ak nl sz es).cX=(AV.ak nl sz es):=rfl
@[simp] theorem Qu (k n:Nat):(AV.az k n).soft=(AV.az k n):=rfl
@[simp] theorem Ov (k n:Nat):(AV.az k n).cX=(AV.az k n):=rfl
@[simp] theorem Qv (k n lo hi:Nat):(AV.fi k n lo hi).soft=(AV.fi k n lo hi):=rfl
@[simp] theorem Ow (k n lo hi:Nat):(AV.fi k n lo hi).cX=(AV.fi k n lo hi):=rfl
@[simp] theorem Sz (f:FuncId) (a b:List AV):(AV.fn f a b).soft=(AV.fn f a b):=rfl
@[simp] theorem Qw (f:FuncId) (a b:List AV):(AV.fn f a b).cX=(AV.fn f a b):=rfl
@[simp] theorem Ox  :(AV.dP).soft=(AV.dP):=rfl
@[simp] theorem Mr  :(AV.dP).cX=(AV.dP):=rfl
@[simp] theorem Qx (b:Bool):(AV.fG b).soft=(AV.fG b):=rfl
@[simp] theorem Qy (t:TypeId) (k:IntKind) (n:Int):(AV.kE t k n).soft=(AV.kE t k n):=rfl
@[simp] theorem Oy (b:Bool):(AV.fG b).cX=(AV.fG b):=rfl
@[simp] theorem Oz (t:TypeId) (k:IntKind) (n:Int):(AV.kE t k n).cX=(AV.kE t k n):=rfl
@[simp] theorem Qz (k:Nat) (s:Site) (env:List AV):(AV.fg k s env).soft=(AV.fg k s env):=rfl
@[simp] theorem OB (k:Nat) (s:Site) (env:List AV):(AV.fg k s env).cX=(AV.fg k s env):=rfl
@[simp] theorem OC (k:Nat):(AV.cu k).soft=(AV.cu k):=rfl
@[simp] theorem Ms (k:Nat):(AV.cu k).cX=(AV.cu k):=rfl
@[simp] theorem QA (k:Nat):(AV.jZ k).soft=(AV.jZ k):=rfl
@[simp] theorem OD (k:Nat):(AV.jZ k).cX=(AV.jZ k):=rfl
@[simp] theorem OE  :(AV.gC).soft=(AV.gC):=rfl
@[simp] theorem Mt  :(AV.gC).cX=(AV.gC):=rfl
@[simp] theorem QB (cs:List AV):(AV.agg cs).soft= .agg (cs.map AV.cX):=rfl
@[simp] theorem OF (nl:Option Bool):(AV.bW nl).soft= .ak nl 0 []:=rfl
@[simp] theorem OG (cs:List AV):(AV.agg cs).cX= .agg cs:=rfl
@[simp] theorem Mu (nl:Option Bool):(AV.bW nl).cX= .ak nl 0 []:=rfl
@[simp] theorem OH (c:UInt8):(ah c).soft=ah c:=rfl
end Go.Am
namespace Go.Am
theorem wrap_i64 {x:Int} (h1: -9223372036854775808≤x) (h2:x<9223372036854775808):IntKind.i64.wrap x=x:=by
 have e:IntKind.i64.wrap x=if x%18446744073709551616≥9223372036854775808 then x%18446744073709551616-18446744073709551616 else x%18446744073709551616:=by simp [IntKind.wrap,IntKind.bits,IntKind.signed]
 rw [e];split <;> omega
theorem wrap_u8 {x:Int} (h1:0≤x) (h2:x<256):IntKind.u8.wrap x=x:=by simp only [IntKind.wrap,IntKind.bits,IntKind.signed,Bool.false_and];rw [if_neg (by simp)];omega
@[simp] theorem QC (i n:Nat):Int.tmod (i:Int) (no_index (OfNat.ofNat n):Int)=((i%n:Nat):Int):=(Int.ofNat_tmod i n).symm
@[simp] theorem toNat_emod (i n:Nat):((i:Int)%(no_index (OfNat.ofNat n):Int)).toNat=i%n:=Int.toNat_natCast (i%n)
@[simp] theorem Mv (i n:Nat):((i:Int) / (no_index (OfNat.ofNat n):Int)).toNat=i / n:=Int.toNat_natCast (i / n)
theorem mM {n:Nat} (h:n≤1000000000000):n≤tn:=by unfold tn;omega
theorem jf {n:Nat} (h:n≤1000000000000):n≤bE:=by unfold bE;omega
theorem jg {n:Nat} (h:n≤10000000):n≤lN:=by unfold lN;omega
theorem gP {n:Int} (h:n≤1000000000000):n≤(bE:Int):=by unfold bE;omega
section
variable (bs l:List ad) (j:Nat) (x:ad)
theorem eJ {k:Nat} (h:k<bs.length):ad.at (bs++l) k=ad.at bs k:=by simp only [ad.at,List.getD_eq_getElem?_getD,List.getElem?_append_left h]
@[simp] theorem dN:ad.at (bs++l) (bs.length+j)=ad.at l j:=by simp only [ad.at,List.getD_eq_getElem?_getD,List.getElem?_append_right (Nat.le_add_right _ _),Nat.add_sub_cancel_left]
@[simp] theorem vV:ad.at (bs++l) bs.length=ad.at l 0:=dN bs l 0
@[simp] theorem dn:(bs++l)[bs.length+j]?=l[j]?:=by rw [List.getElem?_append_right (Nat.le_add_right _ _),Nat.add_sub_cancel_left]
@[simp] theorem Mw:(bs++l)[bs.length]?=l[0]?:=dn bs l 0
@[simp] theorem cy:(bs++l).set (bs.length+j) x=bs++l.set j x:=by rw [List.set_append_right _ _ (Nat.le_add_right _ _),Nat.add_sub_cancel_left]
@[simp] theorem tj:(bs++l).set bs.length x=bs++l.set 0 x:=cy bs l 0 x
end
def cg (m:Nat) (sh:Hd):Bool:=
 match sh.link with
 | some (_,_,k,_)=>decide (k<m)
 | none=>true
@[simp] theorem GI (m:Nat) (o:Bool) (t:Option TypeId):cg m ⟨o,t,none⟩=true:=rfl
@[simp] theorem HO (n:Nat) (o:Bool) (t:Option TypeId):ej n ⟨o,t,none⟩=⟨o,t,none⟩:=rfl
theorem pL {m n:Nat} (h:m≤n) {sh:Hd} (hl:cg m sh=true):cg n sh=true:=by
 unfold cg at*
 split
 ·rename_i hs;rw [hs] at hl;simp only [decide_eq_true_eq] at hl⊢;omega
 ·rfl
theorem uo {n:Nat} {sh:Hd} (hl:cg n sh=true):ej n sh=sh:=by
 unfold cg at hl;unfold ej;split
 ·rename_i hs;rw [hs] at hl;simp only [decide_eq_true_eq] at hl;rw [if_pos hl]
 ·rfl
def dC (m:Nat):List (AV×AV×Nat)→Bool
 | []=>true
 | e::r=>e.2.1.under m&&dC m r
@[simp] theorem Ki (m:Nat):dC m []=true:=rfl
theorem rX {α:Type} {f:α→AV×AV×Nat} {m:Nat} (h: ∀x,(f x).2.1.under m=true): ∀l:List α,dC m (l.map f)=true
 | []=>rfl
 | a::l=>by simp only [List.map_cons,dC,h,rX h l,Bool.and_true]
def shut (m:Nat):List ad→Bool
 | []=>true
 | .var _ cs::r=>av m cs&&shut m r
 | .mp es _::r=>dC m es&&shut m r
 | .sl sh _ _::r=>cg m sh&&shut m r
 | _::r=>shut m r
mutual
theorem zZ {m n:Nat} (h:m≤n): ∀(v:AV),v.under m=true→v.under n=true
 | .ptr k _,hu=>by simp only [AV.under,decide_eq_true_eq] at hu⊢;omega
 | .cj k _ _ _,hu=>by simp only [AV.under,decide_eq_true_eq] at hu⊢;omega
 | .az k _,hu=>by simp only [AV.under,decide_eq_true_eq] at hu⊢;omega
 | .fi k _ _ _,hu=>by simp only [AV.under,decide_eq_true_eq] at hu⊢;omega
 | .cu k,hu=>by simp only [AV.under,decide_eq_true_eq] at hu⊢;omega
 | .jZ k,hu=>by simp only [AV.under,decide_eq_true_eq] at hu⊢;omega
 | .gC,_=>rfl
 | .agg cs,hu=>by simp only [AV.under] at hu⊢;exact dA h cs hu
 | .aI cs,hu=>by simp only [AV.under] at hu⊢;exact dA h cs hu
 | .fn f a b,hu=>by
  simp only [AV.under,Bool.and_eq_true] at hu⊢;exact ⟨dA h a hu.1,dA h b hu.2⟩
 | .any,_=>rfl
 | .jG,_=>rfl
 | .int _ _,_=>rfl
 | .bool _,_=>rfl
 | .str _,_=>rfl
 | .bG,_=>rfl
 | .cO _,_=>rfl
 | .ak _ _ _,_=>rfl
 | .bW _,_=>rfl
 | .dP,_=>rfl
 | .fG _,_=>rfl
 | .kE _ _ _,_=>rfl
 | .fg k _ env,hu=>by
  simp only [AV.under,Bool.and_eq_true,decide_eq_true_eq] at hu⊢;exact ⟨by omega,dA h env hu.2⟩
theorem dA {m n:Nat} (h:m≤n): ∀(l:List AV),av m l=true→av n l=true
 | [],_=>rfl
 | v::r,hu=>by
  simp only [av,Bool.and_eq_true] at hu⊢;exact ⟨zZ h v hu.1,dA h r hu.2⟩
end
theorem pM {n:Nat}: ∀{l:List AV},av n l=true→l.map (forget n)=l
 | [],_=>rfl
 | v::r,h=>by
  simp only [av,Bool.and_eq_true] at h;simp only [List.map_cons,forget,h.1,pM h.2]
theorem oK {m n:Nat} (h:m≤n): ∀(l:List (AV×AV×Nat)),dC m l=true→dC n l=true
 | [],_=>rfl
 | e::r,hu=>by
  simp only [dC,Bool.and_eq_true] at hu⊢;exact ⟨zZ h _ hu.1,oK h r hu.2⟩
theorem mg {n:Nat}: ∀{l:List (AV×AV×Nat)},dC n l=true→l.map (dS n)=l
 | [],_=>rfl
 | e::r,h=>by
  simp only [dC,Bool.and_eq_true] at h;simp only [List.map_cons,dS,forget,h.1,mg h.2]
theorem shut_map {m n:Nat} (hn:m≤n): ∀{bs:List ad},shut m bs=true→bs.map (bp n)=bs
 | [],_=>rfl
 | .var ty cs::r,h=>by
  simp only [shut,Bool.and_eq_true] at h;simp only [List.map_cons,bp,pM (dA hn cs h.1),shut_map hn h.2]
 | .sl sh sz es::r,h=>by
  simp only [shut,Bool.and_eq_true] at h;simp only [List.map_cons,bp,uo (pL hn h.1),shut_map hn h.2]
 | .dead::r,h=>by simp only [List.map_cons,bp,shut_map hn (by simpa [shut] using h)]
 | .loop st::r,h=>by simp only [List.map_cons,bp,shut_map hn (by simpa [shut] using h)]
 | .mp es clock::r,h=>by
  simp only [shut,Bool.and_eq_true] at h;simp only [List.map_cons,bp,mg (oK hn es h.1),shut_map hn h.2]
 | .gone::r,h=>by simp only [List.map_cons,bp,shut_map hn (by simpa [shut] using h)]
 | .iter o::r,h=>by simp only [List.map_cons,bp,shut_map hn (by simpa [shut] using h)]
theorem dO (n:Nat): ∀(l m:List ad),shut n (l++m)=(shut n l&&shut n m)
 | [],m=>rfl
 | .var ty cs::l,m=>by simp only [List.cons_append,shut,dO n l m,Bool.and_assoc]
 | .sl _ _ _::l,m=>by simp only [List.cons_append,shut,dO n l m,Bool.and_assoc]
 | .dead::l,m=>by simp only [List.cons_append,shut,dO n l m]
 | .loop _::l,m=>by simp only [List.cons_append,shut,dO n l m]
 | .mp _ _::l,m=>by simp only [List.cons_append,shut,dO n l m,Bool.and_assoc]
 | .gone::l,m=>by simp only [List.cons_append,shut,dO n l m]
 | .iter _::l,m=>by simp only [List.cons_append,shut,dO n l m]
theorem gO {m n:Nat} (h:m≤n): ∀{bs:List ad},shut m bs=true→shut n bs=true
 | [],_=>rfl
 | .var ty cs::l,hs=>by
  simp only [shut,Bool.and_eq_true] at hs⊢;exact ⟨dA h cs hs.1,gO h hs.2⟩
 | .sl _ _ _::l,hs=>by
  simp only [shut,Bool.and_eq_true] at hs⊢;exact ⟨pL h hs.1,gO h hs.2⟩
 | .dead::l,hs=>by simp only [shut] at hs⊢;exact gO h hs
 | .loop _::l,hs=>by simp only [shut] at hs⊢;exact gO h hs
 | .mp es _::l,hs=>by
  simp only [shut,Bool.and_eq_true] at hs⊢;exact ⟨oK h es hs.1,gO h hs.2⟩
 | .gone::l,hs=>by simp only [shut] at hs⊢;exact gO h hs
 | .iter _::l,hs=>by simp only [shut] at hs⊢;exact gO h hs
def nv (J:List ad):Prop:= ∀n,shut n J=true
theorem nv.app {J K:List ad} (h:nv J) (k:nv K):nv (J++K):=fun n=>by rw [dO,h n,k n];rfl
theorem wJ {n:Nat}: ∀{bs:List ad} (k:Nat) {x:ad},shut n bs=true→shut n [x]=true→shut n (bs.set k x)=true
 | [],_,_,_,_=>rfl
 | b::r,0,x,h,hx=>by
  cases x <;> cases b <;> simp_all [shut]
 | b::r,k+1,x,h,hx=>by
  have:=fun (h:shut n r=true)=>wJ (bs:=r) k h hx;cases b <;> simp_all [shut]
theorem nv.set {J:List ad} (h:nv J) (k:Nat) {x:ad} (hx:nv [x]):nv (J.set k x):=fun n=>wJ k (h n) (hx n)
def yG (x:BitVec 64):AV:= .int .u64 (x.toNat:Int)
section
variable (c:ax) (ty:TypeId) (x y:BitVec 64)
@[simp] theorem OI:(yG x).plain=true:=rfl
@[simp] theorem QD:(yG x).flat=true:=rfl
@[simp] theorem Mx:(yG x).bR=true:=rfl
@[simp] theorem OJ:(yG x).cells= [yG x]:=rfl
@[simp] theorem OK (n:Nat):(yG x).under n=true:=rfl
@[simp] theorem QE (n:Nat) (bs:List ad):(yG x).hand n bs=some (yG x):=rfl
@[simp] theorem QF (bs:List ad):eh bs (yG x)=some (yG x):=rfl
end
section
variable {α:Type} {f:α→AV}
theorem ez (h: ∀x,(f x).plain=true): ∀l:List α,aj (l.map f)=true
 | []=>rfl
 | a::l=>by simp only [List.map_cons,aj,h,ez h l,Bool.and_self]
end
section
variable (l:List (BitVec 64))
end
@[simp] theorem Fu (n:Nat):forget n∘yG=yG:=rfl
section
variable (c:ax) (ty:TypeId) (x y:UInt8)
@[simp] theorem IP:(ah x).plain=true:=rfl
@[simp] theorem Kj:(ah x).flat=true:=rfl
@[simp] theorem HP:(ah x).bR=true:=rfl
@[simp] theorem IQ:(ah x).cells= [ah x]:=rfl
@[simp] theorem IS (n:Nat):(ah x).under n=true:=rfl
@[simp] theorem Kk (n:Nat) (bs:List ad):(ah x).hand n bs=some (ah x):=rfl
@[simp] theorem Kl (bs:List ad):eh bs (ah x)=some (ah x):=rfl
@[simp] theorem vB:byteOf (ah x)=some x:=by simp [ah,byteOf]
@[simp] theorem EK:cA (ah x) 0 [ah y]=some (ah y):=rfl
end
section
variable (l:List UInt8)
@[simp] theorem GJ:bytesOf (l.map ah)=some l:=by
 induction l with
 | nil=>rfl
 | cons a l ih=>simp only [List.map_cons,bytesOf,vB,ih]
theorem fA {d:List UInt8} {i:Nat} (h:i<d.length):d[i]?=some (d.getD i 0):=by simp [List.getD_eq_getElem?_getD,List.getElem?_eq_getElem h]
end
def vC (n:Nat):AV:= .int .i64 (n:Int)
section
variable (x:Nat)
@[simp] theorem My:(vC x).plain=true:=rfl
@[simp] theorem OL:(vC x).flat=true:=rfl
@[simp] theorem Km:(vC x).bR=true:=rfl
@[simp] theorem Mz:(vC x).cells= [vC x]:=rfl
@[simp] theorem MA (n:Nat):(vC x).under n=true:=rfl
@[simp] theorem OM (n:Nat) (bs:List ad):(vC x).hand n bs=some (vC x):=rfl
@[simp] theorem ON (bs:List ad):eh bs (vC x)=some (vC x):=rfl
end
section
variable (l:List Nat)
end
end Go.Am
namespace Go.Am
section
variable {a b:Int}
theorem Tk (h:a≤b):(a≤b)=True:=eq_true h
theorem QG (h: ¬ a≤b):(a≤b)=False:=eq_false h
theorem Tl (h:a<b):(a<b)=True:=eq_true h
theorem QH (h: ¬ a<b):(a<b)=False:=eq_false h
theorem Tm (h:a=b):(a=b)=True:=eq_true h
theorem QI (h: ¬ a=b):(a=b)=False:=eq_false h
end
section
variable {a b:Nat}
theorem Tn (h:a≤b):(a≤b)=True:=eq_true h
theorem QJ (h: ¬ a≤b):(a≤b)=False:=eq_false h
theorem To (h:a<b):(a<b)=True:=eq_true h
theorem QK (h: ¬ a<b):(a<b)=False:=eq_false h
theorem Tp (h:a=b):(a=b)=True:=eq_true h
theorem QL (h: ¬ a=b):(a=b)=False:=eq_false h
end
theorem om:(∀{a b:Int},a≤b→(a≤b)=True)∧(∀{a b:Int},¬ a≤b→(a≤b)=False)∧(∀{a b:Int},a<b→(a<b)=True)∧(∀{a b:Int},¬ a<b→(a<b)=False)∧(∀{a b:Int},a=b→(a=b)=True)∧(∀{a b:Int},¬ a=b→(a=b)=False)∧
  (∀{a b:Nat},a≤b→(a≤b)=True)∧(∀{a b:Nat},¬ a≤b→(a≤b)=False)∧(∀{a b:Nat},a<b→(a<b)=True)∧(∀{a b:Nat},¬ a<b→(a<b)=False)∧(∀{a b:Nat},a=b→(a=b)=True)∧(∀{a b:Nat},¬ a=b→(a=b)=False)∧
  (∀{x:Int},-9223372036854775808≤x→x<9223372036854775808→IntKind.i64.wrap x=x)∧(∀{n:Nat},n≤1000000000000→n≤tn)∧(∀{n:Nat},n≤1000000000000→n≤bE)∧(∀{n:Nat},n≤10000000→n≤lN)∧(∀{n:Int},n≤1000000000000→n≤(bE:Int)):=
 ⟨Tk,QG,Tl,QH,Tm,QI,Tn,QJ,To,QK,Tp,QL,wrap_i64,mM,jf,jg,gP⟩
theorem ia (c:UInt8):AV.int .u8 (c.toNat:Int)=ah c:=rfl
theorem nB: ∀l:List UInt8,jH (l.map ah)=some l
 | []=>rfl
 | a::l=>by
  have h:=a.toNat_lt;have h2:=nB l;simp only [List.map_cons,ah,jH];rw [if_pos (by omega)];rw [h2];simp
end Go.Am
