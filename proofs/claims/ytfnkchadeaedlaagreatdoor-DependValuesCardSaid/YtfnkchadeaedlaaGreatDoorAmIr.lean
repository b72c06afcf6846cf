/-
 A plainer form of the machine's code: expressions over few variables in place of chains of temporaries. Definitions alone.
-/
import Derived.Test.YtfnkchadeaedlaaGreatDoorAmRun
import Derived.Test.YtfnkchadeaedlaaGreatDoorAmAlt
set_option linter.all false
namespace Go.Am
inductive E where
 | var (i:Nat)
 | cst (v:AV)
 | bin (op:BinOp) (ty:TypeId) (x y:E)
 | un (op:UnOp) (x:E)
 | pick (p a b:E)
 | guard (g:E) (want:Bool) (e:E)
 | and (p b:E)
 | or (p b:E)
 | index (ty:TypeId) (x i:E)
 | field (sty:TypeId) (x:E) (f:Nat)
 | extract (x:E) (i:Nat)
 | conv (src dst:TypeId) (x:E)
 | toInt (k:IntKind) (x:E)
 | len (ty:TypeId) (x:E)
 | lenS (x:E)
 | slA (x:E)
 | slL (x lo:E)
 | slH (x hi:E)
 | slB (x lo hi:E)
 | load (ty:TypeId) (x:E)
 | faddr (sty:TypeId) (x:E) (f:Nat)
 | iaddr (ty:TypeId) (x i:E)
 | nilck (x:E)
 deriving Inhabited
def rI:Out→Option AV
 | some (v,.none)=>some v
 | _=>none
def o9 (x:AV) (lo hi:Option AV):Option AV:=
 match x with
 | .str s=>match cR hi s.length s.length with
  | some h=>match cR lo 0 h with
   | some l=>some (.str ((s.take h).drop l))
   | none=>none
  | none=>none
 | _=>none
def H0 (x:AV):Option AV:=
 match x with
 | .str s=>some (.int .i64 s.length)
 | _=>none
def Dh (k:IntKind) (x:AV):Option AV:=
 match x with
 | .int _ n=>some (.int k (k.wrap n))
 | _=>none
def NN (c:ax) (ty:TypeId) (x:AV) (bs:List ad):Out:=
 match c.ti ty with
 | some i=>oU i.desc x bs
 | .none=> .none
def lE (g:Option AV) (want:Bool) (e:Option AV):Option AV:=
 match g with
 | some (.bool b)=>match b==want with
  | true=>e
  | false=>some (.aT [])
 | some (.aT _)=>some (.aT [])
 | _=>none
def F5 (p b:Option AV):Option AV:=
 match p with
 | some (.bool true)=>b
 | some (.bool false)=>some (.bool false)
 | _=>none
def P0 (p b:Option AV):Option AV:=
 match p with
 | some (.bool true)=>some (.bool true)
 | some (.bool false)=>b
 | _=>none
def ES (x:Option AV) (f:AV→Option AV):Option AV:=
 match x with
 | some a=>f a
 | none=>none
def Kp (x y:Option AV) (f:AV→AV→Option AV):Option AV:=
 match x with
 | some a=>match y with
  | some b=>f a b
  | none=>none
 | none=>none
def Sb (x y z:Option AV) (f:AV→AV→AV→Option AV):Option AV:=
 match x with
 | some a=>match y with
  | some b=>match z with
   | some d=>f a b d
   | none=>none
  | none=>none
 | none=>none
def kL (env:List (Option AV)) (i:Nat):Option AV:=env.getD i none
def bB (c:ax) (env:List (Option AV)) (bs:List ad):E→Option AV
 | .var i=>kL env i
 | .cst v=>some v
 | .bin op ty x y=>Kp (bB c env bs x) (bB c env bs y) fun a b=>kF c ty op a b
 | .un op x=>ES (bB c env bs x) fun a=>Kb op a
 | .pick p x y=>Sb (bB c env bs p) (bB c env bs x) (bB c env bs y) fun p a b=>rI (uz p a b)
 | .guard g w e=>lE (bB c env bs g) w (bB c env bs e)
 | .and p x=>F5 (bB c env bs p) (bB c env bs x)
 | .or p x=>P0 (bB c env bs p) (bB c env bs x)
 | .index ty x y=>Kp (bB c env bs x) (bB c env bs y) fun a b=>rI (oW c (c.ti ty) a b)
 | .field ty x f=>ES (bB c env bs x) fun a=>rI (oV c (c.ti ty) a f)
 | .extract x i=>ES (bB c env bs x) fun a=>rI (jb a i)
 | .conv s d x=>ES (bB c env bs x) fun a=>rI (dI c (c.ti s) (c.ti d) a bs 0)
 | .toInt k x=>ES (bB c env bs x) fun a=>Dh k a
 | .len ty x=>ES (bB c env bs x) fun a=>rI (NN c ty a bs)
 | .lenS x=>ES (bB c env bs x) fun a=>H0 a
 | .slA x=>ES (bB c env bs x) fun a=>o9 a none none
 | .slL x y=>Kp (bB c env bs x) (bB c env bs y) fun a l=>o9 a (some l) none
 | .slH x z=>Kp (bB c env bs x) (bB c env bs z) fun a h=>o9 a none (some h)
 | .slB x y z=>Sb (bB c env bs x) (bB c env bs y) (bB c env bs z) fun a l h=>o9 a (some l) (some h)
 | .load ty x=>ES (bB c env bs x) fun a=>rI (mq (c.ti ty) a bs)
 | .faddr ty x f=>ES (bB c env bs x) fun a=>rI (ea (c.ti ty) a f bs)
 | .iaddr ty x y=>Kp (bB c env bs x) (bB c env bs y) fun a b=>rI (eb c (c.ti ty) a b bs)
 | .nilck x=>ES (bB c env bs x) fun a=>rI (gu a)
def E.reads:E→Bool
 | .var _ | .cst _=>false
 | .bin _ _ x y=>x.reads || y.reads
 | .un _ x=>x.reads
 | .pick p x y=>p.reads || x.reads || y.reads
 | .guard g _ e=>g.reads || e.reads
 | .and p x=>p.reads || x.reads
 | .or p x=>p.reads || x.reads
 | .index _ x y=>x.reads || y.reads
 | .field _ x _=>x.reads
 | .extract x _=>x.reads
 | .toInt _ x=>x.reads
 | .lenS x=>x.reads
 | .slA x=>x.reads
 | .slL x y=>x.reads || y.reads
 | .slH x y=>x.reads || y.reads
 | .slB x y z=>x.reads || y.reads || z.reads
 | .nilck x=>x.reads
 | .conv _ _ _ | .len _ _ | .load _ _ | .faddr _ _ _ | .iaddr _ _ _=>true
def E.looks (i:Nat):E→Bool
 | .var j=>i==j
 | .cst _=>false
 | .bin _ _ x y=>x.looks i || y.looks i
 | .un _ x=>x.looks i
 | .pick p x y=>p.looks i || x.looks i || y.looks i
 | .guard g _ e=>g.looks i || e.looks i
 | .and p x=>p.looks i || x.looks i
 | .or p x=>p.looks i || x.looks i
 | .index _ x y=>x.looks i || y.looks i
 | .field _ x _=>x.looks i
 | .extract x _=>x.looks i
 | .conv _ _ x=>x.looks i
 | .toInt _ x=>x.looks i
 | .len _ x=>x.looks i
 | .lenS x=>x.looks i
 | .slA x=>x.looks i
 | .slL x y=>x.looks i || y.looks i
 | .slH x y=>x.looks i || y.looks i
 | .slB x y z=>x.looks i || y.looks i || z.looks i
 | .load _ x=>x.looks i
 | .faddr _ x _=>x.looks i
 | .iaddr _ x y=>x.looks i || y.looks i
 | .nilck x=>x.looks i
def look (vs:List (Nat×AV)) (i:Nat):AV:=
 match vs with
 | []=> .any
 | (j,v)::r=>if i=j then v else look r i
def Sc (vs:List (Nat×AV)):Operand→AV
 | .tmp i=>look vs i
 | .const v=>fS v
 | .func f=> .fn f [] []
 | .global _=> .any
def cS (c:ax) (op:Op) (φ:Operand→AV) (bs:List ad) (id:Nat):Out:=
 match op with
 | .move x | .assign x=>some (φ x,.none)
 | .pick x a b=>uz (φ x) (φ a) (φ b)
 | .alloc e=>uA (c.ti e) e id
 | .box e x=>HF e (φ x).cells id
 | .build ty parts=>rq c (c.ti ty) (parts.toList.map fun p=>(p.1,φ p.2))
 | .buildSlice ty len parts=>eK c (c.ti ty) len (parts.toList.map fun p=>(p.1,φ p.2)) id bs
 | .load ty a=>mq (c.ti ty) (φ a) bs
 | .store ty a x=>mr (c.ti ty) (φ a) (φ x).cells bs
 | .nilCheck x=>gu (φ x)
 | .makeInterface ty x=>uC c ty (φ x)
 | .binOp op ty x y _=>(FK c ty op y (φ x) (φ y)).map (·,.none)
 | .unOp op _ x=>(Kb op (φ x)).map (·,.none)
 | .convert src dst x=>dI c (c.ti src) (c.ti dst) (φ x) bs id
 | .makeFunc (.func f) first caps=>some (.fn f (first.toList.map φ) (caps.toList.map φ),.none)
 | .makeSlice ty l m=>ja c (c.ti ty) (φ l) (φ m) id
 | .slice ty x lo hi mx=>match c.ti ty with
  | some i=>match mx with
   | .none=>dz c i.desc (φ x) (lo.map φ) (hi.map φ) bs
   | some m=>jG c i.desc (φ x) (lo.map φ) (hi.map φ) (some (φ m)) bs
  | .none=> .none
 | .fieldAddr sty x f=>ea (c.ti sty) (φ x) f bs
 | .field sty x f=>oV c (c.ti sty) (φ x) f
 | .indexAddr ty x ix=>eb c (c.ti ty) (φ x) (φ ix) bs
 | .index ty x ix=>oW c (c.ti ty) (φ x) (φ ix)
 | .extract x i=>jb (φ x) i
 | .makeMap ty r=>kC (r.map φ) (c.ti ty) id
 | .range ty x=>ly (c.ti ty) (φ x) bs id
 | .next x str=>uB (φ x) str bs
 | .lookup ty x k ok=>dW c (c.ti ty) (φ x) (φ k) ok bs
 | .mapUpdate ty m k x=>aX c (c.ti ty) (φ m) (φ k) (φ x) bs
 | .insert ty m k x=>aX c (c.ti ty) (φ m) (φ k) (φ x) bs
 | .mapEntry ty m k=>iN c (c.ti ty) (φ m) (φ k) bs
 | .entryStore _ m s x=>fD (φ m) (φ s) (φ x) bs
 | .entry x=>mv (φ x) bs
 | .call k=>match k.callee with
  | .builtin b=>er c b k.argTypes.toList (k.args.toList.map φ) bs id
  | _=> .none
 | _=> .none
def dL (c:ax) (cf:aL) (op:Op) (φ:Operand→AV) (bs:List ad) (id:Nat):Out:=
 match op with
 | .call k=>match k.callee with
  | .value f=>match φ f with
   | .fn g first caps=>match c.ext g with
    | some G=>match G (first++k.args.toList.map φ++caps) with
     | some v=>some (v,.none)
     | .none=> .none
    | .none=>ou c cf g (first++k.args.toList.map φ++caps) bs
   | .fL l s env=>match cf (.fL l s env) (k.args.toList.map φ) bs with
    | some (v,bs')=>some (v,.all bs')
    | .none=> .none
   | _=> .none
  | _=>cS c (.call k) φ bs id
 | op=>cS c op φ bs id
inductive It where
 | par (l:List (Nat×E))
 | dT (mask:Option (List Nat)) (k:Nat) (d:Option Nat) (g:Option (E×Bool)) (o:Op) (xs:List (Nat×E))
def og (c:ax) (env:List (Option AV)) (bs:List ad):List (Nat×E)→Option (List (Nat×AV))
 | []=>some []
 | (i,e)::r=>match bB c env bs e with
  | some v=>match og c env bs r with
   | some l=>some ((i,v)::l)
   | none=>none
  | none=>none
def dv (env:List (Option AV)):List (Nat×AV)→List (Option AV)
 | []=>env
 | (i,v)::r=>dv (env.set i (some v)) r
def uX (env:List (Option AV)) (d:Option Nat) (v:AV):List (Option AV):=
 match d with
 | some i=>env.set i (some v)
 | none=>env
def sT (g:Option AV) (want:Bool):Option Bool:=
 match g with
 | some (.bool b)=>some (b==want)
 | some (.aT _)=>some false
 | _=>none
def sU (c:ax) (env:List (Option AV)) (bs:List ad) (g:Option (E×Bool)):Option Bool:=
 match g with
 | none=>some true
 | some (e,w)=>sT (bB c env bs e) w
def AU (o:Op) (k:Nat) (vs:List (Nat×AV)):Bool:=vs.all fun p=>(rC o).contains p.1 || fj k p.2
def ET (md:Nat) (o:Op) (id:Nat) (vs:List (Nat×AV)) (bs:List ad) (r:Out):Option (AV×List ad):=
 match r with
 | some (v,.none)=>some (v,bs)
 | some (v,.new x)=>match asks o with
  | true=>match bs[id]? with
   | some .dead=>some (v,bs.set id x)
   | _=>none
  | false=>none
 | some (v,.ig k (.var ty cs))=>match cC o&&AU o k vs with
  | true=>some (v,bs.set k (.var ty cs))
  | false=>none
 | some (v,.ig k (.sl sh sz es))=>match md==1&&AU o k vs with
  | true=>some (v,bs.set k (.sl sh sz es))
  | false=>none
 | some (v,.app x)=>match md==2&&vs.all fun p=>jc bs.length p.2 with
  | true=>some (v,bs++ [x])
  | false=>none
 | _=>none
def EU (id:Nat) (bs:List ad) (r:Out):Option (AV×List ad):=
 match r with
 | some (v,e)=>match e.on bs id with
  | some bs'=>some (v,bs')
  | none=>none
 | none=>none
def F6 (c:ax) (cf:aL) (base:Nat) (mask:Option (List Nat)) (k:Nat) (o:Op) (vs:List (Nat×AV)) (bs:List ad):Option (AV×List ad):=
 match mask with
 | none=>EU (base+k) bs (dL c cf o (Sc vs) bs (base+k))
 | some ms=>ET (ms.headD 0) o (base+k) vs bs (dL c (e9 cf (ms.headD 0==2)) o (Sc vs) (aY (ms.tail.map (base+ ·)) bs) (base+k))
def br (c:ax) (cf:aL) (base:Nat) (kl:List Nat):List It→List (Option AV)→List ad→Option (List (Option AV)×List ad)
 | [],env,bs=>some (env,bs)
 | .par l::r,env,bs=>match og c env (aY (kl.map (base+ ·)) bs) l with
  | some vs=>br c cf base kl r (dv env vs) bs
  | none=>none
 | .dT mask k d g o xs::r,env,bs=>match sU c env (aY (kl.map (base+ ·)) bs) g with
  | some true=>match og c env (aY (kl.map (base+ ·)) bs) xs with
   | some vs=>match F6 c cf base mask k o vs bs with
    | some (v,bs')=>br c cf base kl r (uX env d v) bs'
    | none=>none
   | none=>none
  | some false=>br c cf base kl r (uX env d (.aT [])) bs
  | none=>none
structure qh where
 slot:Nat
 cell:Option Nat
 el:TypeId
 sz:Nat
inductive IR where
 | skip | ret
 | own (l:List qh)
 | stuck
 | exit (i:Nat)
 | seq (a b:IR)
 | block (i:Nat) (a:IR)
 | cg (n:Nat) (kl:List Nat) (its:List It)
 | cond (x:Nat) (a b:IR)
 | loop (kill:List Nat) (a:IR)
 | q8 (x:Nat) (s:Site)
 | AR (x k n:Nat) (its:List It)
 | alt (l:List (Nat×List Nat×List It))
def du (σ:List (Nat×E)) (i:Nat):Option E:=
 match σ with
 | []=>none
 | (j,e)::r=>if i=j then some e else du r i
def yX (keep:List Nat) (σ:List (Nat×E)) (i:Nat):Option E:=
 match du σ i with
 | some e=>some e
 | none=>(posOf keep i).map .var
def yY (keep:List Nat) (σ:List (Nat×E)):Operand→Option E
 | .tmp i=>yX keep σ i
 | .const v=>some (.cst (fS v))
 | .func f=>some (.cst (.fn f [] []))
 | .global _=>none
def gQ (x:Option E) (f:E→E):Option E:=x.map f
def qi (x y:Option E) (f:E→E→E):Option E:=
 match x,y with
 | some a,some b=>some (f a b)
 | _,_=>none
def AW (x y z:Option E) (f:E→E→E→E):Option E:=
 match x,y,z with
 | some a,some b,some d=>some (f a b d)
 | _,_,_=>none
def EV:List UInt8→List UInt8→Bool
 | [], []=>true
 | a::l,b::m=>a==b&&EV l m
 | _,_=>false
def Di:AV→AV→Bool
 | .int k n,.int k' n'=>k==k'&&n==n'
 | .bool a,.bool b=>a==b
 | .str a,.str b=>EV a b
 | .bS,.bS=>true
 | _,_=>false
def aQ:E→E→Bool
 | .var i,.var j=>i==j
 | .cst v,.cst w=>Di v w
 | .bin o t x y,.bin o' t' x' y'=>o==o'&&t==t'&&aQ x x'&&aQ y y'
 | .un o x,.un o' x'=>o==o'&&aQ x x'
 | .pick p x y,.pick p' x' y'=>aQ p p'&&aQ x x'&&aQ y y'
 | .guard g w e,.guard g' w' e'=>aQ g g'&&w==w'&&aQ e e'
 | .and p x,.and p' x'=>aQ p p'&&aQ x x'
 | .or p x,.or p' x'=>aQ p p'&&aQ x x'
 | .index t x y,.index t' x' y'=>t==t'&&aQ x x'&&aQ y y'
 | .field t x f,.field t' x' f'=>t==t'&&aQ x x'&&f==f'
 | .extract x f,.extract x' f'=>aQ x x'&&f==f'
 | .conv s d x,.conv s' d' x'=>s==s'&&d==d'&&aQ x x'
 | .toInt k x,.toInt k' x'=>k==k'&&aQ x x'
 | .len t x,.len t' x'=>t==t'&&aQ x x'
 | .lenS x,.lenS x'=>aQ x x'
 | .slA x,.slA x'=>aQ x x'
 | .slL x y,.slL x' y'=>aQ x x'&&aQ y y'
 | .slH x y,.slH x' y'=>aQ x x'&&aQ y y'
 | .slB x y z,.slB x' y' z'=>aQ x x'&&aQ y y'&&aQ z z'
 | .load t x,.load t' x'=>t==t'&&aQ x x'
 | .faddr t x f,.faddr t' x' f'=>t==t'&&aQ x x'&&f==f'
 | .iaddr t x y,.iaddr t' x' y'=>t==t'&&aQ x x'&&aQ y y'
 | .nilck x,.nilck x'=>aQ x x'
 | _,_=>false
def bt (g:E) (w:Bool):E→E
 | .guard x v e=>match aQ x g&&v==w with
  | true=>bt g w e
  | false=> .guard (bt g w x) v (bt g w e)
 | .bin o t x y=> .bin o t (bt g w x) (bt g w y)
 | .un o x=> .un o (bt g w x)
 | .pick p x y=> .pick (bt g w p) (bt g w x) (bt g w y)
 | .and p x=> .and (bt g w p) (bt g w x)
 | .or p x=> .or (bt g w p) (bt g w x)
 | .index t x y=> .index t (bt g w x) (bt g w y)
 | .field t x f=> .field t (bt g w x) f
 | .extract x i=> .extract (bt g w x) i
 | .conv s d x=> .conv s d (bt g w x)
 | .toInt k x=> .toInt k (bt g w x)
 | .len t x=> .len t (bt g w x)
 | .lenS x=> .lenS (bt g w x)
 | .slA x=> .slA (bt g w x)
 | .slL x y=> .slL (bt g w x) (bt g w y)
 | .slH x y=> .slH (bt g w x) (bt g w y)
 | .slB x y z=> .slB (bt g w x) (bt g w y) (bt g w z)
 | .load t x=> .load t (bt g w x)
 | .faddr t x f=> .faddr t (bt g w x) f
 | .iaddr t x y=> .iaddr t (bt g w x) (bt g w y)
 | .nilck x=> .nilck (bt g w x)
 | .var i=> .var i
 | .cst v=> .cst v
def nG (g:E) (w:Bool):E→Bool
 | .guard x v _=>(aQ x g&&v==w) || nG g w x
 | _=>false
def E.within:E→E→Bool
 | e,.var i=>aQ e (.var i)
 | e,.cst v=>aQ e (.cst v)
 | e,.bin o t x y=>aQ e (.bin o t x y) || e.within x || e.within y
 | e,.un o x=>aQ e (.un o x) || e.within x
 | e,.pick p x y=>aQ e (.pick p x y) || e.within p || e.within x || e.within y
 | e,.guard g w x=>aQ e (.guard g w x) || e.within g || (nG g w e&&(bt g w e).within x)
 | e,.and p x=>aQ e (.and p x) || e.within p || (nG p true e&&(bt p true e).within x)
 | e,.or p x=>aQ e (.or p x) || e.within p || (nG p false e&&(bt p false e).within x)
 | e,.index t x y=>aQ e (.index t x y) || e.within x || e.within y
 | e,.field t x f=>aQ e (.field t x f) || e.within x
 | e,.extract x f=>aQ e (.extract x f) || e.within x
 | e,.conv s d x=>aQ e (.conv s d x) || e.within x
 | e,.toInt k x=>aQ e (.toInt k x) || e.within x
 | e,.len t x=>aQ e (.len t x) || e.within x
 | e,.lenS x=>aQ e (.lenS x) || e.within x
 | e,.slA x=>aQ e (.slA x) || e.within x
 | e,.slL x y=>aQ e (.slL x y) || e.within x || e.within y
 | e,.slH x y=>aQ e (.slH x y) || e.within x || e.within y
 | e,.slB x y z=>aQ e (.slB x y z) || e.within x || e.within y || e.within z
 | e,.load t x=>aQ e (.load t x) || e.within x
 | e,.faddr t x f=>aQ e (.faddr t x f) || e.within x
 | e,.iaddr t x y=>aQ e (.iaddr t x y) || e.within x || e.within y
 | e,.nilck x=>aQ e (.nilck x) || e.within x
def Dj (p a b:E):E:=
 match a,b with
 | .guard g true x,.cst (.bool false)=>match aQ g p with
  | true=> .and p x
  | false=> .pick p a b
 | .cst (.bool true),.guard g false x=>match aQ g p with
  | true=> .or p x
  | false=> .pick p a b
 | a,b=> .pick p a b
def mF (c:ax) (ρ:Operand→Option E):Op→Option E
 | .move x=>ρ x
 | .assign x=>ρ x
 | .pick p x y=>AW (ρ p) (ρ x) (ρ y) Dj
 | .binOp op ty x y _=>match FJ y with
  | true=>none
  | false=>qi (ρ x) (ρ y) (.bin op ty)
 | .unOp op _ x=>gQ (ρ x) (.un op)
 | .index ty x y=>qi (ρ x) (ρ y) (.index ty)
 | .field ty x f=>gQ (ρ x) (.field ty · f)
 | .extract x i=>gQ (ρ x) (.extract · i)
 | .convert s d x=>match c.descOf s,c.descOf d with
  | some (.int _),some (.int k)=>gQ (ρ x) (.toInt k)
  | _,some (.slice _)=>none
  | _,_=>gQ (ρ x) (.conv s d)
 | .load ty x=>gQ (ρ x) (.load ty)
 | .fieldAddr ty x f=>gQ (ρ x) (.faddr ty · f)
 | .indexAddr ty x y=>qi (ρ x) (ρ y) (.iaddr ty)
 | .nilCheck x=>gQ (ρ x) .nilck
 | .slice ty x lo hi none=>match c.descOf ty with
  | some .string=>match lo,hi with
   | none,none=>gQ (ρ x) .slA
   | some l,none=>qi (ρ x) (ρ l) .slL
   | none,some h=>qi (ρ x) (ρ h) .slH
   | some l,some h=>AW (ρ x) (ρ l) (ρ h) .slB
  | _=>none
 | .call k=>match k.callee,k.argTypes.toList,k.args.toList with
  | .builtin .len, [t], [x]=>match c.descOf t with
   | some .string=>gQ (ρ x) .lenS
   | _=>gQ (ρ x) (.len t)
  | _,_,_=>none
 | _=>none
def E.sure:E→Bool
 | .cst _=>true
 | _=>false
def dB (bad:E→Bool):E→List E
 | .var i=>match bad (.var i) with | true=> [] | false=> [.var i]
 | .cst v=>match bad (.cst v) with | true=> [] | false=> [.cst v]
 | .bin o t x y=>match bad (.bin o t x y) with | true=>dB bad x++dB bad y | false=> [.bin o t x y]
 | .un o x=>match bad (.un o x) with | true=>dB bad x | false=> [.un o x]
 | .pick p x y=>match bad (.pick p x y) with | true=>dB bad p++(dB bad x++dB bad y) | false=> [.pick p x y]
 | .guard g w x=>match bad (.guard g w x) with | true=>dB bad g++(match bad g with | true=> [] | false=>(dB bad x).map (.guard g w)) | false=> [.guard g w x]
 | .and g x=>match bad (.and g x) with | true=>dB bad g++(match bad g with | true=> [] | false=>(dB bad x).map (.guard g true)) | false=> [.and g x]
 | .or g x=>match bad (.or g x) with | true=>dB bad g++(match bad g with | true=> [] | false=>(dB bad x).map (.guard g false)) | false=> [.or g x]
 | .index t x y=>match bad (.index t x y) with | true=>dB bad x++dB bad y | false=> [.index t x y]
 | .field t x f=>match bad (.field t x f) with | true=>dB bad x | false=> [.field t x f]
 | .extract x f=>match bad (.extract x f) with | true=>dB bad x | false=> [.extract x f]
 | .conv a b x=>match bad (.conv a b x) with | true=>dB bad x | false=> [.conv a b x]
 | .toInt k x=>match bad (.toInt k x) with | true=>dB bad x | false=> [.toInt k x]
 | .len t x=>match bad (.len t x) with | true=>dB bad x | false=> [.len t x]
 | .lenS x=>match bad (.lenS x) with | true=>dB bad x | false=> [.lenS x]
 | .slA x=>match bad (.slA x) with | true=>dB bad x | false=> [.slA x]
 | .slL x y=>match bad (.slL x y) with | true=>dB bad x++dB bad y | false=> [.slL x y]
 | .slH x y=>match bad (.slH x y) with | true=>dB bad x++dB bad y | false=> [.slH x y]
 | .slB x y z=>match bad (.slB x y z) with | true=>dB bad x++(dB bad y++dB bad z) | false=> [.slB x y z]
 | .load t x=>match bad (.load t x) with | true=>dB bad x | false=> [.load t x]
 | .faddr t x f=>match bad (.faddr t x f) with | true=>dB bad x | false=> [.faddr t x f]
 | .iaddr t x y=>match bad (.iaddr t x y) with | true=>dB bad x++dB bad y | false=> [.iaddr t x y]
 | .nilck x=>match bad (.nilck x) with | true=>dB bad x | false=> [.nilck x]
def uY (d:Option Nat) (e:E):Bool:=
 match d with
 | some i=>e.looks i
 | none=>false
def pd:List It→List E
 | []=> []
 | .par l::r=>l.map (·.2)++(pd r).flatMap (dB fun e=>l.any fun p=>e.looks p.1)
 | .dT _ _ d g _ xs::r=>(match g with | some (e,w)=>e::xs.map (fun p=> .guard e w p.2) | none=>xs.map (·.2))++(pd r).flatMap (dB fun e=>e.reads || uY d e)
def covered (e:E) (l:List E):Bool:=e.sure || l.any fun f=>e.within f
def guardOf (ops:Array Oper) (keep:List Nat) (σ:List (Nat×E)) (g:Option (Nat×Bool)):Option (Option (E×Bool)):=
 match g with
 | none=>some none
 | some (j,want)=>match (ops[j]?).bind (·.dst) with
  | none=>none
  | some d=>match yX keep σ d with
   | some e=>some (some (e,want))
   | none=>none
def H2:Operand→Option Nat
 | .tmp i=>some i
 | _=>none
def rJ (keep:List Nat) (σ:List (Nat×E)):List Nat→Option (List (Nat×E))
 | []=>some []
 | i::r=>match yX keep σ i,rJ keep σ r with
  | some e,some l=>some ((i,e)::l)
  | _,_=>none
def dw (keep:List Nat) (σ:List (Nat×E)):List Nat→Nat→List (Nat×E)
 | [],_=> []
 | i::r,k=>match du σ i with
  | some e=>(k,e)::dw keep σ r (k+1)
  | none=>dw keep σ r (k+1)
def eN (g:Option (E×Bool)) (e:E):E:=
 match g with
 | none=>e
 | some (x,w)=>bt x w e
def uZ (g:Option (E×Bool)) (e:E):E:=
 match g with
 | none=>e
 | some (x,w)=> .guard x w e
def xB (keep:List Nat) (fl:List (Nat×E)) (σ:List (Nat×E)):List (Nat×E):=
 σ.filter fun p=>(posOf keep p.1).isNone&&fl.all fun q=> !p.2.looks q.1
def Me (keep:List Nat) (d:Option Nat) (σ:List (Nat×E)):List (Nat×E):=
 σ.filter fun p=> !p.2.reads&&(match d with | some i=>p.1 !=i&&(match posOf keep i with | some k=> !p.2.looks k | none=>true) | none=>true)
def AX (keep:List Nat) (d:Option Nat):Option Nat:=
 match d with
 | some i=>posOf keep i
 | none=>none
def Mf (nt:Nat) (d:Option Nat):Bool:=
 match d with
 | some i=>decide (i<nt)
 | none=>true
def u3 (c:ax) (ops:Array Oper) (i:Nat) (o:Op):Nat:=
 match fc o&&bM ops i o with
 | true=>1
 | false=>match bY c ops i o with
  | true=>2
  | false=>0
theorem xC {o:Op} (h:eC o=true):cC o=false∧fc o=false:=by
 unfold eC at h;split at h
 ·rename_i k;refine ⟨rfl,?_⟩;obtain ⟨ce,as,ts⟩:=k;cases ce with
  | value f=>rfl
  | _=>simp at h
 ·cases h
theorem F7 {c:ax} {ops:Array Oper} {i:Nat} {o:Op}:(u3 c ops i o==1)=(fc o&&bM ops i o):=by
 unfold u3;cases fc o&&bM ops i o with
 | true=>rfl
 | false=>cases bY c ops i o <;> rfl
theorem AY {c:ax} {ops:Array Oper} {i:Nat} {o:Op}:(u3 c ops i o==2)=bY c ops i o:=by
 unfold u3;cases hg:fc o with
 | false=>simp only [Bool.false_and];cases bY c ops i o <;> rfl
 | true=>
  have ha:bY c ops i o=false:=by
   cases hc:eC o with
   | false=>simp [bY,nD hc]
   | true=>have:=(xC hc).2;rw [hg] at this;cases this
  rw [ha];cases bM ops i o <;> rfl
def tU (c:ax) (ops:Array Oper) (dr:Bool) (i:Nat) (o:Op):Option (List Nat):=
 match dr&& !alone ops i with
 | true=>some (u3 c ops i o::cZ (fM ops) i ops.toList 0 0)
 | false=>none
def F8 (c:ax) (ops:Array Oper) (o:Op):Bool:=
 match o with
 | .convert _ d (.tmp i)=>match c.descOf d with
  | some .string=>ops.toList.any fun p=>match p.op,p.dst with
   | .makeSlice _ _ _,some j=>i==j
   | _,_=>false
  | _=>false
 | _=>false
def yZ (c:ax) (ops:Array Oper) (ρ:Operand→Option E) (o:Op):Option E:=
 match F8 c ops o with
 | true=>none
 | false=>mF c ρ o
theorem AZ {c:ax} {ops:Array Oper} {ρ:Operand→Option E} {o:Op} {e:E} (h:yZ c ops ρ o=some e):mF c ρ o=some e:=by
 unfold yZ at h;split at h
 ·cases h
 ·exact h
def pe (c:ax) (ops:Array Oper) (dr:Bool) (i:Nat) (o:Op):List Nat:=
 match dr&& !alone ops i&&(cC o || (fc o&&bM ops i o)) with
 | true=>gN ops i
 | false=>match dr&& !alone ops i&&bY c ops i o with
  | true=>jI ops i
  | false=> []
def Mg (ops:Array Oper) (dr:Bool) (i:Nat) (o:Op):Bool:=
 match dr&& !alone ops i&&cC o with
 | true=>bM ops i o
 | false=>true
def A0 (c:ax) (ops:Array Oper) (keep:List Nat) (g:Option (E×Bool)) (σ:List (Nat×E)) (dr:Bool) (j:Nat) (o:Op):Bool:=
 match dr&&(uD c ops || nA ops),gv o with
 | true,some p=>match fV ops j p with
  | some q=>match yX keep σ p,yX keep σ q with
   | some a,some b=>aQ (eN g a) (eN g b)
   | _,_=>false
  | none=>true
 | _,_=>true
def EW (fl:List (Nat×E)) (its:List It):List It:=
 match fl with
 | []=>its
 | _=> .par fl::its
def lF (c:ax) (ops:Array Oper) (keep:List Nat) (nt:Nat) (dr:Bool):List Oper→Nat→List (Nat×E)→Option (List It)
 | [],_,σ=>some (EW (dw keep σ keep 0) [])
 | o::r,i,σ=>match guardOf ops keep σ o.guard with
  | none=>none
  | some g=>match yZ c ops (fun x=>(yY keep σ x).map (eN g)) o.op,o.dst with
   | some e,some d=>match decide (d<nt)&&A0 c ops keep g σ dr i o.op with
    | true=>match lF c ops keep nt dr r (i+1) ((d,uZ g e)::σ.filter fun p=>p.1 !=d) with
     | some its=>match covered (uZ g e) (pd its) with
      | true=>some its
      | false=>some (.par [(keep.length,uZ g e)]::its)
     | none=>none
    | false=>none
   | _,_=>match guardOf ops keep (xB keep (dw keep σ keep 0) σ) o.guard with
    | none=>none
    | some g=>match rJ keep (xB keep (dw keep σ keep 0) σ) (o.op.operands.toList.filterMap H2++pe c ops dr i o.op) with
     | none=>none
     | some xs=>match (Mf nt o.dst&&Mg ops dr i o.op)&&A0 c ops keep g (xB keep (dw keep σ keep 0) σ) dr i o.op with
      | true=>match lF c ops keep nt dr r (i+1) (Me keep o.dst (xB keep (dw keep σ keep 0) σ)) with
       | some its=>some (EW (dw keep σ keep 0) (.dT (tU c ops dr i o.op) (cv ops.toList i 0) (AX keep o.dst) g o.op (xs.map fun p=>(p.1,eN g p.2))::its))
       | none=>none
      | false=>none
def y4 (c:ax) (keep:List Nat) (nt:Nat) (ops:Array Oper) (dr:Bool):Option IR:=
 match !dr || rB ops with
 | true=>match lF c ops keep nt dr ops.toList 0 [] with
  | some its=>some (.cg (cG ops.toList) (match dr with | true=>List.range (cG ops.toList) | false=> []) its)
  | none=>none
 | false=>none
def H3 (c:ax) (keep:List Nat) (nt:Nat) (ops:Array Oper) (dr:Bool):Option IR:=
 match dr,ops.toList with
 | false,o::r=>match o.op,o.dst,o.guard with
  | .next (.tmp t) false,some d,none=>match posOf keep t,posOf keep d,lF c ops keep nt false r 1 [],decide (d<nt) with
   | some x,some k,some its,true=>some (.AR x k (cG r) its)
   | _,_,_,_=>none
  | _,_,_=>none
 | _,_=>none
def NO (c:ax) (k:Call):Bool:=k.argTypes.toList.any fun t=>match c.descOf t with
 | some (.pointer _)=>true
 | some (.func _ _ _)=>true
 | _=>false
def Kq (c:ax):Op→Bool
 | .call k=>(match k.callee with | .value _=>true | _=>false)&&NO c k
 | _=>false
def Mh (ops:Array Oper) (i j:Nat):Bool:=i !=j&& !ordered (fM ops) i j&& !ordered (fM ops) j i
def NP (ops:Array Oper) (j:Nat):List Nat:=(List.range ops.size).filter fun i=>Mh ops i j&& !nz ops i
def tV (c:ax) (ops:Array Oper):Option (Nat×Nat):=
 match HH ops.toList 0 with
 | [i,j]=>(match Mh ops i j with | true=>some (i,j) | false=>none)
 | _=>match (List.range ops.size).filter fun j=>(match ops[j]? with | some o=>Kq c o.op&& !alone ops j | none=>false) with
  | [j]=>match NP ops j with
   | i::r=>some (match r.getLast? with | some q=>(min q j,max q j) | none=>(min i j,max i j))
   | _=>none
  | _=>none
def nH (c:ax) (keep:List Nat) (nt:Nat):Nat→Array Oper→Option (List (Nat×List Nat×List It))
 | 0,_=>none
 | k+1,ops=>match tV c ops with
  | some (i,j)=>match HJ ops i j,nH c keep nt k (eM id id i j ops),nH c keep nt k (eM (sg i j) (ta i j) j i ops) with
   | true,some l1,some l2=>some (l1++l2)
   | _,_,_=>none
  | none=>match y4 c keep nt ops true with
   | some (.cg n kl its)=>some [(n,kl,its)]
   | _=>none
def H4 (c:ax) (keep:List Nat) (nt:Nat) (ops:Array Oper) (dr:Bool):Option IR:=
 match dr,tV c ops with
 | true,some _=>match nH c keep nt 4 ops with
  | some (x::l)=>some (.alt (x::l))
  | _=>none
 | _,_=>none
def F9 (c:ax) (keep:List Nat) (nt:Nat) (ops:Array Oper) (dr:Bool):Option IR:=
 match H3 c keep nt ops dr with
 | some x=>some x
 | none=>match H4 c keep nt ops dr with
  | some x=>some x
  | none=>y4 c keep nt ops dr
def jh (c:ax) (keep:List Nat) (nt:Nat):Code→Option IR
 | .skip=>some .skip
 | .label _=>some .skip
 | .ret=>some .ret
 | .exit i=>some (.exit i)
 | .seq a b=>match jh c keep nt a,jh c keep nt b with
  | some a',some b'=>some (.seq a' b')
  | _,_=>none
 | .block i a=>match jh c keep nt a with
  | some a'=>some (.block i a')
  | none=>none
 | .scope a=>jh c keep nt a
 | .cond (.tmp x) a b=>match posOf keep x,jh c keep nt a,jh c keep nt b with
  | some k,some a',some b'=>some (.cond k a' b')
  | none,_,_=>some .stuck
  | _,_,_=>none
 | .loop a=>match jh c keep nt a with
  | some a'=>some (.loop [] a')
  | none=>none
 | .cond (.const v) a b=>match fS v with
  | .bool true=>jh c keep nt a
  | .bool false=>jh c keep nt b
  | _=>some .stuck
 | .region _ ops dr=>match F9 c keep nt ops dr with
  | some x=>some x
  | none=>some .stuck
 | .rangeFunc (.tmp t) ps asg body=>match posOf keep t with
  | some x=>some (.q8 x ⟨ps,asg,body,keep,nt⟩)
  | none=>none
 | _=>some .stuck
def E.bits:E→Nat
 | .var j=>2^j
 | .cst _=>0
 | .bin _ _ x y=>x.bits ||| y.bits
 | .un _ x=>x.bits
 | .pick p x y=>p.bits ||| x.bits ||| y.bits
 | .guard g _ e=>g.bits ||| e.bits
 | .and p x=>p.bits ||| x.bits
 | .or p x=>p.bits ||| x.bits
 | .index _ x y=>x.bits ||| y.bits
 | .field _ x _=>x.bits
 | .extract x _=>x.bits
 | .conv _ _ x=>x.bits
 | .toInt _ x=>x.bits
 | .len _ x=>x.bits
 | .lenS x=>x.bits
 | .slA x=>x.bits
 | .slL x y=>x.bits ||| y.bits
 | .slH x y=>x.bits ||| y.bits
 | .slB x y z=>x.bits ||| y.bits ||| z.bits
 | .load _ x=>x.bits
 | .faddr _ x _=>x.bits
 | .iaddr _ x y=>x.bits ||| y.bits
 | .nilck x=>x.bits
def y5 (m i:Nat):Nat:=if m.testBit i then m-2^i else m
def qj:List It→Nat→Nat
 | [],out=>out
 | .par l::r,out=>l.foldl (fun m p=>m ||| p.2.bits) (l.foldl (fun m p=>y5 m p.1) (qj r out))
 | .dT _ _ d g _ xs::r,out=>
  let m:=qj r out
  let m:=match d,g with | some i,none=>y5 m i | _,_=>m
  let m:=match g with | some (e,_)=>m ||| e.bits | none=>m
  xs.foldl (fun m p=>m ||| p.2.bits) m
def A4 (xs:List (Nat×Nat)) (i:Nat):Nat:=
 match xs with
 | []=>0
 | (j,m)::r=>if i=j then m else A4 r i
def l7 (ret:Nat):IR→List (Nat×Nat)→Nat→Nat
 | .skip,_,out=>out
 | .ret,_,_=>ret
 | .stuck,_,_=>0
 | .own _,_,out=>out
 | .exit i,xs,_=>A4 xs i
 | .seq a b,xs,out=>l7 ret a xs (l7 ret b xs out)
 | .block i a,xs,out=>l7 ret a ((i,out)::xs) out
 | .cg _ _ its,_,out=>qj its out
 | .cond x a b,xs,out=>l7 ret a xs out ||| l7 ret b xs out ||| 2^x
 | .loop _ a,xs,_=>l7 ret a xs (l7 ret a xs (l7 ret a xs 0))
 | .q8 _ s,_,_=>2^s.keep.length-1
 | .AR x k _ its,_,out=>y5 (qj its out) k ||| 2^x
 | .alt l,_,out=>l.foldl (fun m x=>m ||| qj x.2.2 out) 0
def u4 (d:Nat):List It→Bool
 | []=>false
 | .dT _ _ _ _ (.call ⟨.builtin .append,args,_⟩) xs::r=>(match args.toList with
  | .tmp t::_=>match du xs t with
   | some (.var j)=>j==d
   | _=>false
  | _=>false) || u4 d r
 | _::r=>u4 d r
def EX (c:ax):List It→List qh
 | []=> []
 | .dT _ _ (some d) _ (.slice ty (.tmp t) .none _ .none) xs::r=>
  let rest:=EX c r
  match u4 d r,c.descOf ty,du xs t with
  | true,some (.slice el),some (.var i)=>match c.ti el with
   | some j=>⟨i,none,el,j.size⟩::rest
   | none=>rest
  | _,_,_=>rest
 | .dT _ _ _ _ (.call ⟨.builtin .append,args,ts⟩) xs::r=>
  let rest:=EX c r
  match ts.toList,args.toList with
  | st::_,.tmp t::_=>match c.descOf st with
   | some (.slice el)=>match c.ti el,du xs t with
    | some j,some (.var i)=>⟨i,none,el,j.size⟩::rest
    | some j,some (.load _ (.var i))=>⟨i,some 0,el,j.size⟩::rest
    | some j,some (.load _ (.faddr sty (.var i) f))=>match c.ti sty with
     | some k=>match k.fields[f]? with
      | some (_,o,_)=>⟨i,some o,el,j.size⟩::rest
      | none=>rest
     | none=>rest
    | some j,some (.load _ (.faddr sty (.nilck (.var i)) f))=>match c.ti sty with
     | some k=>match k.fields[f]? with
      | some (_,o,_)=>⟨i,some o,el,j.size⟩::rest
      | none=>rest
     | none=>rest
    | _,_=>rest
   | _=>rest
  | _,_=>rest
 | _::r=>EX c r
def nI (c:ax) (d:Nat):List (TypeId×Nat×Nat)→List qh
 | []=> []
 | (t,o,_)::r=>match c.descOf t with
  | some (.slice el)=>match c.ti el with
   | some j=>⟨d,some o,el,j.size⟩::nI c d r
   | none=>nI c d r
  | _=>nI c d r
def H5 (c:ax) (d:Nat) (ty:TypeId):List qh:=
 match c.ti ty with
 | some i=>match i.desc with
  | .slice el=>match c.ti el with
   | some j=> [⟨d,some 0,el,j.size⟩]
   | none=> []
  | .struct _=>nI c d i.fields
  | _=> []
 | none=> []
def storedIn (d:Nat):List It→Bool
 | []=>false
 | .dT _ _ _ _ (.store _ (.tmp t) _) xs::r=>(match du xs t with | some (.var i)=>i==d | _=>false) || storedIn d r
 | _::r=>storedIn d r
def y6 (d:Nat) (bs:List Nat):List It→Bool
 | []=>false
 | .dT _ _ _ _ (.store _ (.tmp t) (.tmp x)) xs::r=>(match du xs t,du xs x with | some (.var i),some (.var j)=>i==d&&bs.contains j | _,_=>false) || y6 d bs r
 | _::r=>y6 d bs r
def fY (c:ax) (bs:List Nat):List It→List qh
 | []=> []
 | .dT _ _ (some d) _ (.alloc ty) _::r=>match c.cut&&storedIn d r with
  | true=>match y6 d bs r with
   | true=>H5 c d ty++fY c bs r
   | false=>fY c bs r
  | false=>H5 c d ty++fY c bs r
 | .dT _ _ (some d) _ (.build _ _) _::r=>fY c (d::bs) r
 | .dT _ _ (some d) _ (.box ty (.tmp t)) xs::r=>match du xs t with
  | some (.var j)=>match bs.contains j with
   | true=>H5 c d ty++fY c bs r
   | false=>fY c bs r
  | _=>fY c bs r
 | _::r=>fY c bs r
def mG (c:ax):IR→List qh
 | .seq a b=>mG c a++mG c b
 | .block _ a=>mG c a
 | .cond _ a b=>mG c a++mG c b
 | .loop _ a=>mG c a
 | .cg _ _ its=>EX c its
 | _=> []
def Kr (a b:qh):Bool:=a.slot==b.slot&&a.cell==b.cell
def dedup:List qh→List qh
 | []=> []
 | a::r=>match r.any (Kr a) with
  | true=>dedup r
  | false=>a::dedup r
def u5:List qh→List Nat
 | []=> []
 | o::r=>match o.cell with
  | none=>(o.slot+1000)::u5 r
  | some _=>u5 r
def H6 (n m:Nat):List Nat:=(List.range n).filter fun i=> !m.testBit i
def u6 (l:List qh) (x:IR):IR:=
 match l with
 | []=>x
 | l=> .seq (.own l) x
def Dk (x:IR) (l:List qh):IR:=
 match l with
 | []=>x
 | l=> .seq x (.own l)
def y7:List It→List qh
 | []=> []
 | .dT (some (0::_)) _ _ _ (.slice ty (.tmp t) _ _ none) xs::r=>match du xs t with
  | some (.var i)=>⟨i,none,ty,0⟩::y7 r
  | _=>y7 r
 | _::r=>y7 r
def nJ (c:ax):List It→List qh
 | []=> []
 | .dT (some (0::_)) _ _ _ (.call ⟨.value (.func f),args,_⟩) xs::r=>
  match c.EG f with
  | true=>(args.toList.filterMap fun a=>match a with
   | .tmp t=>(match du xs t with
    | some (.var i)=>some ⟨i,none,0,0⟩
    | _=>none)
   | _=>none)++nJ c r
  | false=>nJ c r
 | _::r=>nJ c r
def lG (c:ax):List (Nat×E)→List It→List qh
 | _, []=> []
 | σ,.par l::r=>lG c (l++σ) r
 | σ,.dT _ _ _ _ (.call ⟨.builtin .append,args,ts⟩) xs::r=>
  match ts.toList,args.toList with
  | st::_,.tmp t::_=>match c.descOf st,du xs t with
   | some (.slice el),some (.var i)=>match c.ti el,du σ i with
    | some j,some (.load _ (.var q))=>⟨q,some 0,el,j.size⟩::lG c σ r
    | _,_=>lG c σ r
   | _,_=>lG c σ r
  | _,_=>lG c σ r
 | σ,_::r=>lG c σ r
def cellsIn (c:ax):IR→List qh
 | .seq a b=>cellsIn c a++cellsIn c b
 | .block _ a=>cellsIn c a
 | .cond _ a b=>cellsIn c a++cellsIn c b
 | .loop _ a=>cellsIn c a
 | .cg _ _ its=>lG c [] its
 | _=> []
def Sd (c:ax) (s:Site):List qh:=
 match jh c s.keep s.nt s.body with
 | some b=>dedup (cellsIn c b)
 | none=> []
def l8 (c:ax) (n ret:Nat):IR→List (Nat×Nat)→Nat→IR
 | .seq a b,xs,out=> .seq (l8 c n ret a xs (l7 ret b xs out)) (l8 c n ret b xs out)
 | .block i a,xs,out=> .block i (l8 c n ret a ((i,out)::xs) out)
 | .cond x a b,xs,out=> .cond x (l8 c n ret a xs out) (l8 c n ret b xs out)
 | .loop k a,xs,out=>u6 ((dedup (mG c a)).filter fun o=>(l7 ret (.loop k a) xs out).testBit o.slot) (.loop (H6 n (l7 ret (.loop k a) xs out)++u5 (mG c a)) (l8 c n ret a xs (l7 ret (.loop k a) xs out)))
 | .cg m kl its,_,_=>u6 (match c.cut with | true=>nJ c its | false=>y7 its) (Dk (.cg m kl its) (fY c [] its))
 | .q8 x s,_,_=>u6 (match c.cut with | true=>Sd c s | false=> []) (.q8 x s)
 | ir,_,_=>ir
def Dl (l:List (Nat×Nat)) (i:Nat):Option Nat:=
 match l with
 | []=>none
 | (j,k)::r=>if i=j then some k else Dl r i
def VI (ds:List (Nat×Nat)) (acc:List Nat) (i:Nat):List Nat:=
 match Dl ds i with
 | some 2 | none=>i::acc
 | _=>acc
def Ks (c:ax):Op→Bool
 | .convert s d _=>match c.descOf s,c.descOf d with
  | some (.int _),some (.int _)=>false
  | _,_=>true
 | .load _ _ | .fieldAddr _ _ _ | .indexAddr _ _ _=>true
 | .call k=>match k.argTypes.toList with
  | [t]=>match c.descOf t with
   | some .string=>false
   | _=>true
  | _=>true
 | _=>false
def qk (c:ax) (ops:Array Oper):List Oper→List (Nat×Nat)→List Nat→List Nat
 | [],_,acc=>acc
 | o::r,ds,acc=>
  let us:=o.op.operands.toList.filterMap H2
  let us:=match o.guard with
   | some (j,_)=>match (ops[j]?).bind (·.dst) with | some d=>d::us | none=>us
   | none=>us
  let acc:=us.foldl (VI ds) acc
  let acc:=match o.op,o.dst with | .next _ false,some d=>d::acc | _,_=>acc
  let isPure:=(yZ c ops (fun x=>some (match x with | .tmp i=>E.var i | _=> .cst .bS)) o.op).isSome&&o.dst.isSome
  let rd:=Ks c o.op || us.any fun u=>Dl ds u==some 1
  let ds:=match isPure with
   | true=>ds
   | false=>ds.map fun p=>if p.2==1 then (p.1,2) else p
  match o.dst with
  | some d=>qk c ops r ((d,match isPure,rd with | true,true=>1 | true,false=>0 | false,_=>2)::ds) acc
  | none=>qk c ops r ds acc
def rK (c:ax):Nat→Array Oper→List (Array Oper)
 | 0,_=> []
 | k+1,ops=>match tV c ops with
  | some (i,j)=>rK c k (eM id id i j ops)++rK c k (eM (sg i j) (ta i j) j i ops)
  | none=> [ops]
def oA (c:ax):Code→List Nat→List Nat
 | .seq a b,acc=>oA c b (oA c a acc)
 | .block _ a,acc=>oA c a acc
 | .scope a,acc=>oA c a acc
 | .cond (.tmp x) a b,acc=>oA c b (oA c a (x::acc))
 | .loop a,acc=>oA c a acc
 | .region _ ops dr,acc=>match dr,tV c ops with
  | true,some _=>(rK c 4 ops).foldl (fun a o=>qk c o o.toList [] a) (qk c ops ops.toList [] acc)
  | _,_=>qk c ops ops.toList [] acc
 | .rangeFunc (.tmp t) _ asg body,acc=>oA c body (oA c asg (t::acc))
 | _,acc=>acc
def H7 (c:ax) (fn:Func) (a:Code):List Nat:=
 let l:=oA c a (fn.results.toList.map fun | .tmp i=>i | .cell i _=>i)
 (List.range fn.ntmps).filter fun i=>l.contains i
inductive JN where
 | v (i:Nat)
 | cell (i:Nat) (ty:TypeId)
structure bT where
 keep:List Nat
 code:IR
 res:List JN
def rL (keep:List Nat):List ResultVar→Option (List JN)
 | []=>some []
 | .tmp i::r=>match posOf keep i,rL keep r with
  | some k,some l=>some (.v k::l)
  | _,_=>none
 | .cell i ty::r=>match posOf keep i,rL keep r with
  | some k,some l=>some (.cell k ty::l)
  | _,_=>none
def tW:List JN→Nat
 | []=>0
 | .v i::r=>2^i ||| tW r
 | .cell i _::r=>2^i ||| tW r
def y8 (c:ax) (keep:List Nat) (fn:Func):Option bT:=
 match fn.body with
 | none=>none
 | some a=>match rL keep fn.results.toList,jh c keep fn.ntmps a,decide (fn.ntmps<10000)&&keep.all fun i=>decide (i<fn.ntmps) with
  | some rs,some ir,true=>some {keep:=keep,code:=l8 c keep.length (tW rs) ir [] (tW rs),res:=rs}
  | _,_,_=>none
def IR.l9:IR→Bool
 | .q8 _ _=>false
 | .seq a b=>a.l9&&b.l9
 | .block _ a=>a.l9
 | .cond _ a b=>a.l9&&b.l9
 | .loop _ a=>a.l9
 | _=>true
def tT (c:ax) (s:Site):Option (IR×IR):=
 match jh c s.keep s.nt s.asg,jh c s.keep s.nt s.body,decide (s.nt<10000)&&s.keep.all fun i=>decide (i<s.nt) with
 | some a,some b,true=>match (l8 c s.keep.length 0 a [] (2^s.keep.length-1)).l9&&(l8 c s.keep.length 0 b [] 0).l9 with
  | true=>some (l8 c s.keep.length 0 a [] (2^s.keep.length-1),l8 c s.keep.length 0 b [] 0)
  | false=>none
 | _,_,_=>none
def A5 (keep:List Nat):List Tmp→List AV→List (Option AV)→List (Option AV)
 | p::ps,x::xs,v=>A5 keep ps xs (match posOf keep p with | some k=>v.set k (some x) | none=>v)
 | _,_,v=>v
def yV (s:Site) (env args:List AV):List (Option AV):=A5 s.keep s.ps.toList args (env.map some)
def an (c:ax) (fn:Func):Option bT:=
 match fn.body with
 | none=>none
 | some a=>y8 c (H7 c fn a) fn
end Go.Am
