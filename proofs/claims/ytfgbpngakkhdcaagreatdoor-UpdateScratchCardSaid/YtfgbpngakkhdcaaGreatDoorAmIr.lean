/- A plainer form of the machine's code: -/
import Derived.Test.YtfgbpngakkhdcaaGreatDoorAmRun
import Derived.Test.YtfgbpngakkhdcaaGreatDoorAmAlt
set_option linter.all false
namespace Go.Am
inductive E where
 | var (i:Nat)
 | cst (v:AV)
 | bin (op:BinOp) (ty:TypeId) (x y:E)
 | un (op:UnOp) (x:E)
 | pick (p a b:E)
 | guard (g:E) (want:Bool) (e:E)
 | and (p b:E)
 | or (p b:E)
 | index (ty:TypeId) (x i:E)
 | field (sty:TypeId) (x:E) (f:Nat)
 | extract (x:E) (i:Nat)
 | conv (src dst:TypeId) (x:E)
 | toInt (k:IntKind) (x:E)
 | len (ty:TypeId) (x:E)
 | lenS (x:E)
 | slA (x:E)
 | slL (x lo:E)
 | slH (x hi:E)
 | slB (x lo hi:E)
 | load (ty:TypeId) (x:E)
 | faddr (sty:TypeId) (x:E) (f:Nat)
 | iaddr (ty:TypeId) (x i:E)
 | nilck (x:E)
 deriving Inhabited
def rN:Out->Option AV
 | some (v,.none)=>some v
 | _=>none
def qw (x:AV) (lo hi:Option AV):Option AV:=
 match x with
 | .str s=>match c7 hi s.length s.length with
  | some h=>match c7 lo 0 h with
   | some l=>some (.str ((s.take h).drop l))
   | none=>none
  | none=>none
 | _=>none
def Km (x:AV):Option AV:=
 match x with
 | .str s=>some (.int .i64 s.length)
 | _=>none
def Fb (k:IntKind) (x:AV):Option AV:=
 match x with
 | .int _ n=>some (.int k (k.wrap n))
 | _=>none
def QV (c:av) (ty:TypeId) (x:AV) (bs:List ad):Out:=
 match c.ti ty with
 | some i=>qh i.desc x bs
 | .none=> .none
def mG (g:Option AV) (want:Bool) (e:Option AV):Option AV:=
 match g with
 | some (.bool b)=>match b==want with
  | true=>e
  | false=>some (.aL [])
 | some (.aL _)=>some (.aL [])
 | _=>none
def H9 (p b:Option AV):Option AV:=
 match p with
 | some (.bool true)=>b
 | some (.bool false)=>some (.bool false)
 | _=>none
def Te (p b:Option AV):Option AV:=
 match p with
 | some (.bool true)=>some (.bool true)
 | some (.bool false)=>b
 | _=>none
def Fe (x:Option AV) (f:AV->Option AV):Option AV:=
 match x with
 | some a=>f a
 | none=>none
def GX (x y:Option AV) (f:AV->AV->Option AV):Option AV:=
 match x with
 | some a=>match y with
  | some b=>f a b
  | none=>none
 | none=>none
def My (x y z:Option AV) (f:AV->AV->AV->Option AV):Option AV:=
 match x with
 | some a=>match y with
  | some b=>match z with
   | some d=>f a b d
   | none=>none
  | none=>none
 | none=>none
def lK (env:List (Option AV)) (i:Nat):Option AV:=env.getD i none
def bF (c:av) (env:List (Option AV)) (bs:List ad):E->Option AV
 | .var i=>lK env i
 | .cst v=>some v
 | .bin op ty x y=>GX (bF c env bs x) (bF c env bs y) fun a b=>iG c ty op a b
 | .un op x=>Fe (bF c env bs x) fun a=>M7 op a
 | .pick p x y=>My (bF c env bs p) (bF c env bs x) (bF c env bs y) fun p a b=>rN (wm p a b)
 | .guard g w e=>mG (bF c env bs g) w (bF c env bs e)
 | .and p x=>H9 (bF c env bs p) (bF c env bs x)
 | .or p x=>Te (bF c env bs p) (bF c env bs x)
 | .index ty x y=>GX (bF c env bs x) (bF c env bs y) fun a b=>rN (qj c (c.ti ty) a b)
 | .field ty x f=>Fe (bF c env bs x) fun a=>rN (qi c (c.ti ty) a f)
 | .extract x i=>Fe (bF c env bs x) fun a=>rN (jK a i)
 | .conv s d x=>Fe (bF c env bs x) fun a=>rN (ea c (c.ti s) (c.ti d) a bs 0)
 | .toInt k x=>Fe (bF c env bs x) fun a=>Fb k a
 | .len ty x=>Fe (bF c env bs x) fun a=>rN (QV c ty a bs)
 | .lenS x=>Fe (bF c env bs x) fun a=>Km a
 | .slA x=>Fe (bF c env bs x) fun a=>qw a none none
 | .slL x y=>GX (bF c env bs x) (bF c env bs y) fun a l=>qw a (some l) none
 | .slH x z=>GX (bF c env bs x) (bF c env bs z) fun a h=>qw a none (some h)
 | .slB x y z=>My (bF c env bs x) (bF c env bs y) (bF c env bs z) fun a l h=>qw a (some l) (some h)
 | .load ty x=>Fe (bF c env bs x) fun a=>rN (nK (c.ti ty) a bs)
 | .faddr ty x f=>Fe (bF c env bs x) fun a=>rN (cN (c.ti ty) a f bs)
 | .iaddr ty x y=>GX (bF c env bs x) (bF c env bs y) fun a b=>rN (er c (c.ti ty) a b bs)
 | .nilck x=>Fe (bF c env bs x) fun a=>rN (g9 a)
def E.reads:E->Bool
 | .var _ | .cst _=>false
 | .bin _ _ x y=>x.reads || y.reads
 | .un _ x=>x.reads
 | .pick p x y=>p.reads || x.reads || y.reads
 | .guard g _ e=>g.reads || e.reads
 | .and p x=>p.reads || x.reads
 | .or p x=>p.reads || x.reads
 | .index _ x y=>x.reads || y.reads
 | .field _ x _=>x.reads
 | .extract x _=>x.reads
 | .toInt _ x=>x.reads
 | .lenS x=>x.reads
 | .slA x=>x.reads
 | .slL x y=>x.reads || y.reads
 | .slH x y=>x.reads || y.reads
 | .slB x y z=>x.reads || y.reads || z.reads
 | .nilck x=>x.reads
 | .conv _ _ _ | .len _ _ | .load _ _ | .faddr _ _ _ | .iaddr _ _ _=>true
def E.looks (i:Nat):E->Bool
 | .var j=>i==j
 | .cst _=>false
 | .bin _ _ x y=>x.looks i || y.looks i
 | .un _ x=>x.looks i
 | .pick p x y=>p.looks i || x.looks i || y.looks i
 | .guard g _ e=>g.looks i || e.looks i
 | .and p x=>p.looks i || x.looks i
 | .or p x=>p.looks i || x.looks i
 | .index _ x y=>x.looks i || y.looks i
 | .field _ x _=>x.looks i
 | .extract x _=>x.looks i
 | .conv _ _ x=>x.looks i
 | .toInt _ x=>x.looks i
 | .len _ x=>x.looks i
 | .lenS x=>x.looks i
 | .slA x=>x.looks i
 | .slL x y=>x.looks i || y.looks i
 | .slH x y=>x.looks i || y.looks i
 | .slB x y z=>x.looks i || y.looks i || z.looks i
 | .load _ x=>x.looks i
 | .faddr _ x _=>x.looks i
 | .iaddr _ x y=>x.looks i || y.looks i
 | .nilck x=>x.looks i
def look (vs:List (Nat×AV)) (i:Nat):AV:=
 match vs with
 | []=> .any
 | (j,v)::r=>if i=j then v else look r i
def Vy (vs:List (Nat×AV)):Operand->AV
 | .tmp i=>look vs i
 | .const v=>gA v
 | .func f=> .fn f [] []
 | .global _=> .any
def c8 (c:av) (op:Op) (φ:Operand->AV) (bs:List ad) (id:Nat):Out:=
 match op with
 | .move x | .assign x=>some (φ x,.none)
 | .pick x a b=>wm (φ x) (φ a) (φ b)
 | .alloc e=>wq (c.ti e) e id
 | .box e x=>JZ e (φ x).cells id
 | .build ty parts=>sW c (c.ti ty) (parts.toList.map fun p=>(p.1,φ p.2))
 | .buildSlice ty len parts=>fa c (c.ti ty) len (parts.toList.map fun p=>(p.1,φ p.2)) id bs
 | .load ty a=>nK (c.ti ty) (φ a) bs
 | .store ty a x=>nM (c.ti ty) (φ a) (φ x).cells bs
 | .nilCheck x=>g9 (φ x)
 | .makeInterface ty x=>wx c ty (φ x)
 | .binOp op ty x y _=>(HP c ty op y (φ x) (φ y)).map (·,.none)
 | .unOp op _ x=>(M7 op (φ x)).map (·,.none)
 | .convert src dst x=>ea c (c.ti src) (c.ti dst) (φ x) bs id
 | .makeFunc (.func f) first caps=>some (.fn f (first.toList.map φ) (caps.toList.map φ),.none)
 | .makeSlice ty l m=>jJ c (c.ti ty) (φ l) (φ m) id
 | .slice ty x lo hi mx=>match c.ti ty with
  | some i=>match mx with
   | .none=>dP c i.desc (φ x) (lo.map φ) (hi.map φ) bs
   | some m=>kv c i.desc (φ x) (lo.map φ) (hi.map φ) (some (φ m)) bs
  | .none=> .none
 | .fieldAddr sty x f=>cN (c.ti sty) (φ x) f bs
 | .field sty x f=>qi c (c.ti sty) (φ x) f
 | .indexAddr ty x ix=>er c (c.ti ty) (φ x) (φ ix) bs
 | .index ty x ix=>qj c (c.ti ty) (φ x) (φ ix)
 | .extract x i=>jK (φ x) i
 | .makeMap ty r=>gw (r.map φ) (c.ti ty) id
 | .range ty x=>mw (c.ti ty) (φ x) bs id
 | .next x str=>wu (φ x) str bs
 | .lookup ty x k ok=>bU c (c.ti ty) (φ x) (φ k) ok bs
 | .mapUpdate ty m k x=>ay c (c.ti ty) (φ m) (φ k) (φ x) bs
 | .insert ty m k x=>ay c (c.ti ty) (φ m) (φ k) (φ x) bs
 | .mapEntry ty m k=>ju c (c.ti ty) (φ m) (φ k) bs
 | .entryStore _ m s x=>gg (φ m) (φ s) (φ x) bs
 | .entry x=>nN (φ x) bs
 | .call k=>match k.callee with
  | .builtin b=>eH c b k.argTypes.toList (k.args.toList.map φ) bs id
  | _=> .none
 | _=> .none
def eb (c:av) (cf:aF) (op:Op) (φ:Operand->AV) (bs:List ad) (id:Nat):Out:=
 match op with
 | .call k=>match k.callee with
  | .value f=>match φ f with
   | .fn g first caps=>match c.ext g with
    | some G=>match G (first++k.args.toList.map φ++caps) with
     | some v=>some (v,.none)
     | .none=> .none
    | .none=>nj c cf g (first++k.args.toList.map φ++caps) bs
   | .gm l s env=>match cf (.gm l s env) (k.args.toList.map φ) bs with
    | some (v,bs')=>some (v,.all bs')
    | .none=> .none
   | _=> .none
  | _=>c8 c (.call k) φ bs id
 | op=>c8 c op φ bs id
inductive It where
 | par (l:List (Nat×E))
 | dm (mask:Option (List Nat)) (k:Nat) (d:Option Nat) (g:Option (E×Bool)) (o:Op) (xs:List (Nat×E))
def pG (c:av) (env:List (Option AV)) (bs:List ad):List (Nat×E)->Option (List (Nat×AV))
 | []=>some []
 | (i,e)::r=>match bF c env bs e with
  | some v=>match pG c env bs r with
   | some l=>some ((i,v)::l)
   | none=>none
  | none=>none
def dJ (env:List (Option AV)):List (Nat×AV)->List (Option AV)
 | []=>env
 | (i,v)::r=>dJ (env.set i (some v)) r
def wS (env:List (Option AV)) (d:Option Nat) (v:AV):List (Option AV):=
 match d with
 | some i=>env.set i (some v)
 | none=>env
def uG (g:Option AV) (want:Bool):Option Bool:=
 match g with
 | some (.bool b)=>some (b==want)
 | some (.aL _)=>some false
 | _=>none
def uH (c:av) (env:List (Option AV)) (bs:List ad) (g:Option (E×Bool)):Option Bool:=
 match g with
 | none=>some true
 | some (e,w)=>uG (bF c env bs e) w
def CI (o:Op) (k:Nat) (vs:List (Nat×AV)):Bool:=vs.all fun p=>(mA o).contains p.1 || fA k p.2
def GY (md:Nat) (o:Op) (id:Nat) (vs:List (Nat×AV)) (bs:List ad) (r:Out):Option (AV×List ad):=
 match r with
 | some (v,.none)=>some (v,bs)
 | some (v,.new x)=>match asks o with
  | true=>match bs[id]? with
   | some .dead=>some (v,bs.set id x)
   | _=>none
  | false=>none
 | some (v,.gQ k (.var ty cs))=>match cA o&&CI o k vs with
  | true=>some (v,bs.set k (.var ty cs))
  | false=>none
 | some (v,.gQ k (.sl sh sz es))=>match md==1&&CI o k vs with
  | true=>some (v,bs.set k (.sl sh sz es))
  | false=>none
 | some (v,.app x)=>match md==2&&vs.all fun p=>nT bs.length p.2 with
  | true=>some (v,bs++ [x])
  | false=>none
 | some (v,.qg k)=>match md==3&&vs.all fun p=>(mA o).contains p.1 || rB k p.2 with
  | true=>some (v,bs.set k .gone)
  | false=>none
 | _=>none
def GZ (id:Nat) (bs:List ad) (r:Out):Option (AV×List ad):=
 match r with
 | some (v,e)=>match e.on bs id with
  | some bs'=>some (v,bs')
  | none=>none
 | none=>none
def Ia (c:av) (cf:aF) (base:Nat) (mask:Option (List Nat)) (k:Nat) (o:Op) (vs:List (Nat×AV)) (bs:List ad):Option (AV×List ad):=
 match mask with
 | none=>GZ (base+k) bs (eb c cf o (Vy vs) bs (base+k))
 | some ms=>GY (ms.headD 0) o (base+k) vs bs (eb c (cx cf (ms.headD 0==2)) o (Vy vs) (bc (ms.tail.map (base+ ·)) bs) (base+k))
def bD (c:av) (cf:aF) (base:Nat) (kl:List Nat):List It->List (Option AV)->List ad->Option (List (Option AV)×List ad)
 | [],env,bs=>some (env,bs)
 | .par l::r,env,bs=>match pG c env (bc (kl.map (base+ ·)) bs) l with
  | some vs=>bD c cf base kl r (dJ env vs) bs
  | none=>none
 | .dm mask k d g o xs::r,env,bs=>match uH c env (bc (kl.map (base+ ·)) bs) g with
  | some true=>match pG c env (bc (kl.map (base+ ·)) bs) xs with
   | some vs=>match Ia c cf base mask k o vs bs with
    | some (v,bs')=>bD c cf base kl r (wS env d v) bs'
    | none=>none
   | none=>none
  | some false=>bD c cf base kl r (wS env d (.aL [])) bs
  | none=>none
structure rO where
 slot:Nat
 cell:Option Nat
 el:TypeId
 sz:Nat
inductive IR where
 | skip | ret
 | own (l:List rO)
 | stuck
 | exit (i:Nat)
 | seq (a b:IR)
 | block (i:Nat) (a:IR)
 | bW (n:Nat) (kl:List Nat) (its:List It)
 | cond (x:Nat) (a b:IR)
 | loop (kill:List Nat) (a:IR)
 | sP (x:Nat) (s:Site)
 | CF (x k n:Nat) (its:List It)
 | alt (l:List (Nat×List Nat×List It))
def dF (σ:List (Nat×E)) (i:Nat):Option E:=
 match σ with
 | []=>none
 | (j,e)::r=>if i=j then some e else dF r i
def AK (keep:List Nat) (σ:List (Nat×E)) (i:Nat):Option E:=
 match dF σ i with
 | some e=>some e
 | none=>(posOf keep i).map .var
def AM (keep:List Nat) (σ:List (Nat×E)):Operand->Option E
 | .tmp i=>AK keep σ i
 | .const v=>some (.cst (gA v))
 | .func f=>some (.cst (.fn f [] []))
 | .global _=>none
def gT (x:Option E) (f:E->E):Option E:=x.map f
def rP (x y:Option E) (f:E->E->E):Option E:=
 match x,y with
 | some a,some b=>some (f a b)
 | _,_=>none
def CJ (x y z:Option E) (f:E->E->E->E):Option E:=
 match x,y,z with
 | some a,some b,some d=>some (f a b d)
 | _,_,_=>none
def G0:List UInt8->List UInt8->Bool
 | [], []=>true
 | a::l,b::m=>a==b&&G0 l m
 | _,_=>false
def Ff:AV->AV->Bool
 | .int k n,.int k' n'=>k==k'&&n==n'
 | .bool a,.bool b=>a==b
 | .str a,.str b=>G0 a b
 | .bZ,.bZ=>true
 | _,_=>false
def aS:E->E->Bool
 | .var i,.var j=>i==j
 | .cst v,.cst w=>Ff v w
 | .bin o t x y,.bin o' t' x' y'=>o==o'&&t==t'&&aS x x'&&aS y y'
 | .un o x,.un o' x'=>o==o'&&aS x x'
 | .pick p x y,.pick p' x' y'=>aS p p'&&aS x x'&&aS y y'
 | .guard g w e,.guard g' w' e'=>aS g g'&&w==w'&&aS e e'
 | .and p x,.and p' x'=>aS p p'&&aS x x'
 | .or p x,.or p' x'=>aS p p'&&aS x x'
 | .index t x y,.index t' x' y'=>t==t'&&aS x x'&&aS y y'
 | .field t x f,.field t' x' f'=>t==t'&&aS x x'&&f==f'
 | .extract x f,.extract x' f'=>aS x x'&&f==f'
 | .conv s d x,.conv s' d' x'=>s==s'&&d==d'&&aS x x'
 | .toInt k x,.toInt k' x'=>k==k'&&aS x x'
 | .len t x,.len t' x'=>t==t'&&aS x x'
 | .lenS x,.lenS x'=>aS x x'
 | .slA x,.slA x'=>aS x x'
 | .slL x y,.slL x' y'=>aS x x'&&aS y y'
 | .slH x y,.slH x' y'=>aS x x'&&aS y y'
 | .slB x y z,.slB x' y' z'=>aS x x'&&aS y y'&&aS z z'
 | .load t x,.load t' x'=>t==t'&&aS x x'
 | .faddr t x f,.faddr t' x' f'=>t==t'&&aS x x'&&f==f'
 | .iaddr t x y,.iaddr t' x' y'=>t==t'&&aS x x'&&aS y y'
 | .nilck x,.nilck x'=>aS x x'
 | _,_=>false
def bE (g:E) (w:Bool):E->E
 | .guard x v e=>match aS x g&&v==w with
  | true=>bE g w e
  | false=> .guard (bE g w x) v (bE g w e)
 | .bin o t x y=> .bin o t (bE g w x) (bE g w y)
 | .un o x=> .un o (bE g w x)
 | .pick p x y=> .pick (bE g w p) (bE g w x) (bE g w y)
 | .and p x=> .and (bE g w p) (bE g w x)
 | .or p x=> .or (bE g w p) (bE g w x)
 | .index t x y=> .index t (bE g w x) (bE g w y)
 | .field t x f=> .field t (bE g w x) f
 | .extract x i=> .extract (bE g w x) i
 | .conv s d x=> .conv s d (bE g w x)
 | .toInt k x=> .toInt k (bE g w x)
 | .len t x=> .len t (bE g w x)
 | .lenS x=> .lenS (bE g w x)
 | .slA x=> .slA (bE g w x)
 | .slL x y=> .slL (bE g w x) (bE g w y)
 | .slH x y=> .slH (bE g w x) (bE g w y)
 | .slB x y z=> .slB (bE g w x) (bE g w y) (bE g w z)
 | .load t x=> .load t (bE g w x)
 | .faddr t x f=> .faddr t (bE g w x) f
 | .iaddr t x y=> .iaddr t (bE g w x) (bE g w y)
 | .nilck x=> .nilck (bE g w x)
 | .var i=> .var i
 | .cst v=> .cst v
def oY (g:E) (w:Bool):E->Bool
 | .guard x v _=>(aS x g&&v==w) || oY g w x
 | _=>false
def E.within:E->E->Bool
 | e,.var i=>aS e (.var i)
 | e,.cst v=>aS e (.cst v)
 | e,.bin o t x y=>aS e (.bin o t x y) || e.within x || e.within y
 | e,.un o x=>aS e (.un o x) || e.within x
 | e,.pick p x y=>aS e (.pick p x y) || e.within p || e.within x || e.within y
 | e,.guard g w x=>aS e (.guard g w x) || e.within g || (oY g w e&&(bE g w e).within x)
 | e,.and p x=>aS e (.and p x) || e.within p || (oY p true e&&(bE p true e).within x)
 | e,.or p x=>aS e (.or p x) || e.within p || (oY p false e&&(bE p false e).within x)
 | e,.index t x y=>aS e (.index t x y) || e.within x || e.within y
 | e,.field t x f=>aS e (.field t x f) || e.within x
 | e,.extract x f=>aS e (.extract x f) || e.within x
 | e,.conv s d x=>aS e (.conv s d x) || e.within x
 | e,.toInt k x=>aS e (.toInt k x) || e.within x
 | e,.len t x=>aS e (.len t x) || e.within x
 | e,.lenS x=>aS e (.lenS x) || e.within x
 | e,.slA x=>aS e (.slA x) || e.within x
 | e,.slL x y=>aS e (.slL x y) || e.within x || e.within y
 | e,.slH x y=>aS e (.slH x y) || e.within x || e.within y
 | e,.slB x y z=>aS e (.slB x y z) || e.within x || e.within y || e.within z
 | e,.load t x=>aS e (.load t x) || e.within x
 | e,.faddr t x f=>aS e (.faddr t x f) || e.within x
 | e,.iaddr t x y=>aS e (.iaddr t x y) || e.within x || e.within y
 | e,.nilck x=>aS e (.nilck x) || e.within x
def Fg (p a b:E):E:=
 match a,b with
 | .guard g true x,.cst (.bool false)=>match aS g p with
  | true=> .and p x
  | false=> .pick p a b
 | .cst (.bool true),.guard g false x=>match aS g p with
  | true=> .or p x
  | false=> .pick p a b
 | a,b=> .pick p a b
def mI (c:av) (ρ:Operand->Option E):Op->Option E
 | .move x=>ρ x
 | .assign x=>ρ x
 | .pick p x y=>CJ (ρ p) (ρ x) (ρ y) Fg
 | .binOp op ty x y _=>match HO y with
  | true=>none
  | false=>rP (ρ x) (ρ y) (.bin op ty)
 | .unOp op _ x=>gT (ρ x) (.un op)
 | .index ty x y=>rP (ρ x) (ρ y) (.index ty)
 | .field ty x f=>gT (ρ x) (.field ty · f)
 | .extract x i=>gT (ρ x) (.extract · i)
 | .convert s d x=>match c.descOf s,c.descOf d with
  | some (.int _),some (.int k)=>gT (ρ x) (.toInt k)
  | _,some (.slice _)=>none
  | _,_=>gT (ρ x) (.conv s d)
 | .load ty x=>gT (ρ x) (.load ty)
 | .fieldAddr ty x f=>gT (ρ x) (.faddr ty · f)
 | .indexAddr ty x y=>rP (ρ x) (ρ y) (.iaddr ty)
 | .nilCheck x=>gT (ρ x) .nilck
 | .slice ty x lo hi none=>match c.descOf ty with
  | some .string=>match lo,hi with
   | none,none=>gT (ρ x) .slA
   | some l,none=>rP (ρ x) (ρ l) .slL
   | none,some h=>rP (ρ x) (ρ h) .slH
   | some l,some h=>CJ (ρ x) (ρ l) (ρ h) .slB
  | _=>none
 | .call k=>match k.callee,k.argTypes.toList,k.args.toList with
  | .builtin .len, [t], [x]=>match c.descOf t with
   | some .string=>gT (ρ x) .lenS
   | _=>gT (ρ x) (.len t)
  | _,_,_=>none
 | _=>none
def E.sure:E->Bool
 | .cst _=>true
 | _=>false
def dR (bad:E->Bool):E->List E
 | .var i=>match bad (.var i) with | true=> [] | false=> [.var i]
 | .cst v=>match bad (.cst v) with | true=> [] | false=> [.cst v]
 | .bin o t x y=>match bad (.bin o t x y) with | true=>dR bad x++dR bad y | false=> [.bin o t x y]
 | .un o x=>match bad (.un o x) with | true=>dR bad x | false=> [.un o x]
 | .pick p x y=>match bad (.pick p x y) with | true=>dR bad p++(dR bad x++dR bad y) | false=> [.pick p x y]
 | .guard g w x=>match bad (.guard g w x) with | true=>dR bad g++(match bad g with | true=> [] | false=>(dR bad x).map (.guard g w)) | false=> [.guard g w x]
 | .and g x=>match bad (.and g x) with | true=>dR bad g++(match bad g with | true=> [] | false=>(dR bad x).map (.guard g true)) | false=> [.and g x]
 | .or g x=>match bad (.or g x) with | true=>dR bad g++(match bad g with | true=> [] | false=>(dR bad x).map (.guard g false)) | false=> [.or g x]
 | .index t x y=>match bad (.index t x y) with | true=>dR bad x++dR bad y | false=> [.index t x y]
 | .field t x f=>match bad (.field t x f) with | true=>dR bad x | false=> [.field t x f]
 | .extract x f=>match bad (.extract x f) with | true=>dR bad x | false=> [.extract x f]
 | .conv a b x=>match bad (.conv a b x) with | true=>dR bad x | false=> [.conv a b x]
 | .toInt k x=>match bad (.toInt k x) with | true=>dR bad x | false=> [.toInt k x]
 | .len t x=>match bad (.len t x) with | true=>dR bad x | false=> [.len t x]
 | .lenS x=>match bad (.lenS x) with | true=>dR bad x | false=> [.lenS x]
 | .slA x=>match bad (.slA x) with | true=>dR bad x | false=> [.slA x]
 | .slL x y=>match bad (.slL x y) with | true=>dR bad x++dR bad y | false=> [.slL x y]
 | .slH x y=>match bad (.slH x y) with | true=>dR bad x++dR bad y | false=> [.slH x y]
 | .slB x y z=>match bad (.slB x y z) with | true=>dR bad x++(dR bad y++dR bad z) | false=> [.slB x y z]
 | .load t x=>match bad (.load t x) with | true=>dR bad x | false=> [.load t x]
 | .faddr t x f=>match bad (.faddr t x f) with | true=>dR bad x | false=> [.faddr t x f]
 | .iaddr t x y=>match bad (.iaddr t x y) with | true=>dR bad x++dR bad y | false=> [.iaddr t x y]
 | .nilck x=>match bad (.nilck x) with | true=>dR bad x | false=> [.nilck x]
def wT (d:Option Nat) (e:E):Bool:=
 match d with
 | some i=>e.looks i
 | none=>false
def qx:List It->List E
 | []=> []
 | .par l::r=>l.map (·.2)++(qx r).flatMap (dR fun e=>l.any fun p=>e.looks p.1)
 | .dm _ _ d g _ xs::r=>(match g with | some (e,w)=>e::xs.map (fun p=> .guard e w p.2) | none=>xs.map (·.2))++(qx r).flatMap (dR fun e=>e.reads || wT d e)
def covered (e:E) (l:List E):Bool:=e.sure || l.any fun f=>e.within f
def guardOf (ops:Array Oper) (keep:List Nat) (σ:List (Nat×E)) (g:Option (Nat×Bool)):Option (Option (E×Bool)):=
 match g with
 | none=>some none
 | some (j,want)=>match (ops[j]?).bind (·.dst) with
  | none=>none
  | some d=>match AK keep σ d with
   | some e=>some (some (e,want))
   | none=>none
def Ko:Operand->Option Nat
 | .tmp i=>some i
 | _=>none
def th (keep:List Nat) (σ:List (Nat×E)):List Nat->Option (List (Nat×E))
 | []=>some []
 | i::r=>match AK keep σ i,th keep σ r with
  | some e,some l=>some ((i,e)::l)
  | _,_=>none
def dK (keep:List Nat) (σ:List (Nat×E)):List Nat->Nat->List (Nat×E)
 | [],_=> []
 | i::r,k=>match dF σ i with
  | some e=>(k,e)::dK keep σ r (k+1)
  | none=>dK keep σ r (k+1)
def fg (g:Option (E×Bool)) (e:E):E:=
 match g with
 | none=>e
 | some (x,w)=>bE x w e
def wU (g:Option (E×Bool)) (e:E):E:=
 match g with
 | none=>e
 | some (x,w)=> .guard x w e
def za (keep:List Nat) (fl:List (Nat×E)) (σ:List (Nat×E)):List (Nat×E):=
 σ.filter fun p=>(posOf keep p.1).isNone&&fl.all fun q=> !p.2.looks q.1
def Pr (keep:List Nat) (d:Option Nat) (σ:List (Nat×E)):List (Nat×E):=
 σ.filter fun p=> !p.2.reads&&(match d with | some i=>p.1 !=i&&(match posOf keep i with | some k=> !p.2.looks k | none=>true) | none=>true)
def CL (keep:List Nat) (d:Option Nat):Option Nat:=
 match d with
 | some i=>posOf keep i
 | none=>none
def Ps (nt:Nat) (d:Option Nat):Bool:=
 match d with
 | some i=>decide (i<nt)
 | none=>true
def qy (c:av) (ops:Array Oper) (i:Nat) (o:Op):Nat:=
 match eN o&&bg ops i o with
 | true=>1
 | false=>match aV c ops i o with
  | true=>2
  | false=>match fB c ops i o with
   | true=>3
   | false=>0
theorem tj {o:Op} (h:cB o=true):cA o=false∧eN o=false:=by
 unfold cB at h;split at h
 ·rename_i k;refine ⟨rfl,?_⟩;obtain ⟨ce,as,ts⟩:=k;cases ce with
  | value f=>rfl
  | _=>simp at h
 ·cases h
theorem Ib {c:av} {ops:Array Oper} {i:Nat} {o:Op}:(qy c ops i o==1)=(eN o&&bg ops i o):=by
 unfold qy;cases eN o&&bg ops i o with
 | true=>rfl
 | false=>cases aV c ops i o <;> cases fB c ops i o <;> rfl
theorem Kq {c:av} {ops:Array Oper} {i:Nat} {o:Op} (h:(qy c ops i o==3)=true):aV c ops i o=false∧fB c ops i o=true:=by
 unfold qy at h;split at h
 ·cases h
 ·split at h
  ·cases h
  ·rename_i ha;split at h
   ·rename_i he;exact ⟨ha,he⟩
   ·cases h
theorem CP {c:av} {ops:Array Oper} {i:Nat} {o:Op}:(qy c ops i o==2)=aV c ops i o:=by
 unfold qy;cases hg:eN o with
 | false=>simp only [Bool.false_and];cases aV c ops i o <;> cases fB c ops i o <;> rfl
 | true=>
  have ha:aV c ops i o=false:=by
   cases hc:cB o with
   | false=>simp [aV,iu hc]
   | true=>have:=(tj hc).2;rw [hg] at this;cases this
  rw [ha];cases bg ops i o <;> cases fB c ops i o <;> rfl
def vB (c:av) (ops:Array Oper) (dr:Bool) (i:Nat) (o:Op):Option (List Nat):=
 match dr&& !alone ops i with
 | true=>some (qy c ops i o::dc (fo ops) i ops.toList 0 0)
 | false=>none
def Ic (c:av) (ops:Array Oper) (o:Op):Bool:=
 match o with
 | .convert _ d (.tmp i)=>match c.descOf d with
  | some .string=>ops.toList.any fun p=>match p.op,p.dst with
   | .makeSlice _ _ _,some j=>i==j
   | _,_=>false
  | _=>false
 | _=>false
def AO (c:av) (ops:Array Oper) (ρ:Operand->Option E) (o:Op):Option E:=
 match Ic c ops o with
 | true=>none
 | false=>mI c ρ o
theorem CQ {c:av} {ops:Array Oper} {ρ:Operand->Option E} {o:Op} {e:E} (h:AO c ops ρ o=some e):mI c ρ o=some e:=by
 unfold AO at h;split at h
 ·cases h
 ·exact h
def mJ (c:av) (ops:Array Oper) (dr:Bool) (i:Nat) (o:Op):List Nat:=
 match dr&& !alone ops i&&(cA o || (eN o&&bg ops i o)) with
 | true=>gS ops i
 | false=>match dr&& !alone ops i&&gD c ops i o with
  | true=>eI ops i
  | false=> []
def Pt (ops:Array Oper) (dr:Bool) (i:Nat) (o:Op):Bool:=
 match dr&& !alone ops i&&cA o with
 | true=>bg ops i o
 | false=>true
def CR (a b:E):Bool:=
 aS a b || match a with
  | .faddr _ x _=>CR x b
  | _=>false
def CT (c:av) (ops:Array Oper) (keep:List Nat) (g:Option (E×Bool)) (σ:List (Nat×E)) (dr:Bool) (j:Nat) (o:Op):Bool:=
 match dr&&(wz c ops || oV ops),hZ o with
 | true,some p=>match iq ops j p with
  | some q=>match AK keep σ p,AK keep σ q with
   | some a,some b=>CR (fg g a) (fg g b)
   | _,_=>false
  | none=>true
 | _,_=>true
def G1 (fl:List (Nat×E)) (its:List It):List It:=
 match fl with
 | []=>its
 | _=> .par fl::its
def mK (c:av) (ops:Array Oper) (keep:List Nat) (nt:Nat) (dr:Bool):List Oper->Nat->List (Nat×E)->Option (List It)
 | [],_,σ=>some (G1 (dK keep σ keep 0) [])
 | o::r,i,σ=>match guardOf ops keep σ o.guard with
  | none=>none
  | some g=>match AO c ops (fun x=>(AM keep σ x).map (fg g)) o.op,o.dst with
   | some e,some d=>match decide (d<nt)&&CT c ops keep g σ dr i o.op with
    | true=>match mK c ops keep nt dr r (i+1) ((d,wU g e)::σ.filter fun p=>p.1 !=d) with
     | some its=>match covered (wU g e) (qx its) with
      | true=>some its
      | false=>some (.par [(keep.length,wU g e)]::its)
     | none=>none
    | false=>none
   | _,_=>match guardOf ops keep (za keep (dK keep σ keep 0) σ) o.guard with
    | none=>none
    | some g=>match th keep (za keep (dK keep σ keep 0) σ) (o.op.operands.toList.filterMap Ko++mJ c ops dr i o.op) with
     | none=>none
     | some xs=>match (Ps nt o.dst&&Pt ops dr i o.op)&&CT c ops keep g (za keep (dK keep σ keep 0) σ) dr i o.op with
      | true=>match mK c ops keep nt dr r (i+1) (Pr keep o.dst (za keep (dK keep σ keep 0) σ)) with
       | some its=>some (G1 (dK keep σ keep 0) (.dm (vB c ops dr i o.op) (bB ops.toList i 0) (CL keep o.dst) g o.op (xs.map fun p=>(p.1,fg g p.2))::its))
       | none=>none
      | false=>none
def AQ (c:av) (keep:List Nat) (nt:Nat) (ops:Array Oper) (dr:Bool):Option IR:=
 match !dr || sY ops with
 | true=>match mK c ops keep nt dr ops.toList 0 [] with
  | some its=>some (.bW (cU ops.toList) (match dr with | true=>List.range (cU ops.toList) | false=> []) its)
  | none=>none
 | false=>none
def Kr (c:av) (keep:List Nat) (nt:Nat) (ops:Array Oper) (dr:Bool):Option IR:=
 match dr,ops.toList with
 | false,o::r=>match o.op,o.dst,o.guard with
  | .next (.tmp t) false,some d,none=>match posOf keep t,posOf keep d,mK c ops keep nt false r 1 [],decide (d<nt) with
   | some x,some k,some its,true=>some (.CF x k (cU r) its)
   | _,_,_,_=>none
  | _,_,_=>none
 | _,_=>none
def QW (c:av) (k:Call):Bool:=k.argTypes.toList.any fun t=>match c.descOf t with
 | some (.pointer _)=>true
 | some (.func _ _ _)=>true
 | _=>false
def Nn (c:av):Op->Bool
 | .call k=>(match k.callee with | .value _=>true | _=>false)&&QW c k
 | _=>false
def Pv (ops:Array Oper) (i j:Nat):Bool:=i !=j&& !ordered (fo ops) i j&& !ordered (fo ops) j i
def QX (ops:Array Oper) (j:Nat):List Nat:=(List.range ops.size).filter fun i=>Pv ops i j&& !oU ops i
def vC (c:av) (ops:Array Oper):Option (Nat×Nat):=
 match J4 ops.toList 0 with
 | [i,j]=>(match Pv ops i j with | true=>some (i,j) | false=>none)
 | _=>match (List.range ops.size).filter fun j=>(match ops[j]? with | some o=>Nn c o.op&& !alone ops j | none=>false) with
  | [j]=>match QX ops j with
   | i::r=>some (match r.getLast? with | some q=>(min q j,max q j) | none=>(min i j,max i j))
   | _=>none
  | _=>none
def oZ (c:av) (keep:List Nat) (nt:Nat):Nat->Array Oper->Option (List (Nat×List Nat×List It))
 | 0,_=>none
 | k+1,ops=>match vC c ops with
  | some (i,j)=>match J6 ops i j,oZ c keep nt k (fc id id i j ops),oZ c keep nt k (fc (sg i j) (ta i j) j i ops) with
   | true,some l1,some l2=>some (l1++l2)
   | _,_,_=>none
  | none=>match AQ c keep nt ops true with
   | some (.bW n kl its)=>some [(n,kl,its)]
   | _=>none
def Ks (c:av) (keep:List Nat) (nt:Nat) (ops:Array Oper) (dr:Bool):Option IR:=
 match dr,vC c ops with
 | true,some _=>match oZ c keep nt 4 ops with
  | some (x::l)=>some (.alt (x::l))
  | _=>none
 | _,_=>none
def Ie (c:av) (keep:List Nat) (nt:Nat) (ops:Array Oper) (dr:Bool):Option IR:=
 match Kr c keep nt ops dr with
 | some x=>some x
 | none=>match Ks c keep nt ops dr with
  | some x=>some x
  | none=>AQ c keep nt ops dr
def jR (c:av) (keep:List Nat) (nt:Nat):Code->Option IR
 | .skip=>some .skip
 | .label _=>some .skip
 | .ret=>some .ret
 | .exit i=>some (.exit i)
 | .seq a b=>match jR c keep nt a,jR c keep nt b with
  | some a',some b'=>some (.seq a' b')
  | _,_=>none
 | .block i a=>match jR c keep nt a with
  | some a'=>some (.block i a')
  | none=>none
 | .scope a=>jR c keep nt a
 | .cond (.tmp x) a b=>match posOf keep x,jR c keep nt a,jR c keep nt b with
  | some k,some a',some b'=>some (.cond k a' b')
  | none,_,_=>some .stuck
  | _,_,_=>none
 | .loop a=>match jR c keep nt a with
  | some a'=>some (.loop [] a')
  | none=>none
 | .cond (.const v) a b=>match gA v with
  | .bool true=>jR c keep nt a
  | .bool false=>jR c keep nt b
  | _=>some .stuck
 | .region _ ops dr=>match Ie c keep nt ops dr with
  | some x=>some x
  | none=>some .stuck
 | .rangeFunc (.tmp t) ps asg body=>match posOf keep t with
  | some x=>some (.sP x ⟨ps,asg,body,keep,nt⟩)
  | none=>none
 | _=>some .stuck
def E.bits:E->Nat
 | .var j=>2^j
 | .cst _=>0
 | .bin _ _ x y=>x.bits ||| y.bits
 | .un _ x=>x.bits
 | .pick p x y=>p.bits ||| x.bits ||| y.bits
 | .guard g _ e=>g.bits ||| e.bits
 | .and p x=>p.bits ||| x.bits
 | .or p x=>p.bits ||| x.bits
 | .index _ x y=>x.bits ||| y.bits
 | .field _ x _=>x.bits
 | .extract x _=>x.bits
 | .conv _ _ x=>x.bits
 | .toInt _ x=>x.bits
 | .len _ x=>x.bits
 | .lenS x=>x.bits
 | .slA x=>x.bits
 | .slL x y=>x.bits ||| y.bits
 | .slH x y=>x.bits ||| y.bits
 | .slB x y z=>x.bits ||| y.bits ||| z.bits
 | .load _ x=>x.bits
 | .faddr _ x _=>x.bits
 | .iaddr _ x y=>x.bits ||| y.bits
 | .nilck x=>x.bits
def AR (m i:Nat):Nat:=if m.testBit i then m-2^i else m
def rQ:List It->Nat->Nat
 | [],out=>out
 | .par l::r,out=>l.foldl (fun m p=>m ||| p.2.bits) (l.foldl (fun m p=>AR m p.1) (rQ r out))
 | .dm _ _ d g _ xs::r,out=>
  let m:=rQ r out
  let m:=match d,g with | some i,none=>AR m i | _,_=>m
  let m:=match g with | some (e,_)=>m ||| e.bits | none=>m
  xs.foldl (fun m p=>m ||| p.2.bits) m
def CU (xs:List (Nat×Nat)) (i:Nat):Nat:=
 match xs with
 | []=>0
 | (j,m)::r=>if i=j then m else CU r i
def np (ret:Nat):IR->List (Nat×Nat)->Nat->Nat
 | .skip,_,out=>out
 | .ret,_,_=>ret
 | .stuck,_,_=>0
 | .own _,_,out=>out
 | .exit i,xs,_=>CU xs i
 | .seq a b,xs,out=>np ret a xs (np ret b xs out)
 | .block i a,xs,out=>np ret a ((i,out)::xs) out
 | .bW _ _ its,_,out=>rQ its out
 | .cond x a b,xs,out=>np ret a xs out ||| np ret b xs out ||| 2^x
 | .loop _ a,xs,_=>np ret a xs (np ret a xs (np ret a xs 0))
 | .sP _ s,_,_=>2^s.keep.length-1
 | .CF x k _ its,_,out=>AR (rQ its out) k ||| 2^x
 | .alt l,_,out=>l.foldl (fun m x=>m ||| rQ x.2.2 out) 0
def wV (d:Nat):List It->Bool
 | []=>false
 | .dm _ _ _ _ (.call ⟨.builtin .append,args,_⟩) xs::r=>(match args.toList with
  | .tmp t::_=>match dF xs t with
   | some (.var j)=>j==d
   | _=>false
  | _=>false) || wV d r
 | _::r=>wV d r
def G2 (c:av):List It->List rO
 | []=> []
 | .dm _ _ (some d) _ (.slice ty (.tmp t) .none _ .none) xs::r=>
  let rest:=G2 c r
  match wV d r,c.descOf ty,dF xs t with
  | true,some (.slice el),some (.var i)=>match c.ti el with
   | some j=>⟨i,none,el,j.size⟩::rest
   | none=>rest
  | _,_,_=>rest
 | .dm _ _ _ _ (.call ⟨.builtin .append,args,ts⟩) xs::r=>
  let rest:=G2 c r
  match ts.toList,args.toList with
  | st::_,.tmp t::_=>match c.descOf st with
   | some (.slice el)=>match c.ti el,dF xs t with
    | some j,some (.var i)=>⟨i,none,el,j.size⟩::rest
    | some j,some (.load _ (.var i))=>⟨i,some 0,el,j.size⟩::rest
    | some j,some (.load _ (.faddr sty (.var i) f))=>match c.ti sty with
     | some k=>match k.fields[f]? with
      | some (_,o,_)=>⟨i,some o,el,j.size⟩::rest
      | none=>rest
     | none=>rest
    | some j,some (.load _ (.faddr sty (.nilck (.var i)) f))=>match c.ti sty with
     | some k=>match k.fields[f]? with
      | some (_,o,_)=>⟨i,some o,el,j.size⟩::rest
      | none=>rest
     | none=>rest
    | _,_=>rest
   | _=>rest
  | _,_=>rest
 | _::r=>G2 c r
def o0 (c:av) (d:Nat):List (TypeId×Nat×Nat)->List rO
 | []=> []
 | (t,o,_)::r=>match c.descOf t with
  | some (.slice el)=>match c.ti el with
   | some j=>⟨d,some o,el,j.size⟩::o0 c d r
   | none=>o0 c d r
  | _=>o0 c d r
def Kt (c:av) (d:Nat) (ty:TypeId):List rO:=
 match c.ti ty with
 | some i=>match i.desc with
  | .slice el=>match c.ti el with
   | some j=> [⟨d,some 0,el,j.size⟩]
   | none=> []
  | .struct _=>o0 c d i.fields
  | _=> []
 | none=> []
def storedIn (d:Nat):List It->Bool
 | []=>false
 | .dm _ _ _ _ (.store _ (.tmp t) _) xs::r=>(match dF xs t with | some (.var i)=>i==d | _=>false) || storedIn d r
 | _::r=>storedIn d r
def AT (d:Nat) (bs:List Nat):List It->Bool
 | []=>false
 | .dm _ _ _ _ (.store _ (.tmp t) (.tmp x)) xs::r=>(match dF xs t,dF xs x with | some (.var i),some (.var j)=>i==d&&bs.contains j | _,_=>false) || AT d bs r
 | _::r=>AT d bs r
def gH (c:av) (bs:List Nat):List It->List rO
 | []=> []
 | .dm _ _ (some d) _ (.alloc ty) _::r=>match c.cut&&storedIn d r with
  | true=>match AT d bs r with
   | true=>Kt c d ty++gH c bs r
   | false=>gH c bs r
  | false=>Kt c d ty++gH c bs r
 | .dm _ _ (some d) _ (.build _ _) _::r=>gH c (d::bs) r
 | .dm _ _ (some d) _ (.box ty (.tmp t)) xs::r=>match dF xs t with
  | some (.var j)=>match bs.contains j with
   | true=>Kt c d ty++gH c bs r
   | false=>gH c bs r
  | _=>gH c bs r
 | _::r=>gH c bs r
def nY (c:av):IR->List rO
 | .seq a b=>nY c a++nY c b
 | .block _ a=>nY c a
 | .cond _ a b=>nY c a++nY c b
 | .loop _ a=>nY c a
 | .bW _ _ its=>G2 c its
 | _=> []
def No (a b:rO):Bool:=a.slot==b.slot&&a.cell==b.cell
def dedup:List rO->List rO
 | []=> []
 | a::r=>match r.any (No a) with
  | true=>dedup r
  | false=>a::dedup r
def wW:List rO->List Nat
 | []=> []
 | o::r=>match o.cell with
  | none=>(o.slot+1000)::wW r
  | some _=>wW r
def Ku (n m:Nat):List Nat:=(List.range n).filter fun i=> !m.testBit i
def wX (l:List rO) (x:IR):IR:=
 match l with
 | []=>x
 | l=> .seq (.own l) x
def Fh (x:IR) (l:List rO):IR:=
 match l with
 | []=>x
 | l=> .seq x (.own l)
def AU:List It->List rO
 | []=> []
 | .dm (some (0::_)) _ _ _ (.slice ty (.tmp t) _ _ none) xs::r=>match dF xs t with
  | some (.var i)=>⟨i,none,ty,0⟩::AU r
  | _=>AU r
 | _::r=>AU r
def o5 (c:av):List It->List rO
 | []=> []
 | .dm (some (0::_)) _ _ _ (.call ⟨.value (.func f),args,_⟩) xs::r=>
  match c.ED f with
  | true=>(args.toList.filterMap fun a=>match a with
   | .tmp t=>(match dF xs t with
    | some (.var i)=>some ⟨i,none,0,0⟩
    | _=>none)
   | _=>none)++o5 c r
  | false=>o5 c r
 | _::r=>o5 c r
def mL (c:av):List (Nat×E)->List It->List rO
 | _, []=> []
 | σ,.par l::r=>mL c (l++σ) r
 | σ,.dm _ _ _ _ (.call ⟨.builtin .append,args,ts⟩) xs::r=>
  match ts.toList,args.toList with
  | st::_,.tmp t::_=>match c.descOf st,dF xs t with
   | some (.slice el),some (.var i)=>match c.ti el,dF σ i with
    | some j,some (.load _ (.var q))=>⟨q,some 0,el,j.size⟩::mL c σ r
    | _,_=>mL c σ r
   | _,_=>mL c σ r
  | _,_=>mL c σ r
 | σ,_::r=>mL c σ r
def cellsIn (c:av):IR->List rO
 | .seq a b=>cellsIn c a++cellsIn c b
 | .block _ a=>cellsIn c a
 | .cond _ a b=>cellsIn c a++cellsIn c b
 | .loop _ a=>cellsIn c a
 | .bW _ _ its=>mL c [] its
 | _=> []
def Vz (c:av) (s:Site):List rO:=
 match jR c s.keep s.nt s.body with
 | some b=>dedup (cellsIn c b)
 | none=> []
def nq (c:av) (n ret:Nat):IR->List (Nat×Nat)->Nat->IR
 | .seq a b,xs,out=> .seq (nq c n ret a xs (np ret b xs out)) (nq c n ret b xs out)
 | .block i a,xs,out=> .block i (nq c n ret a ((i,out)::xs) out)
 | .cond x a b,xs,out=> .cond x (nq c n ret a xs out) (nq c n ret b xs out)
 | .loop k a,xs,out=>wX ((dedup (nY c a)).filter fun o=>(np ret (.loop k a) xs out).testBit o.slot) (.loop (Ku n (np ret (.loop k a) xs out)++wW (nY c a)) (nq c n ret a xs (np ret (.loop k a) xs out)))
 | .bW m kl its,_,_=>wX (match c.cut with | true=>o5 c its | false=>AU its) (Fh (.bW m kl its) (gH c [] its))
 | .sP x s,_,_=>wX (match c.cut with | true=>Vz c s | false=> []) (.sP x s)
 | ir,_,_=>ir
def Fi (l:List (Nat×Nat)) (i:Nat):Option Nat:=
 match l with
 | []=>none
 | (j,k)::r=>if i=j then some k else Fi r i
def Ze (ds:List (Nat×Nat)) (acc:List Nat) (i:Nat):List Nat:=
 match Fi ds i with
 | some 2 | none=>i::acc
 | _=>acc
def Np (c:av):Op->Bool
 | .convert s d _=>match c.descOf s,c.descOf d with
  | some (.int _),some (.int _)=>false
  | _,_=>true
 | .load _ _ | .fieldAddr _ _ _ | .indexAddr _ _ _=>true
 | .call k=>match k.argTypes.toList with
  | [t]=>match c.descOf t with
   | some .string=>false
   | _=>true
  | _=>true
 | _=>false
def rR (c:av) (ops:Array Oper):List Oper->List (Nat×Nat)->List Nat->List Nat
 | [],_,acc=>acc
 | o::r,ds,acc=>
  let us:=o.op.operands.toList.filterMap Ko
  let us:=match o.guard with
   | some (j,_)=>match (ops[j]?).bind (·.dst) with | some d=>d::us | none=>us
   | none=>us
  let acc:=us.foldl (Ze ds) acc
  let acc:=match o.op,o.dst with | .next _ false,some d=>d::acc | _,_=>acc
  let isPure:=(AO c ops (fun x=>some (match x with | .tmp i=>E.var i | _=> .cst .bZ)) o.op).isSome&&o.dst.isSome
  let rd:=Np c o.op || us.any fun u=>Fi ds u==some 1
  let ds:=match isPure with
   | true=>ds
   | false=>ds.map fun p=>if p.2==1 then (p.1,2) else p
  match o.dst with
  | some d=>rR c ops r ((d,match isPure,rd with | true,true=>1 | true,false=>0 | false,_=>2)::ds) acc
  | none=>rR c ops r ds acc
def tm (c:av):Nat->Array Oper->List (Array Oper)
 | 0,_=> []
 | k+1,ops=>match vC c ops with
  | some (i,j)=>tm c k (fc id id i j ops)++tm c k (fc (sg i j) (ta i j) j i ops)
  | none=> [ops]
def pM (c:av):Code->List Nat->List Nat
 | .seq a b,acc=>pM c b (pM c a acc)
 | .block _ a,acc=>pM c a acc
 | .scope a,acc=>pM c a acc
 | .cond (.tmp x) a b,acc=>pM c b (pM c a (x::acc))
 | .loop a,acc=>pM c a acc
 | .region _ ops dr,acc=>match dr,vC c ops with
  | true,some _=>(tm c 4 ops).foldl (fun a o=>rR c o o.toList [] a) (rR c ops ops.toList [] acc)
  | _,_=>rR c ops ops.toList [] acc
 | .rangeFunc (.tmp t) _ asg body,acc=>pM c body (pM c asg (t::acc))
 | _,acc=>acc
def G3 (c:av) (fn:Func) (a:Code):List Nat:=
 let l:=pM c a (fn.results.toList.map fun | .tmp i=>i | .cell i _=>i)
 (List.range fn.ntmps).filter fun i=>l.contains i
inductive Mz where
 | v (i:Nat)
 | cell (i:Nat) (ty:TypeId)
structure ca where
 keep:List Nat
 code:IR
 res:List Mz
def tn (keep:List Nat):List ResultVar->Option (List Mz)
 | []=>some []
 | .tmp i::r=>match posOf keep i,tn keep r with
  | some k,some l=>some (.v k::l)
  | _,_=>none
 | .cell i ty::r=>match posOf keep i,tn keep r with
  | some k,some l=>some (.cell k ty::l)
  | _,_=>none
def vD:List Mz->Nat
 | []=>0
 | .v i::r=>2^i ||| vD r
 | .cell i _::r=>2^i ||| vD r
def vE (c:av) (keep:List Nat) (fn:Func):Option ca:=
 match fn.body with
 | none=>none
 | some a=>match tn keep fn.results.toList,jR c keep fn.ntmps a,decide (fn.ntmps<10000)&&keep.all fun i=>decide (i<fn.ntmps) with
  | some rs,some ir,true=>some {keep:=keep,code:=nq c keep.length (vD rs) ir [] (vD rs),res:=rs}
  | _,_,_=>none
def IR.nr:IR->Bool
 | .sP _ _=>false
 | .seq a b=>a.nr&&b.nr
 | .block _ a=>a.nr
 | .cond _ a b=>a.nr&&b.nr
 | .loop _ a=>a.nr
 | _=>true
def vA (c:av) (s:Site):Option (IR×IR):=
 match jR c s.keep s.nt s.asg,jR c s.keep s.nt s.body,decide (s.nt<10000)&&s.keep.all fun i=>decide (i<s.nt) with
 | some a,some b,true=>match (nq c s.keep.length 0 a [] (2^s.keep.length-1)).nr&&(nq c s.keep.length 0 b [] 0).nr with
  | true=>some (nq c s.keep.length 0 a [] (2^s.keep.length-1),nq c s.keep.length 0 b [] 0)
  | false=>none
 | _,_,_=>none
def CV (keep:List Nat):List Tmp->List AV->List (Option AV)->List (Option AV)
 | p::ps,x::xs,v=>CV keep ps xs (match posOf keep p with | some k=>v.set k (some x) | none=>v)
 | _,_,v=>v
def AI (s:Site) (env args:List AV):List (Option AV):=CV s.keep s.ps.toList args (env.map some)
def al (c:av) (fn:Func):Option ca:=
 match fn.body with
 | none=>none
 | some a=>vE c (G3 c fn a) fn
end Go.Am
