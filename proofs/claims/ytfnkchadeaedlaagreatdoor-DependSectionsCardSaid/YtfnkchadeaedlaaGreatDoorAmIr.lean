/-
 A plainer form of the machine's code: expressions over few variables in place of chains of temporaries. Definitions alone.
-/
import Derived.Test.YtfnkchadeaedlaaGreatDoorAmRun
import Derived.Test.YtfnkchadeaedlaaGreatDoorAmAlt
set_option linter.all false
namespace Go.Am
inductive E where
 | var (i:Nat)
 | cst (v:AV)
 | bin (op:BinOp) (ty:TypeId) (x y:E)
 | un (op:UnOp) (x:E)
 | pick (p a b:E)
 | guard (g:E) (want:Bool) (e:E)
 | and (p b:E)
 | or (p b:E)
 | index (ty:TypeId) (x i:E)
 | field (sty:TypeId) (x:E) (f:Nat)
 | extract (x:E) (i:Nat)
 | conv (src dst:TypeId) (x:E)
 | toInt (k:IntKind) (x:E)
 | len (ty:TypeId) (x:E)
 | lenS (x:E)
 | slA (x:E)
 | slL (x lo:E)
 | slH (x hi:E)
 | slB (x lo hi:E)
 | load (ty:TypeId) (x:E)
 | faddr (sty:TypeId) (x:E) (f:Nat)
 | iaddr (ty:TypeId) (x i:E)
 | nilck (x:E)
 deriving Inhabited
def qJ:Out→Option AV
 | some (v,.none)=>some v
 | _=>none
def oz (x:AV) (lo hi:Option AV):Option AV:=
 match x with
 | .str s=>match cE hi s.length s.length with
  | some h=>match cE lo 0 h with
   | some l=>some (.str ((s.take h).drop l))
   | none=>none
  | none=>none
 | _=>none
def Gq (x:AV):Option AV:=
 match x with
 | .str s=>some (.int .i64 s.length)
 | _=>none
def B6 (k:IntKind) (x:AV):Option AV:=
 match x with
 | .int _ n=>some (.int k (k.wrap n))
 | _=>none
def Lx (c:ax) (ty:TypeId) (x:AV) (bs:List ad):Out:=
 match c.ti ty with
 | some i=>oc i.desc x bs
 | .none=> .none
def kS (g:Option AV) (want:Bool) (e:Option AV):Option AV:=
 match g with
 | some (.bool b)=>match b==want with
  | true=>e
  | false=>some (.aI [])
 | some (.aI _)=>some (.aI [])
 | _=>none
def Ew (p b:Option AV):Option AV:=
 match p with
 | some (.bool true)=>b
 | some (.bool false)=>some (.bool false)
 | _=>none
def NC (p b:Option AV):Option AV:=
 match p with
 | some (.bool true)=>some (.bool true)
 | some (.bool false)=>b
 | _=>none
def Dv (x:Option AV) (f:AV→Option AV):Option AV:=
 match x with
 | some a=>f a
 | none=>none
def Il (x y:Option AV) (f:AV→AV→Option AV):Option AV:=
 match x with
 | some a=>match y with
  | some b=>f a b
  | none=>none
 | none=>none
def PZ (x y z:Option AV) (f:AV→AV→AV→Option AV):Option AV:=
 match x with
 | some a=>match y with
  | some b=>match z with
   | some d=>f a b d
   | none=>none
  | none=>none
 | none=>none
def j9 (env:List (Option AV)) (i:Nat):Option AV:=env.getD i none
def bj (c:ax) (env:List (Option AV)) (bs:List ad):E→Option AV
 | .var i=>j9 env i
 | .cst v=>some v
 | .bin op ty x y=>Il (bj c env bs x) (bj c env bs y) fun a b=>ja c ty op a b
 | .un op x=>Dv (bj c env bs x) fun a=>H6 op a
 | .pick p x y=>PZ (bj c env bs p) (bj c env bs x) (bj c env bs y) fun p a b=>qJ (tr p a b)
 | .guard g w e=>kS (bj c env bs g) w (bj c env bs e)
 | .and p x=>Ew (bj c env bs p) (bj c env bs x)
 | .or p x=>NC (bj c env bs p) (bj c env bs x)
 | .index ty x y=>Il (bj c env bs x) (bj c env bs y) fun a b=>qJ (oe c (c.ti ty) a b)
 | .field ty x f=>Dv (bj c env bs x) fun a=>qJ (od c (c.ti ty) a f)
 | .extract x i=>Dv (bj c env bs x) fun a=>qJ (iB a i)
 | .conv s d x=>Dv (bj c env bs x) fun a=>qJ (dq c (c.ti s) (c.ti d) a bs 0)
 | .toInt k x=>Dv (bj c env bs x) fun a=>B6 k a
 | .len ty x=>Dv (bj c env bs x) fun a=>qJ (Lx c ty a bs)
 | .lenS x=>Dv (bj c env bs x) fun a=>Gq a
 | .slA x=>Dv (bj c env bs x) fun a=>oz a none none
 | .slL x y=>Il (bj c env bs x) (bj c env bs y) fun a l=>oz a (some l) none
 | .slH x z=>Il (bj c env bs x) (bj c env bs z) fun a h=>oz a none (some h)
 | .slB x y z=>PZ (bj c env bs x) (bj c env bs y) (bj c env bs z) fun a l h=>oz a (some l) (some h)
 | .load ty x=>Dv (bj c env bs x) fun a=>qJ (lP (c.ti ty) a bs)
 | .faddr ty x f=>Dv (bj c env bs x) fun a=>qJ (dE (c.ti ty) a f bs)
 | .iaddr ty x y=>Il (bj c env bs x) (bj c env bs y) fun a b=>qJ (dF c (c.ti ty) a b bs)
 | .nilck x=>Dv (bj c env bs x) fun a=>qJ (fN a)
def E.reads:E→Bool
 | .var _ | .cst _=>false
 | .bin _ _ x y=>x.reads || y.reads
 | .un _ x=>x.reads
 | .pick p x y=>p.reads || x.reads || y.reads
 | .guard g _ e=>g.reads || e.reads
 | .and p x=>p.reads || x.reads
 | .or p x=>p.reads || x.reads
 | .index _ x y=>x.reads || y.reads
 | .field _ x _=>x.reads
 | .extract x _=>x.reads
 | .toInt _ x=>x.reads
 | .lenS x=>x.reads
 | .slA x=>x.reads
 | .slL x y=>x.reads || y.reads
 | .slH x y=>x.reads || y.reads
 | .slB x y z=>x.reads || y.reads || z.reads
 | .nilck x=>x.reads
 | .conv _ _ _ | .len _ _ | .load _ _ | .faddr _ _ _ | .iaddr _ _ _=>true
def E.looks (i:Nat):E→Bool
 | .var j=>i==j
 | .cst _=>false
 | .bin _ _ x y=>x.looks i || y.looks i
 | .un _ x=>x.looks i
 | .pick p x y=>p.looks i || x.looks i || y.looks i
 | .guard g _ e=>g.looks i || e.looks i
 | .and p x=>p.looks i || x.looks i
 | .or p x=>p.looks i || x.looks i
 | .index _ x y=>x.looks i || y.looks i
 | .field _ x _=>x.looks i
 | .extract x _=>x.looks i
 | .conv _ _ x=>x.looks i
 | .toInt _ x=>x.looks i
 | .len _ x=>x.looks i
 | .lenS x=>x.looks i
 | .slA x=>x.looks i
 | .slL x y=>x.looks i || y.looks i
 | .slH x y=>x.looks i || y.looks i
 | .slB x y z=>x.looks i || y.looks i || z.looks i
 | .load _ x=>x.looks i
 | .faddr _ x _=>x.looks i
 | .iaddr _ x y=>x.looks i || y.looks i
 | .nilck x=>x.looks i
def look (vs:List (Nat×AV)) (i:Nat):AV:=
 match vs with
 | []=> .any
 | (j,v)::r=>if i=j then v else look r i
def P0 (vs:List (Nat×AV)):Operand→AV
 | .tmp i=>look vs i
 | .const v=>fq v
 | .func f=> .fn f [] []
 | .global _=> .any
def cF (c:ax) (op:Op) (φ:Operand→AV) (bs:List ad) (id:Nat):Out:=
 match op with
 | .move x | .assign x=>some (φ x,.none)
 | .pick x a b=>tr (φ x) (φ a) (φ b)
 | .alloc e=>tu (c.ti e) e id
 | .box e x=>F2 e (φ x).cells id
 | .build ty parts=>qA c (c.ti ty) (parts.toList.map fun p=>(p.1,φ p.2))
 | .buildSlice ty len parts=>ei c (c.ti ty) len (parts.toList.map fun p=>(p.1,φ p.2)) id bs
 | .load ty a=>lP (c.ti ty) (φ a) bs
 | .store ty a x=>lQ (c.ti ty) (φ a) (φ x).cells bs
 | .nilCheck x=>fN (φ x)
 | .makeInterface ty x=>tw c ty (φ x)
 | .binOp op ty x y _=>(Ed c ty op y (φ x) (φ y)).map (·,.none)
 | .unOp op _ x=>(H6 op (φ x)).map (·,.none)
 | .convert src dst x=>dq c (c.ti src) (c.ti dst) (φ x) bs id
 | .makeFunc (.func f) first caps=>some (.fn f (first.toList.map φ) (caps.toList.map φ),.none)
 | .makeSlice ty l m=>iz c (c.ti ty) (φ l) (φ m) id
 | .slice ty x lo hi mx=>match c.ti ty with
  | some i=>match mx with
   | .none=>db c i.desc (φ x) (lo.map φ) (hi.map φ) bs
   | some m=>ji c i.desc (φ x) (lo.map φ) (hi.map φ) (some (φ m)) bs
  | .none=> .none
 | .fieldAddr sty x f=>dE (c.ti sty) (φ x) f bs
 | .field sty x f=>od c (c.ti sty) (φ x) f
 | .indexAddr ty x ix=>dF c (c.ti ty) (φ x) (φ ix) bs
 | .index ty x ix=>oe c (c.ti ty) (φ x) (φ ix)
 | .extract x i=>iB (φ x) i
 | .makeMap ty r=>jY (r.map φ) (c.ti ty) id
 | .range ty x=>kN (c.ti ty) (φ x) bs id
 | .next x str=>tv (φ x) str bs
 | .lookup ty x k ok=>dB c (c.ti ty) (φ x) (φ k) ok bs
 | .mapUpdate ty m k x=>aO c (c.ti ty) (φ m) (φ k) (φ x) bs
 | .insert ty m k x=>aO c (c.ti ty) (φ m) (φ k) (φ x) bs
 | .mapEntry ty m k=>gY c (c.ti ty) (φ m) (φ k) bs
 | .entryStore _ m s x=>eZ (φ m) (φ s) (φ x) bs
 | .entry x=>lR (φ x) bs
 | .call k=>match k.callee with
  | .builtin b=>dQ c b k.argTypes.toList (k.args.toList.map φ) bs id
  | _=> .none
 | _=> .none
def dv (c:ax) (cf:aG) (op:Op) (φ:Operand→AV) (bs:List ad) (id:Nat):Out:=
 match op with
 | .call k=>match k.callee with
  | .value f=>match φ f with
   | .fn g first caps=>match c.ext g with
    | some G=>match G (first++k.args.toList.map φ++caps) with
     | some v=>some (v,.none)
     | .none=> .none
    | .none=>nD c cf g (first++k.args.toList.map φ++caps) bs
   | .fg l s env=>match cf (.fg l s env) (k.args.toList.map φ) bs with
    | some (v,bs')=>some (v,.all bs')
    | .none=> .none
   | _=> .none
  | _=>cF c (.call k) φ bs id
 | op=>cF c op φ bs id
inductive It where
 | par (l:List (Nat×E))
 | cW (mask:Option (List Nat)) (k:Nat) (d:Option Nat) (g:Option (E×Bool)) (o:Op) (xs:List (Nat×E))
def nw (c:ax) (env:List (Option AV)) (bs:List ad):List (Nat×E)→Option (List (Nat×AV))
 | []=>some []
 | (i,e)::r=>match bj c env bs e with
  | some v=>match nw c env bs r with
   | some l=>some ((i,v)::l)
   | none=>none
  | none=>none
def c9 (env:List (Option AV)):List (Nat×AV)→List (Option AV)
 | []=>env
 | (i,v)::r=>c9 (env.set i (some v)) r
def tS (env:List (Option AV)) (d:Option Nat) (v:AV):List (Option AV):=
 match d with
 | some i=>env.set i (some v)
 | none=>env
def rO (g:Option AV) (want:Bool):Option Bool:=
 match g with
 | some (.bool b)=>some (b==want)
 | some (.aI _)=>some false
 | _=>none
def rP (c:ax) (env:List (Option AV)) (bs:List ad) (g:Option (E×Bool)):Option Bool:=
 match g with
 | none=>some true
 | some (e,w)=>rO (bj c env bs e) w
def zy (o:Op) (k:Nat) (vs:List (Nat×AV)):Bool:=vs.all fun p=>(qD o).contains p.1 || eN k p.2
def Dw (md:Nat) (o:Op) (id:Nat) (vs:List (Nat×AV)) (bs:List ad) (r:Out):Option (AV×List ad):=
 match r with
 | some (v,.none)=>some (v,bs)
 | some (v,.new x)=>match asks o with
  | true=>match bs[id]? with
   | some .dead=>some (v,bs.set id x)
   | _=>none
  | false=>none
 | some (v,.gL k (.var ty cs))=>match cn o&&zy o k vs with
  | true=>some (v,bs.set k (.var ty cs))
  | false=>none
 | some (v,.gL k (.sl sh sz es))=>match md==1&&zy o k vs with
  | true=>some (v,bs.set k (.sl sh sz es))
  | false=>none
 | some (v,.app x)=>match md==2&&vs.all fun p=>iC bs.length p.2 with
  | true=>some (v,bs++ [x])
  | false=>none
 | _=>none
def Dx (id:Nat) (bs:List ad) (r:Out):Option (AV×List ad):=
 match r with
 | some (v,e)=>match e.on bs id with
  | some bs'=>some (v,bs')
  | none=>none
 | none=>none
def Ey (c:ax) (cf:aG) (base:Nat) (mask:Option (List Nat)) (k:Nat) (o:Op) (vs:List (Nat×AV)) (bs:List ad):Option (AV×List ad):=
 match mask with
 | none=>Dx (base+k) bs (dv c cf o (P0 vs) bs (base+k))
 | some ms=>Dw (ms.headD 0) o (base+k) vs bs (dv c (eE cf (ms.headD 0==2)) o (P0 vs) (aP (ms.tail.map (base+ ·)) bs) (base+k))
def ba (c:ax) (cf:aG) (base:Nat) (kl:List Nat):List It→List (Option AV)→List ad→Option (List (Option AV)×List ad)
 | [],env,bs=>some (env,bs)
 | .par l::r,env,bs=>match nw c env (aP (kl.map (base+ ·)) bs) l with
  | some vs=>ba c cf base kl r (c9 env vs) bs
  | none=>none
 | .cW mask k d g o xs::r,env,bs=>match rP c env (aP (kl.map (base+ ·)) bs) g with
  | some true=>match nw c env (aP (kl.map (base+ ·)) bs) xs with
   | some vs=>match Ey c cf base mask k o vs bs with
    | some (v,bs')=>ba c cf base kl r (tS env d v) bs'
    | none=>none
   | none=>none
  | some false=>ba c cf base kl r (tS env d (.aI [])) bs
  | none=>none
structure pw where
 slot:Nat
 cell:Option Nat
 el:TypeId
 sz:Nat
inductive IR where
 | skip | ret
 | own (l:List pw)
 | stuck
 | exit (i:Nat)
 | seq (a b:IR)
 | block (i:Nat) (a:IR)
 | bH (n:Nat) (kl:List Nat) (its:List It)
 | cond (x:Nat) (a b:IR)
 | loop (kill:List Nat) (a:IR)
 | qo (x:Nat) (s:Site)
 | zw (x k n:Nat) (its:List It)
 | alt (l:List (Nat×List Nat×List It))
def cY (σ:List (Nat×E)) (i:Nat):Option E:=
 match σ with
 | []=>none
 | (j,e)::r=>if i=j then some e else cY r i
def xT (keep:List Nat) (σ:List (Nat×E)) (i:Nat):Option E:=
 match cY σ i with
 | some e=>some e
 | none=>(posOf keep i).map .var
def xU (keep:List Nat) (σ:List (Nat×E)):Operand→Option E
 | .tmp i=>xT keep σ i
 | .const v=>some (.cst (fq v))
 | .func f=>some (.cst (.fn f [] []))
 | .global _=>none
def gr (x:Option E) (f:E→E):Option E:=x.map f
def py (x y:Option E) (f:E→E→E):Option E:=
 match x,y with
 | some a,some b=>some (f a b)
 | _,_=>none
def zz (x y z:Option E) (f:E→E→E→E):Option E:=
 match x,y,z with
 | some a,some b,some d=>some (f a b d)
 | _,_,_=>none
def Dy:List UInt8→List UInt8→Bool
 | [], []=>true
 | a::l,b::m=>a==b&&Dy l m
 | _,_=>false
def B7:AV→AV→Bool
 | .int k n,.int k' n'=>k==k'&&n==n'
 | .bool a,.bool b=>a==b
 | .str a,.str b=>Dy a b
 | .bG,.bG=>true
 | _,_=>false
def aJ:E→E→Bool
 | .var i,.var j=>i==j
 | .cst v,.cst w=>B7 v w
 | .bin o t x y,.bin o' t' x' y'=>o==o'&&t==t'&&aJ x x'&&aJ y y'
 | .un o x,.un o' x'=>o==o'&&aJ x x'
 | .pick p x y,.pick p' x' y'=>aJ p p'&&aJ x x'&&aJ y y'
 | .guard g w e,.guard g' w' e'=>aJ g g'&&w==w'&&aJ e e'
 | .and p x,.and p' x'=>aJ p p'&&aJ x x'
 | .or p x,.or p' x'=>aJ p p'&&aJ x x'
 | .index t x y,.index t' x' y'=>t==t'&&aJ x x'&&aJ y y'
 | .field t x f,.field t' x' f'=>t==t'&&aJ x x'&&f==f'
 | .extract x f,.extract x' f'=>aJ x x'&&f==f'
 | .conv s d x,.conv s' d' x'=>s==s'&&d==d'&&aJ x x'
 | .toInt k x,.toInt k' x'=>k==k'&&aJ x x'
 | .len t x,.len t' x'=>t==t'&&aJ x x'
 | .lenS x,.lenS x'=>aJ x x'
 | .slA x,.slA x'=>aJ x x'
 | .slL x y,.slL x' y'=>aJ x x'&&aJ y y'
 | .slH x y,.slH x' y'=>aJ x x'&&aJ y y'
 | .slB x y z,.slB x' y' z'=>aJ x x'&&aJ y y'&&aJ z z'
 | .load t x,.load t' x'=>t==t'&&aJ x x'
 | .faddr t x f,.faddr t' x' f'=>t==t'&&aJ x x'&&f==f'
 | .iaddr t x y,.iaddr t' x' y'=>t==t'&&aJ x x'&&aJ y y'
 | .nilck x,.nilck x'=>aJ x x'
 | _,_=>false
def bc (g:E) (w:Bool):E→E
 | .guard x v e=>match aJ x g&&v==w with
  | true=>bc g w e
  | false=> .guard (bc g w x) v (bc g w e)
 | .bin o t x y=> .bin o t (bc g w x) (bc g w y)
 | .un o x=> .un o (bc g w x)
 | .pick p x y=> .pick (bc g w p) (bc g w x) (bc g w y)
 | .and p x=> .and (bc g w p) (bc g w x)
 | .or p x=> .or (bc g w p) (bc g w x)
 | .index t x y=> .index t (bc g w x) (bc g w y)
 | .field t x f=> .field t (bc g w x) f
 | .extract x i=> .extract (bc g w x) i
 | .conv s d x=> .conv s d (bc g w x)
 | .toInt k x=> .toInt k (bc g w x)
 | .len t x=> .len t (bc g w x)
 | .lenS x=> .lenS (bc g w x)
 | .slA x=> .slA (bc g w x)
 | .slL x y=> .slL (bc g w x) (bc g w y)
 | .slH x y=> .slH (bc g w x) (bc g w y)
 | .slB x y z=> .slB (bc g w x) (bc g w y) (bc g w z)
 | .load t x=> .load t (bc g w x)
 | .faddr t x f=> .faddr t (bc g w x) f
 | .iaddr t x y=> .iaddr t (bc g w x) (bc g w y)
 | .nilck x=> .nilck (bc g w x)
 | .var i=> .var i
 | .cst v=> .cst v
def mT (g:E) (w:Bool):E→Bool
 | .guard x v _=>(aJ x g&&v==w) || mT g w x
 | _=>false
def E.within:E→E→Bool
 | e,.var i=>aJ e (.var i)
 | e,.cst v=>aJ e (.cst v)
 | e,.bin o t x y=>aJ e (.bin o t x y) || e.within x || e.within y
 | e,.un o x=>aJ e (.un o x) || e.within x
 | e,.pick p x y=>aJ e (.pick p x y) || e.within p || e.within x || e.within y
 | e,.guard g w x=>aJ e (.guard g w x) || e.within g || (mT g w e&&(bc g w e).within x)
 | e,.and p x=>aJ e (.and p x) || e.within p || (mT p true e&&(bc p true e).within x)
 | e,.or p x=>aJ e (.or p x) || e.within p || (mT p false e&&(bc p false e).within x)
 | e,.index t x y=>aJ e (.index t x y) || e.within x || e.within y
 | e,.field t x f=>aJ e (.field t x f) || e.within x
 | e,.extract x f=>aJ e (.extract x f) || e.within x
 | e,.conv s d x=>aJ e (.conv s d x) || e.within x
 | e,.toInt k x=>aJ e (.toInt k x) || e.within x
 | e,.len t x=>aJ e (.len t x) || e.within x
 | e,.lenS x=>aJ e (.lenS x) || e.within x
 | e,.slA x=>aJ e (.slA x) || e.within x
 | e,.slL x y=>aJ e (.slL x y) || e.within x || e.within y
 | e,.slH x y=>aJ e (.slH x y) || e.within x || e.within y
 | e,.slB x y z=>aJ e (.slB x y z) || e.within x || e.within y || e.within z
 | e,.load t x=>aJ e (.load t x) || e.within x
 | e,.faddr t x f=>aJ e (.faddr t x f) || e.within x
 | e,.iaddr t x y=>aJ e (.iaddr t x y) || e.within x || e.within y
 | e,.nilck x=>aJ e (.nilck x) || e.within x
def B8 (p a b:E):E:=
 match a,b with
 | .guard g true x,.cst (.bool false)=>match aJ g p with
  | true=> .and p x
  | false=> .pick p a b
 | .cst (.bool true),.guard g false x=>match aJ g p with
  | true=> .or p x
  | false=> .pick p a b
 | a,b=> .pick p a b
def l5 (c:ax) (ρ:Operand→Option E):Op→Option E
 | .move x=>ρ x
 | .assign x=>ρ x
 | .pick p x y=>zz (ρ p) (ρ x) (ρ y) B8
 | .binOp op ty x y _=>match Ec y with
  | true=>none
  | false=>py (ρ x) (ρ y) (.bin op ty)
 | .unOp op _ x=>gr (ρ x) (.un op)
 | .index ty x y=>py (ρ x) (ρ y) (.index ty)
 | .field ty x f=>gr (ρ x) (.field ty · f)
 | .extract x i=>gr (ρ x) (.extract · i)
 | .convert s d x=>match c.descOf s,c.descOf d with
  | some (.int _),some (.int k)=>gr (ρ x) (.toInt k)
  | _,some (.slice _)=>none
  | _,_=>gr (ρ x) (.conv s d)
 | .load ty x=>gr (ρ x) (.load ty)
 | .fieldAddr ty x f=>gr (ρ x) (.faddr ty · f)
 | .indexAddr ty x y=>py (ρ x) (ρ y) (.iaddr ty)
 | .nilCheck x=>gr (ρ x) .nilck
 | .slice ty x lo hi none=>match c.descOf ty with
  | some .string=>match lo,hi with
   | none,none=>gr (ρ x) .slA
   | some l,none=>py (ρ x) (ρ l) .slL
   | none,some h=>py (ρ x) (ρ h) .slH
   | some l,some h=>zz (ρ x) (ρ l) (ρ h) .slB
  | _=>none
 | .call k=>match k.callee,k.argTypes.toList,k.args.toList with
  | .builtin .len, [t], [x]=>match c.descOf t with
   | some .string=>gr (ρ x) .lenS
   | _=>gr (ρ x) (.len t)
  | _,_,_=>none
 | _=>none
def E.sure:E→Bool
 | .cst _=>true
 | _=>false
def dd (bad:E→Bool):E→List E
 | .var i=>match bad (.var i) with | true=> [] | false=> [.var i]
 | .cst v=>match bad (.cst v) with | true=> [] | false=> [.cst v]
 | .bin o t x y=>match bad (.bin o t x y) with | true=>dd bad x++dd bad y | false=> [.bin o t x y]
 | .un o x=>match bad (.un o x) with | true=>dd bad x | false=> [.un o x]
 | .pick p x y=>match bad (.pick p x y) with | true=>dd bad p++(dd bad x++dd bad y) | false=> [.pick p x y]
 | .guard g w x=>match bad (.guard g w x) with | true=>dd bad g++(match bad g with | true=> [] | false=>(dd bad x).map (.guard g w)) | false=> [.guard g w x]
 | .and g x=>match bad (.and g x) with | true=>dd bad g++(match bad g with | true=> [] | false=>(dd bad x).map (.guard g true)) | false=> [.and g x]
 | .or g x=>match bad (.or g x) with | true=>dd bad g++(match bad g with | true=> [] | false=>(dd bad x).map (.guard g false)) | false=> [.or g x]
 | .index t x y=>match bad (.index t x y) with | true=>dd bad x++dd bad y | false=> [.index t x y]
 | .field t x f=>match bad (.field t x f) with | true=>dd bad x | false=> [.field t x f]
 | .extract x f=>match bad (.extract x f) with | true=>dd bad x | false=> [.extract x f]
 | .conv a b x=>match bad (.conv a b x) with | true=>dd bad x | false=> [.conv a b x]
 | .toInt k x=>match bad (.toInt k x) with | true=>dd bad x | false=> [.toInt k x]
 | .len t x=>match bad (.len t x) with | true=>dd bad x | false=> [.len t x]
 | .lenS x=>match bad (.lenS x) with | true=>dd bad x | false=> [.lenS x]
 | .slA x=>match bad (.slA x) with | true=>dd bad x | false=> [.slA x]
 | .slL x y=>match bad (.slL x y) with | true=>dd bad x++dd bad y | false=> [.slL x y]
 | .slH x y=>match bad (.slH x y) with | true=>dd bad x++dd bad y | false=> [.slH x y]
 | .slB x y z=>match bad (.slB x y z) with | true=>dd bad x++(dd bad y++dd bad z) | false=> [.slB x y z]
 | .load t x=>match bad (.load t x) with | true=>dd bad x | false=> [.load t x]
 | .faddr t x f=>match bad (.faddr t x f) with | true=>dd bad x | false=> [.faddr t x f]
 | .iaddr t x y=>match bad (.iaddr t x y) with | true=>dd bad x++dd bad y | false=> [.iaddr t x y]
 | .nilck x=>match bad (.nilck x) with | true=>dd bad x | false=> [.nilck x]
def tT (d:Option Nat) (e:E):Bool:=
 match d with
 | some i=>e.looks i
 | none=>false
def oA:List It→List E
 | []=> []
 | .par l::r=>l.map (·.2)++(oA r).flatMap (dd fun e=>l.any fun p=>e.looks p.1)
 | .cW _ _ d g _ xs::r=>(match g with | some (e,w)=>e::xs.map (fun p=> .guard e w p.2) | none=>xs.map (·.2))++(oA r).flatMap (dd fun e=>e.reads || tT d e)
def covered (e:E) (l:List E):Bool:=e.sure || l.any fun f=>e.within f
def guardOf (ops:Array Oper) (keep:List Nat) (σ:List (Nat×E)) (g:Option (Nat×Bool)):Option (Option (E×Bool)):=
 match g with
 | none=>some none
 | some (j,want)=>match (ops[j]?).bind (·.dst) with
  | none=>none
  | some d=>match xT keep σ d with
   | some e=>some (some (e,want))
   | none=>none
def Gr:Operand→Option Nat
 | .tmp i=>some i
 | _=>none
def qK (keep:List Nat) (σ:List (Nat×E)):List Nat→Option (List (Nat×E))
 | []=>some []
 | i::r=>match xT keep σ i,qK keep σ r with
  | some e,some l=>some ((i,e)::l)
  | _,_=>none
def da (keep:List Nat) (σ:List (Nat×E)):List Nat→Nat→List (Nat×E)
 | [],_=> []
 | i::r,k=>match cY σ i with
  | some e=>(k,e)::da keep σ r (k+1)
  | none=>da keep σ r (k+1)
def ep (g:Option (E×Bool)) (e:E):E:=
 match g with
 | none=>e
 | some (x,w)=>bc x w e
def tU (g:Option (E×Bool)) (e:E):E:=
 match g with
 | none=>e
 | some (x,w)=> .guard x w e
def wA (keep:List Nat) (fl:List (Nat×E)) (σ:List (Nat×E)):List (Nat×E):=
 σ.filter fun p=>(posOf keep p.1).isNone&&fl.all fun q=> !p.2.looks q.1
def JX (keep:List Nat) (d:Option Nat) (σ:List (Nat×E)):List (Nat×E):=
 σ.filter fun p=> !p.2.reads&&(match d with | some i=>p.1 !=i&&(match posOf keep i with | some k=> !p.2.looks k | none=>true) | none=>true)
def zA (keep:List Nat) (d:Option Nat):Option Nat:=
 match d with
 | some i=>posOf keep i
 | none=>none
def JY (nt:Nat) (d:Option Nat):Bool:=
 match d with
 | some i=>decide (i<nt)
 | none=>true
def tV (c:ax) (ops:Array Oper) (i:Nat) (o:Op):Nat:=
 match eG o&&bA ops i o with
 | true=>1
 | false=>match bO c ops i o with
  | true=>2
  | false=>0
theorem wB {o:Op} (h:dY o=true):cn o=false∧eG o=false:=by
 unfold dY at h;split at h
 ·rename_i k;refine ⟨rfl,?_⟩;obtain ⟨ce,as,ts⟩:=k;cases ce with
  | value f=>rfl
  | _=>simp at h
 ·cases h
theorem Ez {c:ax} {ops:Array Oper} {i:Nat} {o:Op}:(tV c ops i o==1)=(eG o&&bA ops i o):=by
 unfold tV;cases eG o&&bA ops i o with
 | true=>rfl
 | false=>cases bO c ops i o <;> rfl
theorem zB {c:ax} {ops:Array Oper} {i:Nat} {o:Op}:(tV c ops i o==2)=bO c ops i o:=by
 unfold tV;cases hg:eG o with
 | false=>simp only [Bool.false_and];cases bO c ops i o <;> rfl
 | true=>
  have ha:bO c ops i o=false:=by
   cases hc:dY o with
   | false=>simp [bO,mQ hc]
   | true=>have:=(wB hc).2;rw [hg] at this;cases this
  rw [ha];cases bA ops i o <;> rfl
def sL (c:ax) (ops:Array Oper) (dr:Bool) (i:Nat) (o:Op):Option (List Nat):=
 match dr&& !alone ops i with
 | true=>some (tV c ops i o::cK (fh ops) i ops.toList 0 0)
 | false=>none
def EA (c:ax) (ops:Array Oper) (o:Op):Bool:=
 match o with
 | .convert _ d (.tmp i)=>match c.descOf d with
  | some .string=>ops.toList.any fun p=>match p.op,p.dst with
   | .makeSlice _ _ _,some j=>i==j
   | _,_=>false
  | _=>false
 | _=>false
def xV (c:ax) (ops:Array Oper) (ρ:Operand→Option E) (o:Op):Option E:=
 match EA c ops o with
 | true=>none
 | false=>l5 c ρ o
theorem zC {c:ax} {ops:Array Oper} {ρ:Operand→Option E} {o:Op} {e:E} (h:xV c ops ρ o=some e):l5 c ρ o=some e:=by
 unfold xV at h;split at h
 ·cases h
 ·exact h
def oB (c:ax) (ops:Array Oper) (dr:Bool) (i:Nat) (o:Op):List Nat:=
 match dr&& !alone ops i&&(cn o || (eG o&&bA ops i o)) with
 | true=>gn ops i
 | false=>match dr&& !alone ops i&&bO c ops i o with
  | true=>jk ops i
  | false=> []
def JZ (ops:Array Oper) (dr:Bool) (i:Nat) (o:Op):Bool:=
 match dr&& !alone ops i&&cn o with
 | true=>bA ops i o
 | false=>true
def zD (c:ax) (ops:Array Oper) (keep:List Nat) (g:Option (E×Bool)) (σ:List (Nat×E)) (dr:Bool) (j:Nat) (o:Op):Bool:=
 match dr&&(tx c ops || mO ops),fO o with
 | true,some p=>match fv ops j p with
  | some q=>match xT keep σ p,xT keep σ q with
   | some a,some b=>aJ (ep g a) (ep g b)
   | _,_=>false
  | none=>true
 | _,_=>true
def Dz (fl:List (Nat×E)) (its:List It):List It:=
 match fl with
 | []=>its
 | _=> .par fl::its
def kT (c:ax) (ops:Array Oper) (keep:List Nat) (nt:Nat) (dr:Bool):List Oper→Nat→List (Nat×E)→Option (List It)
 | [],_,σ=>some (Dz (da keep σ keep 0) [])
 | o::r,i,σ=>match guardOf ops keep σ o.guard with
  | none=>none
  | some g=>match xV c ops (fun x=>(xU keep σ x).map (ep g)) o.op,o.dst with
   | some e,some d=>match decide (d<nt)&&zD c ops keep g σ dr i o.op with
    | true=>match kT c ops keep nt dr r (i+1) ((d,tU g e)::σ.filter fun p=>p.1 !=d) with
     | some its=>match covered (tU g e) (oA its) with
      | true=>some its
      | false=>some (.par [(keep.length,tU g e)]::its)
     | none=>none
    | false=>none
   | _,_=>match guardOf ops keep (wA keep (da keep σ keep 0) σ) o.guard with
    | none=>none
    | some g=>match qK keep (wA keep (da keep σ keep 0) σ) (o.op.operands.toList.filterMap Gr++oB c ops dr i o.op) with
     | none=>none
     | some xs=>match (JY nt o.dst&&JZ ops dr i o.op)&&zD c ops keep g (wA keep (da keep σ keep 0) σ) dr i o.op with
      | true=>match kT c ops keep nt dr r (i+1) (JX keep o.dst (wA keep (da keep σ keep 0) σ)) with
       | some its=>some (Dz (da keep σ keep 0) (.cW (sL c ops dr i o.op) (b8 ops.toList i 0) (zA keep o.dst) g o.op (xs.map fun p=>(p.1,ep g p.2))::its))
       | none=>none
      | false=>none
def xW (c:ax) (keep:List Nat) (nt:Nat) (ops:Array Oper) (dr:Bool):Option IR:=
 match !dr || qC ops with
 | true=>match kT c ops keep nt dr ops.toList 0 [] with
  | some its=>some (.bH (cv ops.toList) (match dr with | true=>List.range (cv ops.toList) | false=> []) its)
  | none=>none
 | false=>none
def Gs (c:ax) (keep:List Nat) (nt:Nat) (ops:Array Oper) (dr:Bool):Option IR:=
 match dr,ops.toList with
 | false,o::r=>match o.op,o.dst,o.guard with
  | .next (.tmp t) false,some d,none=>match posOf keep t,posOf keep d,kT c ops keep nt false r 1 [],decide (d<nt) with
   | some x,some k,some its,true=>some (.zw x k (cv r) its)
   | _,_,_,_=>none
  | _,_,_=>none
 | _,_=>none
def Ly (c:ax) (k:Call):Bool:=k.argTypes.toList.any fun t=>match c.descOf t with
 | some (.pointer _)=>true
 | some (.func _ _ _)=>true
 | _=>false
def Im (c:ax):Op→Bool
 | .call k=>(match k.callee with | .value _=>true | _=>false)&&Ly c k
 | _=>false
def J0 (ops:Array Oper) (i j:Nat):Bool:=i !=j&& !ordered (fh ops) i j&& !ordered (fh ops) j i
def Lz (ops:Array Oper) (j:Nat):List Nat:=(List.range ops.size).filter fun i=>J0 ops i j&& !mN ops i
def sM (c:ax) (ops:Array Oper):Option (Nat×Nat):=
 match F4 ops.toList 0 with
 | [i,j]=>(match J0 ops i j with | true=>some (i,j) | false=>none)
 | _=>match (List.range ops.size).filter fun j=>(match ops[j]? with | some o=>Im c o.op&& !alone ops j | none=>false) with
  | [j]=>match Lz ops j with
   | i::r=>some (match r.getLast? with | some q=>(min q j,max q j) | none=>(min i j,max i j))
   | _=>none
  | _=>none
def mU (c:ax) (keep:List Nat) (nt:Nat):Nat→Array Oper→Option (List (Nat×List Nat×List It))
 | 0,_=>none
 | k+1,ops=>match sM c ops with
  | some (i,j)=>match F6 ops i j,mU c keep nt k (eo id id i j ops),mU c keep nt k (eo (sg i j) (ta i j) j i ops) with
   | true,some l1,some l2=>some (l1++l2)
   | _,_,_=>none
  | none=>match xW c keep nt ops true with
   | some (.bH n kl its)=>some [(n,kl,its)]
   | _=>none
def Gt (c:ax) (keep:List Nat) (nt:Nat) (ops:Array Oper) (dr:Bool):Option IR:=
 match dr,sM c ops with
 | true,some _=>match mU c keep nt 4 ops with
  | some (x::l)=>some (.alt (x::l))
  | _=>none
 | _,_=>none
def EB (c:ax) (keep:List Nat) (nt:Nat) (ops:Array Oper) (dr:Bool):Option IR:=
 match Gs c keep nt ops dr with
 | some x=>some x
 | none=>match Gt c keep nt ops dr with
  | some x=>some x
  | none=>xW c keep nt ops dr
def iH (c:ax) (keep:List Nat) (nt:Nat):Code→Option IR
 | .skip=>some .skip
 | .label _=>some .skip
 | .ret=>some .ret
 | .exit i=>some (.exit i)
 | .seq a b=>match iH c keep nt a,iH c keep nt b with
  | some a',some b'=>some (.seq a' b')
  | _,_=>none
 | .block i a=>match iH c keep nt a with
  | some a'=>some (.block i a')
  | none=>none
 | .scope a=>iH c keep nt a
 | .cond (.tmp x) a b=>match posOf keep x,iH c keep nt a,iH c keep nt b with
  | some k,some a',some b'=>some (.cond k a' b')
  | none,_,_=>some .stuck
  | _,_,_=>none
 | .loop a=>match iH c keep nt a with
  | some a'=>some (.loop [] a')
  | none=>none
 | .cond (.const v) a b=>match fq v with
  | .bool true=>iH c keep nt a
  | .bool false=>iH c keep nt b
  | _=>some .stuck
 | .region _ ops dr=>match EB c keep nt ops dr with
  | some x=>some x
  | none=>some .stuck
 | .rangeFunc (.tmp t) ps asg body=>match posOf keep t with
  | some x=>some (.qo x ⟨ps,asg,body,keep,nt⟩)
  | none=>none
 | _=>some .stuck
def E.bits:E→Nat
 | .var j=>2^j
 | .cst _=>0
 | .bin _ _ x y=>x.bits ||| y.bits
 | .un _ x=>x.bits
 | .pick p x y=>p.bits ||| x.bits ||| y.bits
 | .guard g _ e=>g.bits ||| e.bits
 | .and p x=>p.bits ||| x.bits
 | .or p x=>p.bits ||| x.bits
 | .index _ x y=>x.bits ||| y.bits
 | .field _ x _=>x.bits
 | .extract x _=>x.bits
 | .conv _ _ x=>x.bits
 | .toInt _ x=>x.bits
 | .len _ x=>x.bits
 | .lenS x=>x.bits
 | .slA x=>x.bits
 | .slL x y=>x.bits ||| y.bits
 | .slH x y=>x.bits ||| y.bits
 | .slB x y z=>x.bits ||| y.bits ||| z.bits
 | .load _ x=>x.bits
 | .faddr _ x _=>x.bits
 | .iaddr _ x y=>x.bits ||| y.bits
 | .nilck x=>x.bits
def xX (m i:Nat):Nat:=if m.testBit i then m-2^i else m
def pz:List It→Nat→Nat
 | [],out=>out
 | .par l::r,out=>l.foldl (fun m p=>m ||| p.2.bits) (l.foldl (fun m p=>xX m p.1) (pz r out))
 | .cW _ _ d g _ xs::r,out=>
  let m:=pz r out
  let m:=match d,g with | some i,none=>xX m i | _,_=>m
  let m:=match g with | some (e,_)=>m ||| e.bits | none=>m
  xs.foldl (fun m p=>m ||| p.2.bits) m
def zF (xs:List (Nat×Nat)) (i:Nat):Nat:=
 match xs with
 | []=>0
 | (j,m)::r=>if i=j then m else zF r i
def lB (ret:Nat):IR→List (Nat×Nat)→Nat→Nat
 | .skip,_,out=>out
 | .ret,_,_=>ret
 | .stuck,_,_=>0
 | .own _,_,out=>out
 | .exit i,xs,_=>zF xs i
 | .seq a b,xs,out=>lB ret a xs (lB ret b xs out)
 | .block i a,xs,out=>lB ret a ((i,out)::xs) out
 | .bH _ _ its,_,out=>pz its out
 | .cond x a b,xs,out=>lB ret a xs out ||| lB ret b xs out ||| 2^x
 | .loop _ a,xs,_=>lB ret a xs (lB ret a xs (lB ret a xs 0))
 | .qo _ s,_,_=>2^s.keep.length-1
 | .zw x k _ its,_,out=>xX (pz its out) k ||| 2^x
 | .alt l,_,out=>l.foldl (fun m x=>m ||| pz x.2.2 out) 0
def tW (d:Nat):List It→Bool
 | []=>false
 | .cW _ _ _ _ (.call ⟨.builtin .append,args,_⟩) xs::r=>(match args.toList with
  | .tmp t::_=>match cY xs t with
   | some (.var j)=>j==d
   | _=>false
  | _=>false) || tW d r
 | _::r=>tW d r
def DB (c:ax):List It→List pw
 | []=> []
 | .cW _ _ (some d) _ (.slice ty (.tmp t) .none _ .none) xs::r=>
  let rest:=DB c r
  match tW d r,c.descOf ty,cY xs t with
  | true,some (.slice el),some (.var i)=>match c.ti el with
   | some j=>⟨i,none,el,j.size⟩::rest
   | none=>rest
  | _,_,_=>rest
 | .cW _ _ _ _ (.call ⟨.builtin .append,args,ts⟩) xs::r=>
  let rest:=DB c r
  match ts.toList,args.toList with
  | st::_,.tmp t::_=>match c.descOf st with
   | some (.slice el)=>match c.ti el,cY xs t with
    | some j,some (.var i)=>⟨i,none,el,j.size⟩::rest
    | some j,some (.load _ (.var i))=>⟨i,some 0,el,j.size⟩::rest
    | some j,some (.load _ (.faddr sty (.var i) f))=>match c.ti sty with
     | some k=>match k.fields[f]? with
      | some (_,o,_)=>⟨i,some o,el,j.size⟩::rest
      | none=>rest
     | none=>rest
    | some j,some (.load _ (.faddr sty (.nilck (.var i)) f))=>match c.ti sty with
     | some k=>match k.fields[f]? with
      | some (_,o,_)=>⟨i,some o,el,j.size⟩::rest
      | none=>rest
     | none=>rest
    | _,_=>rest
   | _=>rest
  | _,_=>rest
 | _::r=>DB c r
def mV (c:ax) (d:Nat):List (TypeId×Nat×Nat)→List pw
 | []=> []
 | (t,o,_)::r=>match c.descOf t with
  | some (.slice el)=>match c.ti el with
   | some j=>⟨d,some o,el,j.size⟩::mV c d r
   | none=>mV c d r
  | _=>mV c d r
def Gu (c:ax) (d:Nat) (ty:TypeId):List pw:=
 match c.ti ty with
 | some i=>match i.desc with
  | .slice el=>match c.ti el with
   | some j=> [⟨d,some 0,el,j.size⟩]
   | none=> []
  | .struct _=>mV c d i.fields
  | _=> []
 | none=> []
def storedIn (d:Nat):List It→Bool
 | []=>false
 | .cW _ _ _ _ (.store _ (.tmp t) _) xs::r=>(match cY xs t with | some (.var i)=>i==d | _=>false) || storedIn d r
 | _::r=>storedIn d r
def xY (d:Nat) (bs:List Nat):List It→Bool
 | []=>false
 | .cW _ _ _ _ (.store _ (.tmp t) (.tmp x)) xs::r=>(match cY xs t,cY xs x with | some (.var i),some (.var j)=>i==d&&bs.contains j | _,_=>false) || xY d bs r
 | _::r=>xY d bs r
def fy (c:ax) (bs:List Nat):List It→List pw
 | []=> []
 | .cW _ _ (some d) _ (.alloc ty) _::r=>match c.cut&&storedIn d r with
  | true=>match xY d bs r with
   | true=>Gu c d ty++fy c bs r
   | false=>fy c bs r
  | false=>Gu c d ty++fy c bs r
 | .cW _ _ (some d) _ (.build _ _) _::r=>fy c (d::bs) r
 | .cW _ _ (some d) _ (.box ty (.tmp t)) xs::r=>match cY xs t with
  | some (.var j)=>match bs.contains j with
   | true=>Gu c d ty++fy c bs r
   | false=>fy c bs r
  | _=>fy c bs r
 | _::r=>fy c bs r
def l6 (c:ax):IR→List pw
 | .seq a b=>l6 c a++l6 c b
 | .block _ a=>l6 c a
 | .cond _ a b=>l6 c a++l6 c b
 | .loop _ a=>l6 c a
 | .bH _ _ its=>DB c its
 | _=> []
def Io (a b:pw):Bool:=a.slot==b.slot&&a.cell==b.cell
def dedup:List pw→List pw
 | []=> []
 | a::r=>match r.any (Io a) with
  | true=>dedup r
  | false=>a::dedup r
def tX:List pw→List Nat
 | []=> []
 | o::r=>match o.cell with
  | none=>(o.slot+1000)::tX r
  | some _=>tX r
def Gv (n m:Nat):List Nat:=(List.range n).filter fun i=> !m.testBit i
def tY (l:List pw) (x:IR):IR:=
 match l with
 | []=>x
 | l=> .seq (.own l) x
def B9 (x:IR) (l:List pw):IR:=
 match l with
 | []=>x
 | l=> .seq x (.own l)
def xZ:List It→List pw
 | []=> []
 | .cW (some (0::_)) _ _ _ (.slice ty (.tmp t) _ _ none) xs::r=>match cY xs t with
  | some (.var i)=>⟨i,none,ty,0⟩::xZ r
  | _=>xZ r
 | _::r=>xZ r
def mW (c:ax):List It→List pw
 | []=> []
 | .cW (some (0::_)) _ _ _ (.call ⟨.value (.func f),args,_⟩) xs::r=>
  match c.Di f with
  | true=>(args.toList.filterMap fun a=>match a with
   | .tmp t=>(match cY xs t with
    | some (.var i)=>some ⟨i,none,0,0⟩
    | _=>none)
   | _=>none)++mW c r
  | false=>mW c r
 | _::r=>mW c r
def kU (c:ax):List (Nat×E)→List It→List pw
 | _, []=> []
 | σ,.par l::r=>kU c (l++σ) r
 | σ,.cW _ _ _ _ (.call ⟨.builtin .append,args,ts⟩) xs::r=>
  match ts.toList,args.toList with
  | st::_,.tmp t::_=>match c.descOf st,cY xs t with
   | some (.slice el),some (.var i)=>match c.ti el,cY σ i with
    | some j,some (.load _ (.var q))=>⟨q,some 0,el,j.size⟩::kU c σ r
    | _,_=>kU c σ r
   | _,_=>kU c σ r
  | _,_=>kU c σ r
 | σ,_::r=>kU c σ r
def cellsIn (c:ax):IR→List pw
 | .seq a b=>cellsIn c a++cellsIn c b
 | .block _ a=>cellsIn c a
 | .cond _ a b=>cellsIn c a++cellsIn c b
 | .loop _ a=>cellsIn c a
 | .bH _ _ its=>kU c [] its
 | _=> []
def P1 (c:ax) (s:Site):List pw:=
 match iH c s.keep s.nt s.body with
 | some b=>dedup (cellsIn c b)
 | none=> []
def lC (c:ax) (n ret:Nat):IR→List (Nat×Nat)→Nat→IR
 | .seq a b,xs,out=> .seq (lC c n ret a xs (lB ret b xs out)) (lC c n ret b xs out)
 | .block i a,xs,out=> .block i (lC c n ret a ((i,out)::xs) out)
 | .cond x a b,xs,out=> .cond x (lC c n ret a xs out) (lC c n ret b xs out)
 | .loop k a,xs,out=>tY ((dedup (l6 c a)).filter fun o=>(lB ret (.loop k a) xs out).testBit o.slot) (.loop (Gv n (lB ret (.loop k a) xs out)++tX (l6 c a)) (lC c n ret a xs (lB ret (.loop k a) xs out)))
 | .bH m kl its,_,_=>tY (match c.cut with | true=>mW c its | false=>xZ its) (B9 (.bH m kl its) (fy c [] its))
 | .qo x s,_,_=>tY (match c.cut with | true=>P1 c s | false=> []) (.qo x s)
 | ir,_,_=>ir
def Ca (l:List (Nat×Nat)) (i:Nat):Option Nat:=
 match l with
 | []=>none
 | (j,k)::r=>if i=j then some k else Ca r i
def Tc (ds:List (Nat×Nat)) (acc:List Nat) (i:Nat):List Nat:=
 match Ca ds i with
 | some 2 | none=>i::acc
 | _=>acc
def Ip (c:ax):Op→Bool
 | .convert s d _=>match c.descOf s,c.descOf d with
  | some (.int _),some (.int _)=>false
  | _,_=>true
 | .load _ _ | .fieldAddr _ _ _ | .indexAddr _ _ _=>true
 | .call k=>match k.argTypes.toList with
  | [t]=>match c.descOf t with
   | some .string=>false
   | _=>true
  | _=>true
 | _=>false
def pA (c:ax) (ops:Array Oper):List Oper→List (Nat×Nat)→List Nat→List Nat
 | [],_,acc=>acc
 | o::r,ds,acc=>
  let us:=o.op.operands.toList.filterMap Gr
  let us:=match o.guard with
   | some (j,_)=>match (ops[j]?).bind (·.dst) with | some d=>d::us | none=>us
   | none=>us
  let acc:=us.foldl (Tc ds) acc
  let acc:=match o.op,o.dst with | .next _ false,some d=>d::acc | _,_=>acc
  let isPure:=(xV c ops (fun x=>some (match x with | .tmp i=>E.var i | _=> .cst .bG)) o.op).isSome&&o.dst.isSome
  let rd:=Ip c o.op || us.any fun u=>Ca ds u==some 1
  let ds:=match isPure with
   | true=>ds
   | false=>ds.map fun p=>if p.2==1 then (p.1,2) else p
  match o.dst with
  | some d=>pA c ops r ((d,match isPure,rd with | true,true=>1 | true,false=>0 | false,_=>2)::ds) acc
  | none=>pA c ops r ds acc
def qL (c:ax):Nat→Array Oper→List (Array Oper)
 | 0,_=> []
 | k+1,ops=>match sM c ops with
  | some (i,j)=>qL c k (eo id id i j ops)++qL c k (eo (sg i j) (ta i j) j i ops)
  | none=> [ops]
def nH (c:ax):Code→List Nat→List Nat
 | .seq a b,acc=>nH c b (nH c a acc)
 | .block _ a,acc=>nH c a acc
 | .scope a,acc=>nH c a acc
 | .cond (.tmp x) a b,acc=>nH c b (nH c a (x::acc))
 | .loop a,acc=>nH c a acc
 | .region _ ops dr,acc=>match dr,sM c ops with
  | true,some _=>(qL c 4 ops).foldl (fun a o=>pA c o o.toList [] a) (pA c ops ops.toList [] acc)
  | _,_=>pA c ops ops.toList [] acc
 | .rangeFunc (.tmp t) _ asg body,acc=>nH c body (nH c asg (t::acc))
 | _,acc=>acc
def zG (c:ax) (fn:Func) (a:Code):List Nat:=
 let l:=nH c a (fn.results.toList.map fun | .tmp i=>i | .cell i _=>i)
 (List.range fn.ntmps).filter fun i=>l.contains i
inductive HI where
 | v (i:Nat)
 | cell (i:Nat) (ty:TypeId)
structure bY where
 keep:List Nat
 code:IR
 res:List HI
def qM (keep:List Nat):List ResultVar→Option (List HI)
 | []=>some []
 | .tmp i::r=>match posOf keep i,qM keep r with
  | some k,some l=>some (.v k::l)
  | _,_=>none
 | .cell i ty::r=>match posOf keep i,qM keep r with
  | some k,some l=>some (.cell k ty::l)
  | _,_=>none
def sN:List HI→Nat
 | []=>0
 | .v i::r=>2^i ||| sN r
 | .cell i _::r=>2^i ||| sN r
def pB (c:ax) (keep:List Nat) (fn:Func):Option bY:=
 match fn.body with
 | none=>none
 | some a=>match qM keep fn.results.toList,iH c keep fn.ntmps a,decide (fn.ntmps<10000)&&keep.all fun i=>decide (i<fn.ntmps) with
  | some rs,some ir,true=>some {keep:=keep,code:=lC c keep.length (sN rs) ir [] (sN rs),res:=rs}
  | _,_,_=>none
def IR.lD:IR→Bool
 | .qo _ _=>false
 | .seq a b=>a.lD&&b.lD
 | .block _ a=>a.lD
 | .cond _ a b=>a.lD&&b.lD
 | .loop _ a=>a.lD
 | _=>true
def sK (c:ax) (s:Site):Option (IR×IR):=
 match iH c s.keep s.nt s.asg,iH c s.keep s.nt s.body,decide (s.nt<10000)&&s.keep.all fun i=>decide (i<s.nt) with
 | some a,some b,true=>match (lC c s.keep.length 0 a [] (2^s.keep.length-1)).lD&&(lC c s.keep.length 0 b [] 0).lD with
  | true=>some (lC c s.keep.length 0 a [] (2^s.keep.length-1),lC c s.keep.length 0 b [] 0)
  | false=>none
 | _,_,_=>none
def zH (keep:List Nat):List Tmp→List AV→List (Option AV)→List (Option AV)
 | p::ps,x::xs,v=>zH keep ps xs (match posOf keep p with | some k=>v.set k (some x) | none=>v)
 | _,_,v=>v
def xR (s:Site) (env args:List AV):List (Option AV):=zH s.keep s.ps.toList args (env.map some)
def ao (c:ax) (fn:Func):Option bY:=
 match fn.body with
 | none=>none
 | some a=>pB c (zG c fn a) fn
end Go.Am
