/-
 A plainer form of the machine's code: expressions over few variables in place of chains of temporaries. Definitions alone.
-/
import Derived.Test.YtfnkchadeaedlaaGreatDoorAmRun
import Derived.Test.YtfnkchadeaedlaaGreatDoorAmAlt
set_option linter.all false
namespace Go.Am
inductive E where
 | var (i:Nat)
 | cst (v:AV)
 | bin (op:BinOp) (ty:TypeId) (x y:E)
 | un (op:UnOp) (x:E)
 | pick (p a b:E)
 | guard (g:E) (want:Bool) (e:E)
 | and (p b:E)
 | or (p b:E)
 | index (ty:TypeId) (x i:E)
 | field (sty:TypeId) (x:E) (f:Nat)
 | extract (x:E) (i:Nat)
 | conv (src dst:TypeId) (x:E)
 | toInt (k:IntKind) (x:E)
 | len (ty:TypeId) (x:E)
 | lenS (x:E)
 | slA (x:E)
 | slL (x lo:E)
 | slH (x hi:E)
 | slB (x lo hi:E)
 | load (ty:TypeId) (x:E)
 | faddr (sty:TypeId) (x:E) (f:Nat)
 | iaddr (ty:TypeId) (x i:E)
 | nilck (x:E)
 deriving Inhabited
def ri:Out→Option AV
 | some (v,.none)=>some v
 | _=>none
def oT (x:AV) (lo hi:Option AV):Option AV:=
 match x with
 | .str s=>match cJ hi s.length s.length with
  | some h=>match cJ lo 0 h with
   | some l=>some (.str ((s.take h).drop l))
   | none=>none
  | none=>none
 | _=>none
def Hi (x:AV):Option AV:=
 match x with
 | .str s=>some (.int .i64 s.length)
 | _=>none
def Cx (k:IntKind) (x:AV):Option AV:=
 match x with
 | .int _ n=>some (.int k (k.wrap n))
 | _=>none
def Mo (c:ax) (ty:TypeId) (x:AV) (bs:List ab):Out:=
 match c.ti ty with
 | some i=>oI i.desc x bs
 | .none=> .none
def lp (g:Option AV) (want:Bool) (e:Option AV):Option AV:=
 match g with
 | some (.bool b)=>match b==want with
  | true=>e
  | false=>some (.aO [])
 | some (.aO _)=>some (.aO [])
 | _=>none
def Fp (p b:Option AV):Option AV:=
 match p with
 | some (.bool true)=>b
 | some (.bool false)=>some (.bool false)
 | _=>none
def Of (p b:Option AV):Option AV:=
 match p with
 | some (.bool true)=>some (.bool true)
 | some (.bool false)=>b
 | _=>none
def D9 (x:Option AV) (f:AV→Option AV):Option AV:=
 match x with
 | some a=>f a
 | none=>none
def Jp (x y:Option AV) (f:AV→AV→Option AV):Option AV:=
 match x with
 | some a=>match y with
  | some b=>f a b
  | none=>none
 | none=>none
def Qy (x y z:Option AV) (f:AV→AV→AV→Option AV):Option AV:=
 match x with
 | some a=>match y with
  | some b=>match z with
   | some d=>f a b d
   | none=>none
  | none=>none
 | none=>none
def kA (env:List (Option AV)) (i:Nat):Option AV:=env.getD i none
def bq (c:ax) (env:List (Option AV)) (bs:List ab):E→Option AV
 | .var i=>kA env i
 | .cst v=>some v
 | .bin op ty x y=>Jp (bq c env bs x) (bq c env bs y) fun a b=>ju c ty op a b
 | .un op x=>D9 (bq c env bs x) fun a=>Jc op a
 | .pick p x y=>Qy (bq c env bs p) (bq c env bs x) (bq c env bs y) fun p a b=>ri (ua p a b)
 | .guard g w e=>lp (bq c env bs g) w (bq c env bs e)
 | .and p x=>Fp (bq c env bs p) (bq c env bs x)
 | .or p x=>Of (bq c env bs p) (bq c env bs x)
 | .index ty x y=>Jp (bq c env bs x) (bq c env bs y) fun a b=>ri (oK c (c.ti ty) a b)
 | .field ty x f=>D9 (bq c env bs x) fun a=>ri (oJ c (c.ti ty) a f)
 | .extract x i=>D9 (bq c env bs x) fun a=>ri (iT a i)
 | .conv s d x=>D9 (bq c env bs x) fun a=>ri (dD c (c.ti s) (c.ti d) a bs 0)
 | .toInt k x=>D9 (bq c env bs x) fun a=>Cx k a
 | .len ty x=>D9 (bq c env bs x) fun a=>ri (Mo c ty a bs)
 | .lenS x=>D9 (bq c env bs x) fun a=>Hi a
 | .slA x=>D9 (bq c env bs x) fun a=>oT a none none
 | .slL x y=>Jp (bq c env bs x) (bq c env bs y) fun a l=>oT a (some l) none
 | .slH x z=>Jp (bq c env bs x) (bq c env bs z) fun a h=>oT a none (some h)
 | .slB x y z=>Qy (bq c env bs x) (bq c env bs y) (bq c env bs z) fun a l h=>oT a (some l) (some h)
 | .load ty x=>D9 (bq c env bs x) fun a=>ri (ma (c.ti ty) a bs)
 | .faddr ty x f=>D9 (bq c env bs x) fun a=>ri (dQ (c.ti ty) a f bs)
 | .iaddr ty x y=>Jp (bq c env bs x) (bq c env bs y) fun a b=>ri (dR c (c.ti ty) a b bs)
 | .nilck x=>D9 (bq c env bs x) fun a=>ri (gi a)
def E.reads:E→Bool
 | .var _ | .cst _=>false
 | .bin _ _ x y=>x.reads || y.reads
 | .un _ x=>x.reads
 | .pick p x y=>p.reads || x.reads || y.reads
 | .guard g _ e=>g.reads || e.reads
 | .and p x=>p.reads || x.reads
 | .or p x=>p.reads || x.reads
 | .index _ x y=>x.reads || y.reads
 | .field _ x _=>x.reads
 | .extract x _=>x.reads
 | .toInt _ x=>x.reads
 | .lenS x=>x.reads
 | .slA x=>x.reads
 | .slL x y=>x.reads || y.reads
 | .slH x y=>x.reads || y.reads
 | .slB x y z=>x.reads || y.reads || z.reads
 | .nilck x=>x.reads
 | .conv _ _ _ | .len _ _ | .load _ _ | .faddr _ _ _ | .iaddr _ _ _=>true
def E.looks (i:Nat):E→Bool
 | .var j=>i==j
 | .cst _=>false
 | .bin _ _ x y=>x.looks i || y.looks i
 | .un _ x=>x.looks i
 | .pick p x y=>p.looks i || x.looks i || y.looks i
 | .guard g _ e=>g.looks i || e.looks i
 | .and p x=>p.looks i || x.looks i
 | .or p x=>p.looks i || x.looks i
 | .index _ x y=>x.looks i || y.looks i
 | .field _ x _=>x.looks i
 | .extract x _=>x.looks i
 | .conv _ _ x=>x.looks i
 | .toInt _ x=>x.looks i
 | .len _ x=>x.looks i
 | .lenS x=>x.looks i
 | .slA x=>x.looks i
 | .slL x y=>x.looks i || y.looks i
 | .slH x y=>x.looks i || y.looks i
 | .slB x y z=>x.looks i || y.looks i || z.looks i
 | .load _ x=>x.looks i
 | .faddr _ x _=>x.looks i
 | .iaddr _ x y=>x.looks i || y.looks i
 | .nilck x=>x.looks i
def look (vs:List (Nat×AV)) (i:Nat):AV:=
 match vs with
 | []=> .any
 | (j,v)::r=>if i=j then v else look r i
def Qz (vs:List (Nat×AV)):Operand→AV
 | .tmp i=>look vs i
 | .const v=>fK v
 | .func f=> .fn f [] []
 | .global _=> .any
def cK (c:ax) (op:Op) (φ:Operand→AV) (bs:List ab) (id:Nat):Out:=
 match op with
 | .move x | .assign x=>some (φ x,.none)
 | .pick x a b=>ua (φ x) (φ a) (φ b)
 | .alloc e=>ub (c.ti e) e id
 | .box e x=>GW e (φ x).cells id
 | .build ty parts=>qW c (c.ti ty) (parts.toList.map fun p=>(p.1,φ p.2))
 | .buildSlice ty len parts=>eB c (c.ti ty) len (parts.toList.map fun p=>(p.1,φ p.2)) id bs
 | .load ty a=>ma (c.ti ty) (φ a) bs
 | .store ty a x=>mb (c.ti ty) (φ a) (φ x).cells bs
 | .nilCheck x=>gi (φ x)
 | .makeInterface ty x=>ud c ty (φ x)
 | .binOp op ty x y _=>(E3 c ty op y (φ x) (φ y)).map (·,.none)
 | .unOp op _ x=>(Jc op (φ x)).map (·,.none)
 | .convert src dst x=>dD c (c.ti src) (c.ti dst) (φ x) bs id
 | .makeFunc (.func f) first caps=>some (.fn f (first.toList.map φ) (caps.toList.map φ),.none)
 | .makeSlice ty l m=>iS c (c.ti ty) (φ l) (φ m) id
 | .slice ty x lo hi mx=>match c.ti ty with
  | some i=>match mx with
   | .none=>dn c i.desc (φ x) (lo.map φ) (hi.map φ) bs
   | some m=>jC c i.desc (φ x) (lo.map φ) (hi.map φ) (some (φ m)) bs
  | .none=> .none
 | .fieldAddr sty x f=>dQ (c.ti sty) (φ x) f bs
 | .field sty x f=>oJ c (c.ti sty) (φ x) f
 | .indexAddr ty x ix=>dR c (c.ti ty) (φ x) (φ ix) bs
 | .index ty x ix=>oK c (c.ti ty) (φ x) (φ ix)
 | .extract x i=>iT (φ x) i
 | .makeMap ty r=>kp (r.map φ) (c.ti ty) id
 | .range ty x=>k9 (c.ti ty) (φ x) bs id
 | .next x str=>uc (φ x) str bs
 | .lookup ty x k ok=>dM c (c.ti ty) (φ x) (φ k) ok bs
 | .mapUpdate ty m k x=>aQ c (c.ti ty) (φ m) (φ k) (φ x) bs
 | .insert ty m k x=>aQ c (c.ti ty) (φ m) (φ k) (φ x) bs
 | .mapEntry ty m k=>iE c (c.ti ty) (φ m) (φ k) bs
 | .entryStore _ m s x=>ft (φ m) (φ s) (φ x) bs
 | .entry x=>mc (φ x) bs
 | .call k=>match k.callee with
  | .builtin b=>ea c b k.argTypes.toList (k.args.toList.map φ) bs id
  | _=> .none
 | _=> .none
def dG (c:ax) (cf:aG) (op:Op) (φ:Operand→AV) (bs:List ab) (id:Nat):Out:=
 match op with
 | .call k=>match k.callee with
  | .value f=>match φ f with
   | .fn g first caps=>match c.ext g with
    | some G=>match G (first++k.args.toList.map φ++caps) with
     | some v=>some (v,.none)
     | .none=> .none
    | .none=>oc c cf g (first++k.args.toList.map φ++caps) bs
   | .fB l s env=>match cf (.fB l s env) (k.args.toList.map φ) bs with
    | some (v,bs')=>some (v,.all bs')
    | .none=> .none
   | _=> .none
  | _=>cK c (.call k) φ bs id
 | op=>cK c op φ bs id
inductive It where
 | par (l:List (Nat×E))
 | aA (mask:Option (List Nat)) (k:Nat) (d:Option Nat) (g:Option (E×Bool)) (o:Op) (xs:List (Nat×E))
def nV (c:ax) (env:List (Option AV)) (bs:List ab):List (Nat×E)→Option (List (Nat×AV))
 | []=>some []
 | (i,e)::r=>match bq c env bs e with
  | some v=>match nV c env bs r with
   | some l=>some ((i,v)::l)
   | none=>none
  | none=>none
def dj (env:List (Option AV)):List (Nat×AV)→List (Option AV)
 | []=>env
 | (i,v)::r=>dj (env.set i (some v)) r
def uC (env:List (Option AV)) (d:Option Nat) (v:AV):List (Option AV):=
 match d with
 | some i=>env.set i (some v)
 | none=>env
def sv (g:Option AV) (want:Bool):Option Bool:=
 match g with
 | some (.bool b)=>some (b==want)
 | some (.aO _)=>some false
 | _=>none
def sx (c:ax) (env:List (Option AV)) (bs:List ab) (g:Option (E×Bool)):Option Bool:=
 match g with
 | none=>some true
 | some (e,w)=>sv (bq c env bs e) w
def Af (o:Op) (k:Nat) (vs:List (Nat×AV)):Bool:=vs.all fun p=>(qZ o).contains p.1 || eZ k p.2
def Ea (md:Nat) (o:Op) (id:Nat) (vs:List (Nat×AV)) (bs:List ab) (r:Out):Option (AV×List ab):=
 match r with
 | some (v,.none)=>some (v,bs)
 | some (v,.new x)=>match asks o with
  | true=>match bs[id]? with
   | some .dead=>some (v,bs.set id x)
   | _=>none
  | false=>none
 | some (v,.gZ k (.var ty cs))=>match cp o&&Af o k vs with
  | true=>some (v,bs.set k (.var ty cs))
  | false=>none
 | some (v,.gZ k (.sl sh sz es))=>match md==1&&Af o k vs with
  | true=>some (v,bs.set k (.sl sh sz es))
  | false=>none
 | some (v,.app x)=>match md==2&&vs.all fun p=>iU bs.length p.2 with
  | true=>some (v,bs++ [x])
  | false=>none
 | _=>none
def Eb (id:Nat) (bs:List ab) (r:Out):Option (AV×List ab):=
 match r with
 | some (v,e)=>match e.on bs id with
  | some bs'=>some (v,bs')
  | none=>none
 | none=>none
def Fq (c:ax) (cf:aG) (base:Nat) (mask:Option (List Nat)) (k:Nat) (o:Op) (vs:List (Nat×AV)) (bs:List ab):Option (AV×List ab):=
 match mask with
 | none=>Eb (base+k) bs (dG c cf o (Qz vs) bs (base+k))
 | some ms=>Ea (ms.headD 0) o (base+k) vs bs (dG c (eQ cf (ms.headD 0==2)) o (Qz vs) (aR (ms.tail.map (base+ ·)) bs) (base+k))
def bh (c:ax) (cf:aG) (base:Nat) (kl:List Nat):List It→List (Option AV)→List ab→Option (List (Option AV)×List ab)
 | [],env,bs=>some (env,bs)
 | .par l::r,env,bs=>match nV c env (aR (kl.map (base+ ·)) bs) l with
  | some vs=>bh c cf base kl r (dj env vs) bs
  | none=>none
 | .aA mask k d g o xs::r,env,bs=>match sx c env (aR (kl.map (base+ ·)) bs) g with
  | some true=>match nV c env (aR (kl.map (base+ ·)) bs) xs with
   | some vs=>match Fq c cf base mask k o vs bs with
    | some (v,bs')=>bh c cf base kl r (uC env d v) bs'
    | none=>none
   | none=>none
  | some false=>bh c cf base kl r (uC env d (.aO [])) bs
  | none=>none
structure pV where
 slot:Nat
 cell:Option Nat
 el:TypeId
 sz:Nat
inductive IR where
 | skip | ret
 | own (l:List pV)
 | stuck
 | exit (i:Nat)
 | seq (a b:IR)
 | block (i:Nat) (a:IR)
 | al (n:Nat) (kl:List Nat) (its:List It)
 | cond (x:Nat) (a b:IR)
 | loop (kill:List Nat) (a:IR)
 | qN (x:Nat) (s:Site)
 | zh (x k n:Nat) (its:List It)
 | alt (l:List (Nat×List Nat×List It))
def dh (σ:List (Nat×E)) (i:Nat):Option E:=
 match σ with
 | []=>none
 | (j,e)::r=>if i=j then some e else dh r i
def yu (keep:List Nat) (σ:List (Nat×E)) (i:Nat):Option E:=
 match dh σ i with
 | some e=>some e
 | none=>(posOf keep i).map .var
def yv (keep:List Nat) (σ:List (Nat×E)):Operand→Option E
 | .tmp i=>yu keep σ i
 | .const v=>some (.cst (fK v))
 | .func f=>some (.cst (.fn f [] []))
 | .global _=>none
def gH (x:Option E) (f:E→E):Option E:=x.map f
def pW (x y:Option E) (f:E→E→E):Option E:=
 match x,y with
 | some a,some b=>some (f a b)
 | _,_=>none
def Ag (x y z:Option E) (f:E→E→E→E):Option E:=
 match x,y,z with
 | some a,some b,some d=>some (f a b d)
 | _,_,_=>none
def Ec:List UInt8→List UInt8→Bool
 | [], []=>true
 | a::l,b::m=>a==b&&Ec l m
 | _,_=>false
def Cy:AV→AV→Bool
 | .int k n,.int k' n'=>k==k'&&n==n'
 | .bool a,.bool b=>a==b
 | .str a,.str b=>Ec a b
 | .bJ,.bJ=>true
 | _,_=>false
def aJ:E→E→Bool
 | .var i,.var j=>i==j
 | .cst v,.cst w=>Cy v w
 | .bin o t x y,.bin o' t' x' y'=>o==o'&&t==t'&&aJ x x'&&aJ y y'
 | .un o x,.un o' x'=>o==o'&&aJ x x'
 | .pick p x y,.pick p' x' y'=>aJ p p'&&aJ x x'&&aJ y y'
 | .guard g w e,.guard g' w' e'=>aJ g g'&&w==w'&&aJ e e'
 | .and p x,.and p' x'=>aJ p p'&&aJ x x'
 | .or p x,.or p' x'=>aJ p p'&&aJ x x'
 | .index t x y,.index t' x' y'=>t==t'&&aJ x x'&&aJ y y'
 | .field t x f,.field t' x' f'=>t==t'&&aJ x x'&&f==f'
 | .extract x f,.extract x' f'=>aJ x x'&&f==f'
 | .conv s d x,.conv s' d' x'=>s==s'&&d==d'&&aJ x x'
 | .toInt k x,.toInt k' x'=>k==k'&&aJ x x'
 | .len t x,.len t' x'=>t==t'&&aJ x x'
 | .lenS x,.lenS x'=>aJ x x'
 | .slA x,.slA x'=>aJ x x'
 | .slL x y,.slL x' y'=>aJ x x'&&aJ y y'
 | .slH x y,.slH x' y'=>aJ x x'&&aJ y y'
 | .slB x y z,.slB x' y' z'=>aJ x x'&&aJ y y'&&aJ z z'
 | .load t x,.load t' x'=>t==t'&&aJ x x'
 | .faddr t x f,.faddr t' x' f'=>t==t'&&aJ x x'&&f==f'
 | .iaddr t x y,.iaddr t' x' y'=>t==t'&&aJ x x'&&aJ y y'
 | .nilck x,.nilck x'=>aJ x x'
 | _,_=>false
def bj (g:E) (w:Bool):E→E
 | .guard x v e=>match aJ x g&&v==w with
  | true=>bj g w e
  | false=> .guard (bj g w x) v (bj g w e)
 | .bin o t x y=> .bin o t (bj g w x) (bj g w y)
 | .un o x=> .un o (bj g w x)
 | .pick p x y=> .pick (bj g w p) (bj g w x) (bj g w y)
 | .and p x=> .and (bj g w p) (bj g w x)
 | .or p x=> .or (bj g w p) (bj g w x)
 | .index t x y=> .index t (bj g w x) (bj g w y)
 | .field t x f=> .field t (bj g w x) f
 | .extract x i=> .extract (bj g w x) i
 | .conv s d x=> .conv s d (bj g w x)
 | .toInt k x=> .toInt k (bj g w x)
 | .len t x=> .len t (bj g w x)
 | .lenS x=> .lenS (bj g w x)
 | .slA x=> .slA (bj g w x)
 | .slL x y=> .slL (bj g w x) (bj g w y)
 | .slH x y=> .slH (bj g w x) (bj g w y)
 | .slB x y z=> .slB (bj g w x) (bj g w y) (bj g w z)
 | .load t x=> .load t (bj g w x)
 | .faddr t x f=> .faddr t (bj g w x) f
 | .iaddr t x y=> .iaddr t (bj g w x) (bj g w y)
 | .nilck x=> .nilck (bj g w x)
 | .var i=> .var i
 | .cst v=> .cst v
def ny (g:E) (w:Bool):E→Bool
 | .guard x v _=>(aJ x g&&v==w) || ny g w x
 | _=>false
def E.within:E→E→Bool
 | e,.var i=>aJ e (.var i)
 | e,.cst v=>aJ e (.cst v)
 | e,.bin o t x y=>aJ e (.bin o t x y) || e.within x || e.within y
 | e,.un o x=>aJ e (.un o x) || e.within x
 | e,.pick p x y=>aJ e (.pick p x y) || e.within p || e.within x || e.within y
 | e,.guard g w x=>aJ e (.guard g w x) || e.within g || (ny g w e&&(bj g w e).within x)
 | e,.and p x=>aJ e (.and p x) || e.within p || (ny p true e&&(bj p true e).within x)
 | e,.or p x=>aJ e (.or p x) || e.within p || (ny p false e&&(bj p false e).within x)
 | e,.index t x y=>aJ e (.index t x y) || e.within x || e.within y
 | e,.field t x f=>aJ e (.field t x f) || e.within x
 | e,.extract x f=>aJ e (.extract x f) || e.within x
 | e,.conv s d x=>aJ e (.conv s d x) || e.within x
 | e,.toInt k x=>aJ e (.toInt k x) || e.within x
 | e,.len t x=>aJ e (.len t x) || e.within x
 | e,.lenS x=>aJ e (.lenS x) || e.within x
 | e,.slA x=>aJ e (.slA x) || e.within x
 | e,.slL x y=>aJ e (.slL x y) || e.within x || e.within y
 | e,.slH x y=>aJ e (.slH x y) || e.within x || e.within y
 | e,.slB x y z=>aJ e (.slB x y z) || e.within x || e.within y || e.within z
 | e,.load t x=>aJ e (.load t x) || e.within x
 | e,.faddr t x f=>aJ e (.faddr t x f) || e.within x
 | e,.iaddr t x y=>aJ e (.iaddr t x y) || e.within x || e.within y
 | e,.nilck x=>aJ e (.nilck x) || e.within x
def Cz (p a b:E):E:=
 match a,b with
 | .guard g true x,.cst (.bool false)=>match aJ g p with
  | true=> .and p x
  | false=> .pick p a b
 | .cst (.bool true),.guard g false x=>match aJ g p with
  | true=> .or p x
  | false=> .pick p a b
 | a,b=> .pick p a b
def mq (c:ax) (ρ:Operand→Option E):Op→Option E
 | .move x=>ρ x
 | .assign x=>ρ x
 | .pick p x y=>Ag (ρ p) (ρ x) (ρ y) Cz
 | .binOp op ty x y _=>match E2 y with
  | true=>none
  | false=>pW (ρ x) (ρ y) (.bin op ty)
 | .unOp op _ x=>gH (ρ x) (.un op)
 | .index ty x y=>pW (ρ x) (ρ y) (.index ty)
 | .field ty x f=>gH (ρ x) (.field ty · f)
 | .extract x i=>gH (ρ x) (.extract · i)
 | .convert s d x=>match c.descOf s,c.descOf d with
  | some (.int _),some (.int k)=>gH (ρ x) (.toInt k)
  | _,some (.slice _)=>none
  | _,_=>gH (ρ x) (.conv s d)
 | .load ty x=>gH (ρ x) (.load ty)
 | .fieldAddr ty x f=>gH (ρ x) (.faddr ty · f)
 | .indexAddr ty x y=>pW (ρ x) (ρ y) (.iaddr ty)
 | .nilCheck x=>gH (ρ x) .nilck
 | .slice ty x lo hi none=>match c.descOf ty with
  | some .string=>match lo,hi with
   | none,none=>gH (ρ x) .slA
   | some l,none=>pW (ρ x) (ρ l) .slL
   | none,some h=>pW (ρ x) (ρ h) .slH
   | some l,some h=>Ag (ρ x) (ρ l) (ρ h) .slB
  | _=>none
 | .call k=>match k.callee,k.argTypes.toList,k.args.toList with
  | .builtin .len, [t], [x]=>match c.descOf t with
   | some .string=>gH (ρ x) .lenS
   | _=>gH (ρ x) (.len t)
  | _,_,_=>none
 | _=>none
def E.sure:E→Bool
 | .cst _=>true
 | _=>false
def dq (bad:E→Bool):E→List E
 | .var i=>match bad (.var i) with | true=> [] | false=> [.var i]
 | .cst v=>match bad (.cst v) with | true=> [] | false=> [.cst v]
 | .bin o t x y=>match bad (.bin o t x y) with | true=>dq bad x++dq bad y | false=> [.bin o t x y]
 | .un o x=>match bad (.un o x) with | true=>dq bad x | false=> [.un o x]
 | .pick p x y=>match bad (.pick p x y) with | true=>dq bad p++(dq bad x++dq bad y) | false=> [.pick p x y]
 | .guard g w x=>match bad (.guard g w x) with | true=>dq bad g++(match bad g with | true=> [] | false=>(dq bad x).map (.guard g w)) | false=> [.guard g w x]
 | .and g x=>match bad (.and g x) with | true=>dq bad g++(match bad g with | true=> [] | false=>(dq bad x).map (.guard g true)) | false=> [.and g x]
 | .or g x=>match bad (.or g x) with | true=>dq bad g++(match bad g with | true=> [] | false=>(dq bad x).map (.guard g false)) | false=> [.or g x]
 | .index t x y=>match bad (.index t x y) with | true=>dq bad x++dq bad y | false=> [.index t x y]
 | .field t x f=>match bad (.field t x f) with | true=>dq bad x | false=> [.field t x f]
 | .extract x f=>match bad (.extract x f) with | true=>dq bad x | false=> [.extract x f]
 | .conv a b x=>match bad (.conv a b x) with | true=>dq bad x | false=> [.conv a b x]
 | .toInt k x=>match bad (.toInt k x) with | true=>dq bad x | false=> [.toInt k x]
 | .len t x=>match bad (.len t x) with | true=>dq bad x | false=> [.len t x]
 | .lenS x=>match bad (.lenS x) with | true=>dq bad x | false=> [.lenS x]
 | .slA x=>match bad (.slA x) with | true=>dq bad x | false=> [.slA x]
 | .slL x y=>match bad (.slL x y) with | true=>dq bad x++dq bad y | false=> [.slL x y]
 | .slH x y=>match bad (.slH x y) with | true=>dq bad x++dq bad y | false=> [.slH x y]
 | .slB x y z=>match bad (.slB x y z) with | true=>dq bad x++(dq bad y++dq bad z) | false=> [.slB x y z]
 | .load t x=>match bad (.load t x) with | true=>dq bad x | false=> [.load t x]
 | .faddr t x f=>match bad (.faddr t x f) with | true=>dq bad x | false=> [.faddr t x f]
 | .iaddr t x y=>match bad (.iaddr t x y) with | true=>dq bad x++dq bad y | false=> [.iaddr t x y]
 | .nilck x=>match bad (.nilck x) with | true=>dq bad x | false=> [.nilck x]
def uD (d:Option Nat) (e:E):Bool:=
 match d with
 | some i=>e.looks i
 | none=>false
def oU:List It→List E
 | []=> []
 | .par l::r=>l.map (·.2)++(oU r).flatMap (dq fun e=>l.any fun p=>e.looks p.1)
 | .aA _ _ d g _ xs::r=>(match g with | some (e,w)=>e::xs.map (fun p=> .guard e w p.2) | none=>xs.map (·.2))++(oU r).flatMap (dq fun e=>e.reads || uD d e)
def covered (e:E) (l:List E):Bool:=e.sure || l.any fun f=>e.within f
def guardOf (ops:Array Oper) (keep:List Nat) (σ:List (Nat×E)) (g:Option (Nat×Bool)):Option (Option (E×Bool)):=
 match g with
 | none=>some none
 | some (j,want)=>match (ops[j]?).bind (·.dst) with
  | none=>none
  | some d=>match yu keep σ d with
   | some e=>some (some (e,want))
   | none=>none
def Hj:Operand→Option Nat
 | .tmp i=>some i
 | _=>none
def rj (keep:List Nat) (σ:List (Nat×E)):List Nat→Option (List (Nat×E))
 | []=>some []
 | i::r=>match yu keep σ i,rj keep σ r with
  | some e,some l=>some ((i,e)::l)
  | _,_=>none
def dm (keep:List Nat) (σ:List (Nat×E)):List Nat→Nat→List (Nat×E)
 | [],_=> []
 | i::r,k=>match dh σ i with
  | some e=>(k,e)::dm keep σ r (k+1)
  | none=>dm keep σ r (k+1)
def eE (g:Option (E×Bool)) (e:E):E:=
 match g with
 | none=>e
 | some (x,w)=>bj x w e
def uE (g:Option (E×Bool)) (e:E):E:=
 match g with
 | none=>e
 | some (x,w)=> .guard x w e
def wW (keep:List Nat) (fl:List (Nat×E)) (σ:List (Nat×E)):List (Nat×E):=
 σ.filter fun p=>(posOf keep p.1).isNone&&fl.all fun q=> !p.2.looks q.1
def KO (keep:List Nat) (d:Option Nat) (σ:List (Nat×E)):List (Nat×E):=
 σ.filter fun p=> !p.2.reads&&(match d with | some i=>p.1 !=i&&(match posOf keep i with | some k=> !p.2.looks k | none=>true) | none=>true)
def Ah (keep:List Nat) (d:Option Nat):Option Nat:=
 match d with
 | some i=>posOf keep i
 | none=>none
def KP (nt:Nat) (d:Option Nat):Bool:=
 match d with
 | some i=>decide (i<nt)
 | none=>true
def uF (c:ax) (ops:Array Oper) (i:Nat) (o:Op):Nat:=
 match eT o&&bG ops i o with
 | true=>1
 | false=>match bQ c ops i o with
  | true=>2
  | false=>0
theorem wX {o:Op} (h:eo o=true):cp o=false∧eT o=false:=by
 unfold eo at h;split at h
 ·rename_i k;refine ⟨rfl,?_⟩;obtain ⟨ce,as,ts⟩:=k;cases ce with
  | value f=>rfl
  | _=>simp at h
 ·cases h
theorem Fs {c:ax} {ops:Array Oper} {i:Nat} {o:Op}:(uF c ops i o==1)=(eT o&&bG ops i o):=by
 unfold uF;cases eT o&&bG ops i o with
 | true=>rfl
 | false=>cases bQ c ops i o <;> rfl
theorem Ai {c:ax} {ops:Array Oper} {i:Nat} {o:Op}:(uF c ops i o==2)=bQ c ops i o:=by
 unfold uF;cases hg:eT o with
 | false=>simp only [Bool.false_and];cases bQ c ops i o <;> rfl
 | true=>
  have ha:bQ c ops i o=false:=by
   cases hc:eo o with
   | false=>simp [bQ,nu hc]
   | true=>have:=(wX hc).2;rw [hg] at this;cases this
  rw [ha];cases bG ops i o <;> rfl
def tC (c:ax) (ops:Array Oper) (dr:Bool) (i:Nat) (o:Op):Option (List Nat):=
 match dr&& !alone ops i with
 | true=>some (uF c ops i o::cR (fC ops) i ops.toList 0 0)
 | false=>none
def Ft (c:ax) (ops:Array Oper) (o:Op):Bool:=
 match o with
 | .convert _ d (.tmp i)=>match c.descOf d with
  | some .string=>ops.toList.any fun p=>match p.op,p.dst with
   | .makeSlice _ _ _,some j=>i==j
   | _,_=>false
  | _=>false
 | _=>false
def yw (c:ax) (ops:Array Oper) (ρ:Operand→Option E) (o:Op):Option E:=
 match Ft c ops o with
 | true=>none
 | false=>mq c ρ o
theorem Aj {c:ax} {ops:Array Oper} {ρ:Operand→Option E} {o:Op} {e:E} (h:yw c ops ρ o=some e):mq c ρ o=some e:=by
 unfold yw at h;split at h
 ·cases h
 ·exact h
def oV (c:ax) (ops:Array Oper) (dr:Bool) (i:Nat) (o:Op):List Nat:=
 match dr&& !alone ops i&&(cp o || (eT o&&bG ops i o)) with
 | true=>gE ops i
 | false=>match dr&& !alone ops i&&bQ c ops i o with
  | true=>jE ops i
  | false=> []
def KQ (ops:Array Oper) (dr:Bool) (i:Nat) (o:Op):Bool:=
 match dr&& !alone ops i&&cp o with
 | true=>bG ops i o
 | false=>true
def Ak (c:ax) (ops:Array Oper) (keep:List Nat) (g:Option (E×Bool)) (σ:List (Nat×E)) (dr:Bool) (j:Nat) (o:Op):Bool:=
 match dr&&(ue c ops || nq ops),gj o with
 | true,some p=>match fN ops j p with
  | some q=>match yu keep σ p,yu keep σ q with
   | some a,some b=>aJ (eE g a) (eE g b)
   | _,_=>false
  | none=>true
 | _,_=>true
def Ed (fl:List (Nat×E)) (its:List It):List It:=
 match fl with
 | []=>its
 | _=> .par fl::its
def lq (c:ax) (ops:Array Oper) (keep:List Nat) (nt:Nat) (dr:Bool):List Oper→Nat→List (Nat×E)→Option (List It)
 | [],_,σ=>some (Ed (dm keep σ keep 0) [])
 | o::r,i,σ=>match guardOf ops keep σ o.guard with
  | none=>none
  | some g=>match yw c ops (fun x=>(yv keep σ x).map (eE g)) o.op,o.dst with
   | some e,some d=>match decide (d<nt)&&Ak c ops keep g σ dr i o.op with
    | true=>match lq c ops keep nt dr r (i+1) ((d,uE g e)::σ.filter fun p=>p.1 !=d) with
     | some its=>match covered (uE g e) (oU its) with
      | true=>some its
      | false=>some (.par [(keep.length,uE g e)]::its)
     | none=>none
    | false=>none
   | _,_=>match guardOf ops keep (wW keep (dm keep σ keep 0) σ) o.guard with
    | none=>none
    | some g=>match rj keep (wW keep (dm keep σ keep 0) σ) (o.op.operands.toList.filterMap Hj++oV c ops dr i o.op) with
     | none=>none
     | some xs=>match (KP nt o.dst&&KQ ops dr i o.op)&&Ak c ops keep g (wW keep (dm keep σ keep 0) σ) dr i o.op with
      | true=>match lq c ops keep nt dr r (i+1) (KO keep o.dst (wW keep (dm keep σ keep 0) σ)) with
       | some its=>some (Ed (dm keep σ keep 0) (.aA (tC c ops dr i o.op) (b8 ops.toList i 0) (Ah keep o.dst) g o.op (xs.map fun p=>(p.1,eE g p.2))::its))
       | none=>none
      | false=>none
def yx (c:ax) (keep:List Nat) (nt:Nat) (ops:Array Oper) (dr:Bool):Option IR:=
 match !dr || qY ops with
 | true=>match lq c ops keep nt dr ops.toList 0 [] with
  | some its=>some (.al (cx ops.toList) (match dr with | true=>List.range (cx ops.toList) | false=> []) its)
  | none=>none
 | false=>none
def Hk (c:ax) (keep:List Nat) (nt:Nat) (ops:Array Oper) (dr:Bool):Option IR:=
 match dr,ops.toList with
 | false,o::r=>match o.op,o.dst,o.guard with
  | .next (.tmp t) false,some d,none=>match posOf keep t,posOf keep d,lq c ops keep nt false r 1 [],decide (d<nt) with
   | some x,some k,some its,true=>some (.zh x k (cx r) its)
   | _,_,_,_=>none
  | _,_,_=>none
 | _,_=>none
def Mq (c:ax) (k:Call):Bool:=k.argTypes.toList.any fun t=>match c.descOf t with
 | some (.pointer _)=>true
 | some (.func _ _ _)=>true
 | _=>false
def Jq (c:ax):Op→Bool
 | .call k=>(match k.callee with | .value _=>true | _=>false)&&Mq c k
 | _=>false
def KR (ops:Array Oper) (i j:Nat):Bool:=i !=j&& !ordered (fC ops) i j&& !ordered (fC ops) j i
def Mr (ops:Array Oper) (j:Nat):List Nat:=(List.range ops.size).filter fun i=>KR ops i j&& !np ops i
def tD (c:ax) (ops:Array Oper):Option (Nat×Nat):=
 match GY ops.toList 0 with
 | [i,j]=>(match KR ops i j with | true=>some (i,j) | false=>none)
 | _=>match (List.range ops.size).filter fun j=>(match ops[j]? with | some o=>Jq c o.op&& !alone ops j | none=>false) with
  | [j]=>match Mr ops j with
   | i::r=>some (match r.getLast? with | some q=>(min q j,max q j) | none=>(min i j,max i j))
   | _=>none
  | _=>none
def nz (c:ax) (keep:List Nat) (nt:Nat):Nat→Array Oper→Option (List (Nat×List Nat×List It))
 | 0,_=>none
 | k+1,ops=>match tD c ops with
  | some (i,j)=>match G0 ops i j,nz c keep nt k (eD id id i j ops),nz c keep nt k (eD (sg i j) (ta i j) j i ops) with
   | true,some l1,some l2=>some (l1++l2)
   | _,_,_=>none
  | none=>match yx c keep nt ops true with
   | some (.al n kl its)=>some [(n,kl,its)]
   | _=>none
def Hl (c:ax) (keep:List Nat) (nt:Nat) (ops:Array Oper) (dr:Bool):Option IR:=
 match dr,tD c ops with
 | true,some _=>match nz c keep nt 4 ops with
  | some (x::l)=>some (.alt (x::l))
  | _=>none
 | _,_=>none
def Fu (c:ax) (keep:List Nat) (nt:Nat) (ops:Array Oper) (dr:Bool):Option IR:=
 match Hk c keep nt ops dr with
 | some x=>some x
 | none=>match Hl c keep nt ops dr with
  | some x=>some x
  | none=>yx c keep nt ops dr
def ja (c:ax) (keep:List Nat) (nt:Nat):Code→Option IR
 | .skip=>some .skip
 | .label _=>some .skip
 | .ret=>some .ret
 | .exit i=>some (.exit i)
 | .seq a b=>match ja c keep nt a,ja c keep nt b with
  | some a',some b'=>some (.seq a' b')
  | _,_=>none
 | .block i a=>match ja c keep nt a with
  | some a'=>some (.block i a')
  | none=>none
 | .scope a=>ja c keep nt a
 | .cond (.tmp x) a b=>match posOf keep x,ja c keep nt a,ja c keep nt b with
  | some k,some a',some b'=>some (.cond k a' b')
  | none,_,_=>some .stuck
  | _,_,_=>none
 | .loop a=>match ja c keep nt a with
  | some a'=>some (.loop [] a')
  | none=>none
 | .cond (.const v) a b=>match fK v with
  | .bool true=>ja c keep nt a
  | .bool false=>ja c keep nt b
  | _=>some .stuck
 | .region _ ops dr=>match Fu c keep nt ops dr with
  | some x=>some x
  | none=>some .stuck
 | .rangeFunc (.tmp t) ps asg body=>match posOf keep t with
  | some x=>some (.qN x ⟨ps,asg,body,keep,nt⟩)
  | none=>none
 | _=>some .stuck
def E.bits:E→Nat
 | .var j=>2^j
 | .cst _=>0
 | .bin _ _ x y=>x.bits ||| y.bits
 | .un _ x=>x.bits
 | .pick p x y=>p.bits ||| x.bits ||| y.bits
 | .guard g _ e=>g.bits ||| e.bits
 | .and p x=>p.bits ||| x.bits
 | .or p x=>p.bits ||| x.bits
 | .index _ x y=>x.bits ||| y.bits
 | .field _ x _=>x.bits
 | .extract x _=>x.bits
 | .conv _ _ x=>x.bits
 | .toInt _ x=>x.bits
 | .len _ x=>x.bits
 | .lenS x=>x.bits
 | .slA x=>x.bits
 | .slL x y=>x.bits ||| y.bits
 | .slH x y=>x.bits ||| y.bits
 | .slB x y z=>x.bits ||| y.bits ||| z.bits
 | .load _ x=>x.bits
 | .faddr _ x _=>x.bits
 | .iaddr _ x y=>x.bits ||| y.bits
 | .nilck x=>x.bits
def yy (m i:Nat):Nat:=if m.testBit i then m-2^i else m
def pX:List It→Nat→Nat
 | [],out=>out
 | .par l::r,out=>l.foldl (fun m p=>m ||| p.2.bits) (l.foldl (fun m p=>yy m p.1) (pX r out))
 | .aA _ _ d g _ xs::r,out=>
  let m:=pX r out
  let m:=match d,g with | some i,none=>yy m i | _,_=>m
  let m:=match g with | some (e,_)=>m ||| e.bits | none=>m
  xs.foldl (fun m p=>m ||| p.2.bits) m
def Al (xs:List (Nat×Nat)) (i:Nat):Nat:=
 match xs with
 | []=>0
 | (j,m)::r=>if i=j then m else Al r i
def lS (ret:Nat):IR→List (Nat×Nat)→Nat→Nat
 | .skip,_,out=>out
 | .ret,_,_=>ret
 | .stuck,_,_=>0
 | .own _,_,out=>out
 | .exit i,xs,_=>Al xs i
 | .seq a b,xs,out=>lS ret a xs (lS ret b xs out)
 | .block i a,xs,out=>lS ret a ((i,out)::xs) out
 | .al _ _ its,_,out=>pX its out
 | .cond x a b,xs,out=>lS ret a xs out ||| lS ret b xs out ||| 2^x
 | .loop _ a,xs,_=>lS ret a xs (lS ret a xs (lS ret a xs 0))
 | .qN _ s,_,_=>2^s.keep.length-1
 | .zh x k _ its,_,out=>yy (pX its out) k ||| 2^x
 | .alt l,_,out=>l.foldl (fun m x=>m ||| pX x.2.2 out) 0
def uG (d:Nat):List It→Bool
 | []=>false
 | .aA _ _ _ _ (.call ⟨.builtin .append,args,_⟩) xs::r=>(match args.toList with
  | .tmp t::_=>match dh xs t with
   | some (.var j)=>j==d
   | _=>false
  | _=>false) || uG d r
 | _::r=>uG d r
def Ee (c:ax):List It→List pV
 | []=> []
 | .aA _ _ (some d) _ (.slice ty (.tmp t) .none _ .none) xs::r=>
  let rest:=Ee c r
  match uG d r,c.descOf ty,dh xs t with
  | true,some (.slice el),some (.var i)=>match c.ti el with
   | some j=>⟨i,none,el,j.size⟩::rest
   | none=>rest
  | _,_,_=>rest
 | .aA _ _ _ _ (.call ⟨.builtin .append,args,ts⟩) xs::r=>
  let rest:=Ee c r
  match ts.toList,args.toList with
  | st::_,.tmp t::_=>match c.descOf st with
   | some (.slice el)=>match c.ti el,dh xs t with
    | some j,some (.var i)=>⟨i,none,el,j.size⟩::rest
    | some j,some (.load _ (.var i))=>⟨i,some 0,el,j.size⟩::rest
    | some j,some (.load _ (.faddr sty (.var i) f))=>match c.ti sty with
     | some k=>match k.fields[f]? with
      | some (_,o,_)=>⟨i,some o,el,j.size⟩::rest
      | none=>rest
     | none=>rest
    | some j,some (.load _ (.faddr sty (.nilck (.var i)) f))=>match c.ti sty with
     | some k=>match k.fields[f]? with
      | some (_,o,_)=>⟨i,some o,el,j.size⟩::rest
      | none=>rest
     | none=>rest
    | _,_=>rest
   | _=>rest
  | _,_=>rest
 | _::r=>Ee c r
def nA (c:ax) (d:Nat):List (TypeId×Nat×Nat)→List pV
 | []=> []
 | (t,o,_)::r=>match c.descOf t with
  | some (.slice el)=>match c.ti el with
   | some j=>⟨d,some o,el,j.size⟩::nA c d r
   | none=>nA c d r
  | _=>nA c d r
def Hm (c:ax) (d:Nat) (ty:TypeId):List pV:=
 match c.ti ty with
 | some i=>match i.desc with
  | .slice el=>match c.ti el with
   | some j=> [⟨d,some 0,el,j.size⟩]
   | none=> []
  | .struct _=>nA c d i.fields
  | _=> []
 | none=> []
def storedIn (d:Nat):List It→Bool
 | []=>false
 | .aA _ _ _ _ (.store _ (.tmp t) _) xs::r=>(match dh xs t with | some (.var i)=>i==d | _=>false) || storedIn d r
 | _::r=>storedIn d r
def yz (d:Nat) (bs:List Nat):List It→Bool
 | []=>false
 | .aA _ _ _ _ (.store _ (.tmp t) (.tmp x)) xs::r=>(match dh xs t,dh xs x with | some (.var i),some (.var j)=>i==d&&bs.contains j | _,_=>false) || yz d bs r
 | _::r=>yz d bs r
def fQ (c:ax) (bs:List Nat):List It→List pV
 | []=> []
 | .aA _ _ (some d) _ (.alloc ty) _::r=>match c.cut&&storedIn d r with
  | true=>match yz d bs r with
   | true=>Hm c d ty++fQ c bs r
   | false=>fQ c bs r
  | false=>Hm c d ty++fQ c bs r
 | .aA _ _ (some d) _ (.build _ _) _::r=>fQ c (d::bs) r
 | .aA _ _ (some d) _ (.box ty (.tmp t)) xs::r=>match dh xs t with
  | some (.var j)=>match bs.contains j with
   | true=>Hm c d ty++fQ c bs r
   | false=>fQ c bs r
  | _=>fQ c bs r
 | _::r=>fQ c bs r
def mr (c:ax):IR→List pV
 | .seq a b=>mr c a++mr c b
 | .block _ a=>mr c a
 | .cond _ a b=>mr c a++mr c b
 | .loop _ a=>mr c a
 | .al _ _ its=>Ee c its
 | _=> []
def Jr (a b:pV):Bool:=a.slot==b.slot&&a.cell==b.cell
def dedup:List pV→List pV
 | []=> []
 | a::r=>match r.any (Jr a) with
  | true=>dedup r
  | false=>a::dedup r
def uH:List pV→List Nat
 | []=> []
 | o::r=>match o.cell with
  | none=>(o.slot+1000)::uH r
  | some _=>uH r
def Hn (n m:Nat):List Nat:=(List.range n).filter fun i=> !m.testBit i
def uI (l:List pV) (x:IR):IR:=
 match l with
 | []=>x
 | l=> .seq (.own l) x
def CB (x:IR) (l:List pV):IR:=
 match l with
 | []=>x
 | l=> .seq x (.own l)
def yA:List It→List pV
 | []=> []
 | .aA (some (0::_)) _ _ _ (.slice ty (.tmp t) _ _ none) xs::r=>match dh xs t with
  | some (.var i)=>⟨i,none,ty,0⟩::yA r
  | _=>yA r
 | _::r=>yA r
def lentCalls (c:ax):List It→List pV
 | []=> []
 | .aA (some (0::_)) _ _ _ (.call ⟨.value (.func f),args,_⟩) xs::r=>
  match c.DZ f with
  | true=>(args.toList.filterMap fun a=>match a with
   | .tmp t=>(match dh xs t with
    | some (.var i)=>some ⟨i,none,0,0⟩
    | _=>none)
   | _=>none)++lentCalls c r
  | false=>lentCalls c r
 | _::r=>lentCalls c r
def lr (c:ax):List (Nat×E)→List It→List pV
 | _, []=> []
 | σ,.par l::r=>lr c (l++σ) r
 | σ,.aA _ _ _ _ (.call ⟨.builtin .append,args,ts⟩) xs::r=>
  match ts.toList,args.toList with
  | st::_,.tmp t::_=>match c.descOf st,dh xs t with
   | some (.slice el),some (.var i)=>match c.ti el,dh σ i with
    | some j,some (.load _ (.var q))=>⟨q,some 0,el,j.size⟩::lr c σ r
    | _,_=>lr c σ r
   | _,_=>lr c σ r
  | _,_=>lr c σ r
 | σ,_::r=>lr c σ r
def cellsIn (c:ax):IR→List pV
 | .seq a b=>cellsIn c a++cellsIn c b
 | .block _ a=>cellsIn c a
 | .cond _ a b=>cellsIn c a++cellsIn c b
 | .loop _ a=>cellsIn c a
 | .al _ _ its=>lr c [] its
 | _=> []
def QA (c:ax) (s:Site):List pV:=
 match ja c s.keep s.nt s.body with
 | some b=>dedup (cellsIn c b)
 | none=> []
def lT (c:ax) (n ret:Nat):IR→List (Nat×Nat)→Nat→IR
 | .seq a b,xs,out=> .seq (lT c n ret a xs (lS ret b xs out)) (lT c n ret b xs out)
 | .block i a,xs,out=> .block i (lT c n ret a ((i,out)::xs) out)
 | .cond x a b,xs,out=> .cond x (lT c n ret a xs out) (lT c n ret b xs out)
 | .loop k a,xs,out=>uI ((dedup (mr c a)).filter fun o=>(lS ret (.loop k a) xs out).testBit o.slot) (.loop (Hn n (lS ret (.loop k a) xs out)++uH (mr c a)) (lT c n ret a xs (lS ret (.loop k a) xs out)))
 | .al m kl its,_,_=>uI (match c.cut with | true=>lentCalls c its | false=>yA its) (CB (.al m kl its) (fQ c [] its))
 | .qN x s,_,_=>uI (match c.cut with | true=>QA c s | false=> []) (.qN x s)
 | ir,_,_=>ir
def CC (l:List (Nat×Nat)) (i:Nat):Option Nat:=
 match l with
 | []=>none
 | (j,k)::r=>if i=j then some k else CC r i
def Ti (ds:List (Nat×Nat)) (acc:List Nat) (i:Nat):List Nat:=
 match CC ds i with
 | some 2 | none=>i::acc
 | _=>acc
def Js (c:ax):Op→Bool
 | .convert s d _=>match c.descOf s,c.descOf d with
  | some (.int _),some (.int _)=>false
  | _,_=>true
 | .load _ _ | .fieldAddr _ _ _ | .indexAddr _ _ _=>true
 | .call k=>match k.argTypes.toList with
  | [t]=>match c.descOf t with
   | some .string=>false
   | _=>true
  | _=>true
 | _=>false
def pY (c:ax) (ops:Array Oper):List Oper→List (Nat×Nat)→List Nat→List Nat
 | [],_,acc=>acc
 | o::r,ds,acc=>
  let us:=o.op.operands.toList.filterMap Hj
  let us:=match o.guard with
   | some (j,_)=>match (ops[j]?).bind (·.dst) with | some d=>d::us | none=>us
   | none=>us
  let acc:=us.foldl (Ti ds) acc
  let acc:=match o.op,o.dst with | .next _ false,some d=>d::acc | _,_=>acc
  let isPure:=(yw c ops (fun x=>some (match x with | .tmp i=>E.var i | _=> .cst .bJ)) o.op).isSome&&o.dst.isSome
  let rd:=Js c o.op || us.any fun u=>CC ds u==some 1
  let ds:=match isPure with
   | true=>ds
   | false=>ds.map fun p=>if p.2==1 then (p.1,2) else p
  match o.dst with
  | some d=>pY c ops r ((d,match isPure,rd with | true,true=>1 | true,false=>0 | false,_=>2)::ds) acc
  | none=>pY c ops r ds acc
def rl (c:ax):Nat→Array Oper→List (Array Oper)
 | 0,_=> []
 | k+1,ops=>match tD c ops with
  | some (i,j)=>rl c k (eD id id i j ops)++rl c k (eD (sg i j) (ta i j) j i ops)
  | none=> [ops]
def oe (c:ax):Code→List Nat→List Nat
 | .seq a b,acc=>oe c b (oe c a acc)
 | .block _ a,acc=>oe c a acc
 | .scope a,acc=>oe c a acc
 | .cond (.tmp x) a b,acc=>oe c b (oe c a (x::acc))
 | .loop a,acc=>oe c a acc
 | .region _ ops dr,acc=>match dr,tD c ops with
  | true,some _=>(rl c 4 ops).foldl (fun a o=>pY c o o.toList [] a) (pY c ops ops.toList [] acc)
  | _,_=>pY c ops ops.toList [] acc
 | .rangeFunc (.tmp t) _ asg body,acc=>oe c body (oe c asg (t::acc))
 | _,acc=>acc
def KT (c:ax) (fn:Func) (a:Code):List Nat:=
 let l:=oe c a (fn.results.toList.map fun | .tmp i=>i | .cell i _=>i)
 (List.range fn.ntmps).filter fun i=>l.contains i
inductive IM where
 | v (i:Nat)
 | cell (i:Nat) (ty:TypeId)
structure cj where
 keep:List Nat
 code:IR
 res:List IM
def rm (keep:List Nat):List ResultVar→Option (List IM)
 | []=>some []
 | .tmp i::r=>match posOf keep i,rm keep r with
  | some k,some l=>some (.v k::l)
  | _,_=>none
 | .cell i ty::r=>match posOf keep i,rm keep r with
  | some k,some l=>some (.cell k ty::l)
  | _,_=>none
def tE:List IM→Nat
 | []=>0
 | .v i::r=>2^i ||| tE r
 | .cell i _::r=>2^i ||| tE r
def Ef (c:ax) (keep:List Nat) (fn:Func):Option cj:=
 match fn.body with
 | none=>none
 | some a=>match rm keep fn.results.toList,ja c keep fn.ntmps a,decide (fn.ntmps<10000)&&keep.all fun i=>decide (i<fn.ntmps) with
  | some rs,some ir,true=>some {keep:=keep,code:=lT c keep.length (tE rs) ir [] (tE rs),res:=rs}
  | _,_,_=>none
def IR.lU:IR→Bool
 | .qN _ _=>false
 | .seq a b=>a.lU&&b.lU
 | .block _ a=>a.lU
 | .cond _ a b=>a.lU&&b.lU
 | .loop _ a=>a.lU
 | _=>true
def tA (c:ax) (s:Site):Option (IR×IR):=
 match ja c s.keep s.nt s.asg,ja c s.keep s.nt s.body,decide (s.nt<10000)&&s.keep.all fun i=>decide (i<s.nt) with
 | some a,some b,true=>match (lT c s.keep.length 0 a [] (2^s.keep.length-1)).lU&&(lT c s.keep.length 0 b [] 0).lU with
  | true=>some (lT c s.keep.length 0 a [] (2^s.keep.length-1),lT c s.keep.length 0 b [] 0)
  | false=>none
 | _,_,_=>none
def An (keep:List Nat):List Tmp→List AV→List (Option AV)→List (Option AV)
 | p::ps,x::xs,v=>An keep ps xs (match posOf keep p with | some k=>v.set k (some x) | none=>v)
 | _,_,v=>v
def yq (s:Site) (env args:List AV):List (Option AV):=An s.keep s.ps.toList args (env.map some)
def aH (c:ax) (fn:Func):Option cj:=
 match fn.body with
 | none=>none
 | some a=>Ef c (KT c fn a) fn
end Go.Am
