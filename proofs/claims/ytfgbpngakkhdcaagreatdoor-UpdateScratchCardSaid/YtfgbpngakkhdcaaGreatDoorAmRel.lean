/- What the abstract machine's state says of memory: -/
import Derived.Test.YtfgbpngakkhdcaaGreatDoorAmCfg
import Derived.Calls
import Derived.Laws.Sem
open Bool renaming and_eq_true->abj
open Nat renaming mod_two_eq_zero_or_one->acy
set_option linter.all false
namespace Go.Am
section
variable {α:Type}
theorem vH {i j:Nat} (h:i≠j) (he:i%2=j%2):i / 2≠j / 2:=by omega
theorem Tr.bu (d v:α) (t:Tr α): ∀{i j:Nat},i≠j->(t.set i v).get d j=t.get d j:=by
 induction t with
 | lf=>intro i j _;rfl
 | nd x l r ihl ihr=>
  intro i j h;cases i with
  | zero=>cases j with
   | zero=>exact absurd rfl h
   | succ j=>rfl
  | succ i=>
   have h':i≠j-1∨j=0:=by omega
   rcases acy i with hi | hi <;> simp only [Tr.set,hi]
   ·cases j with
    | zero=>rfl
    | succ j=>rcases acy j with hj | hj <;> simp only [Tr.get,hj];exact ihl (vH (by omega) (by omega))
   ·cases j with
    | zero=>rfl
    | succ j=>rcases acy j with hj | hj <;> simp only [Tr.get,hj];exact ihr (vH (by omega) (by omega))
theorem Tr.fS (v:α) (t:Tr α): ∀(i j:Nat),(t.set i v).has j=t.has j:=by
 induction t with
 | lf=>intro i j;rfl
 | nd x l r ihl ihr=>
  intro i j;cases i with
  | zero=>cases j <;> rfl
  | succ i=>
   rcases acy i with hi | hi <;> simp only [Tr.set,hi] <;> cases j with
   | zero=>rfl
   | succ j=>rcases acy j with hj | hj <;> simp only [Tr.has,hj] <;> first | exact ihl _ _ | exact ihr _ _
theorem Tr.dU (d v:α) (t:Tr α): ∀{i:Nat},t.has i=true->(t.set i v).get d i=v:=by
 induction t with
 | lf=>intro i h;cases h
 | nd x l r ihl ihr=>
  intro i h;cases i with
  | zero=>rfl
  | succ i=>rcases acy i with hi | hi <;> simp only [Tr.has,hi] at h <;> simp only [Tr.set,hi,Tr.get] <;> first | exact ihl h | exact ihr h
theorem Tr.uM (d:α) (t:Tr α): ∀{i:Nat},t.has i=false->t.get d i=d:=by
 induction t with
 | lf=>intro i _;rfl
 | nd x l r ihl ihr=>
  intro i h;cases i with
  | zero=>cases h
  | succ i=>rcases acy i with hi | hi <;> simp only [Tr.has,hi] at h <;> simp only [Tr.get,hi] <;> first | exact ihl h | exact ihr h
theorem Tr.Kj (d:α): ∀(k n i:Nat),(Tr.mk d k n).has i=true->i<n:=by
 intro k
 induction k with
 | zero=>intro n i h;cases h
 | succ k ih=>
  intro n i h;cases n with
  | zero=>cases h
  | succ m=>
   cases i with
   | zero=>omega
   | succ i=>rcases acy i with hi | hi <;> simp only [Tr.mk,Tr.has,hi] at h <;> have:=ih _ _ h <;> omega
theorem Tr.Kk (d:α): ∀(k n i:Nat),(Tr.mk d k n).get d i=d:=by
 intro k
 induction k with
 | zero=>intro n i;rfl
 | succ k ih=>
  intro n i;cases n with
  | zero=>rfl
  | succ m=>
   cases i with
   | zero=>rfl
   | succ i=>rcases acy i with hi | hi <;> simp only [Tr.mk,Tr.get,hi] <;> exact ih _ _
theorem Tr.get_map {β:Type} (f:α->β) (d:α) (t:Tr α): ∀i,(t.map f).get (f d) i=f (t.get d i):=by
 induction t with
 | lf=>intro i;rfl
 | nd x l r ihl ihr=>
  intro i;cases i with
  | zero=>rfl
  | succ i=>rcases acy i with hi | hi <;> simp only [Tr.map,Tr.get,hi] <;> first | exact ihl _ | exact ihr _
theorem Tr.rK {β:Type} (f:α->β) (t:Tr α): ∀i,(t.map f).has i=t.has i:=by
 induction t with
 | lf=>intro i;rfl
 | nd x l r ihl ihr=>
  intro i;cases i with
  | zero=>rfl
  | succ i=>rcases acy i with hi | hi <;> simp only [Tr.map,Tr.has,hi] <;> first | exact ihl _ | exact ihr _
end
inductive GE where
 | no
 | var (b:Nat)
 | sl (n sz:Nat) (loc:Option (Nat×Nat))
 | loop (b:Nat) (r:Loop)
 | mp (b:Nat)
def GE.bw:GE->Option Nat
 | .no=>none
 | .var b=>some b
 | .sl _ _ loc=>loc.map (·.1)
 | .loop b _=>some b
 | .mp b=>some b
structure Gh where
 S:Nat->Nat->Prop
 e:Nat->GE
inductive GE.le:GE->GE->Prop where
 | no (x:GE):GE.le .no x
 | same (x:GE):GE.le x x
 | grown {n m sz:Nat} {l l':Option (Nat×Nat)} (h:n<m):GE.le (.sl n sz l) (.sl m sz l')
theorem GE.le.trans {x y z:GE} (h:GE.le x y) (k:GE.le y z):GE.le x z:=by
 cases h with
 | no=>exact .no _
 | same=>exact k
 | grown h=>cases k with
  | same=>exact .grown h
  | grown h'=>exact .grown (Nat.lt_trans h h')
inductive Rd (g:Gh) (w:World):AV->Value->Prop where
 | any (v:Value):Rd g w .any v
 | kc (v:Value) (h:v.oneCell'=true):Rd g w .kc v
 | int (k:IntKind) (n:Int):Rd g w (.int k n) (.int k n)
 | bool (b:Bool):Rd g w (.bool b) (.bool b)
 | str (s:List UInt8):Rd g w (.str s) (.string ⟨s.toArray⟩)
 | agg (cs:List AV) (vs:Array Value) (hn:vs.size=cs.length) (h: ∀(i:Nat) (c:AV) (v:Value),cs[i]?=some c->vs[i]?=some v->Rd g w c v):Rd g w (.agg cs) (.agg vs)
 | aL (cs:List AV) (vs:Array Value) (hn:vs.size=cs.length) (h: ∀(i:Nat) (c:AV) (v:Value),cs[i]?=some c->vs[i]?=some v->Rd g w c v):Rd g w (.aL cs) (.tuple vs)
 | bZ:Rd g w .bZ (.pointer none)
 | ptr (k off b:Nat) (h:g.e k= .var b):Rd g w (.ptr k off) (.pointer (some ⟨b,off,none⟩))
 | cM (k n i off m sz:Nat) (loc:Option (Nat×Nat)) (v:Value) (h1:v.oneCell'=true) (h:g.e k= .sl m sz loc) (hle:n<=m)
   (hv:n=m->(∃b cap,loc=some (b,cap)∧v= .pointer (some ⟨b,i*sz+off,none⟩))∨(loc=none∧n=0∧v= .pointer none)):Rd g w (.cM k n i off) v
 | dj (cs:List AV) (b off:Nat) (vals:Nat->Value) (hp: ∀(j:Nat) (x:AV),cs[j]?=some x->x.plain=true∧g.S b (off+j)∧w.cell? ⟨b,off+j,none⟩=some (vals j))
   (h: ∀(j:Nat) (x:AV),cs[j]?=some x->Rd g w x (vals j)):Rd g w (.dj cs) (.pointer (some ⟨b,off,none⟩))
 | ag (nl:Option Bool) (sz:Nat) (es:List AV) (a:Option Addr) (cap b off:Nat) (vals:Nat->Nat->Value)
   (hnl: ∀x,nl=some x->a.isNone=x) (hnil:a=none->es= []∧cap=0) (hcap:es.length<=cap) (ha:es≠ []->a=some ⟨b,off,none⟩)
   (hp: ∀(i:Nat) (e:AV),es[i]?=some e->e.plain=true∧e.cells.length=sz)
   (hc: ∀(i j:Nat) (e x:AV),es[i]?=some e->e.cells[j]?=some x->g.S b (off+i*sz+j)∧w.cell? ⟨b,off+i*sz+j,none⟩=some (vals i j)∧(vals i j).oneCell'=true)
   (h: ∀(i j:Nat) (e x:AV),es[i]?=some e->e.cells[j]?=some x->Rd g w x (vals i j)):Rd g w (.ag nl sz es) (.slice a es.length cap)
 | cv (nl:Option Bool) (a:Option Addr) (hnl: ∀x,nl=some x->a.isNone=x):Rd g w (.cv nl) (.slice a 0 0)
 | ax (k n m sz:Nat) (loc:Option (Nat×Nat)) (v:Value) (h1:v.oneCell'=true) (h:g.e k= .sl m sz loc) (hle:n<=m)
   (hv:n=m->(∃b cap,loc=some (b,cap)∧v= .slice (some ⟨b,0,none⟩) n cap)∨(loc=none∧n=0∧v= .slice none 0 0)):Rd g w (.ax k n) v
 | gn (k n lo hi m sz:Nat) (loc:Option (Nat×Nat)) (v:Value) (h1:v.oneCell'=true) (h:g.e k= .sl m sz loc) (hle:n<=m)
   (hv:n=m-> ∃b cap a,loc=some (b,cap)∧v= .slice (some a) (hi-lo) (cap-lo)∧(a=⟨b,lo*sz,none⟩∨cap=lo)):Rd g w (.gn k n lo hi) v
 | fn (f:FuncId) (cs ds:List AV) (vs us:Array Value) (hn:vs.size=cs.length) (hm:us.size=ds.length)
   (h: ∀(i:Nat) (c:AV) (v:Value),cs[i]?=some c->vs[i]?=some v->Rd g w c v) (h': ∀(i:Nat) (c:AV) (v:Value),ds[i]?=some c->us[i]?=some v->Rd g w c v):Rd g w (.fn f cs ds) (.func (.func f) vs us)
 | eG:Rd g w .eG .nilFunc
 | gR (b:Bool) (v:Value) (h:(b=false∧v= .nilIface)∨(b=true∧ ∃t p,v= .iface t p)):Rd g w (.gR b) v
 | ma (t:TypeId) (k:IntKind) (n:Int):Rd g w (.ma t k n) (.iface t (.int k n))
 | gm (k b:Nat) (s:Site) (env:List AV) (r:Loop) (h:g.e k= .loop b r) (hs:r.params=s.ps∧r.assign=s.asg∧r.body=s.body∧s.nt<=r.tmps.size)
   (he: ∀(j i:Nat) (x:AV),posOf s.keep j=some i->env[i]?=some x->Rd g w x (r.tmps.getD j undef)):Rd g w (.gm k s env) (.func (.yield b) #[] #[])
 | bT (k b:Nat) (h:g.e k= .mp b):Rd g w (.bT k) (.map (some b))
 | lE (k b:Nat) (h:g.e k= .mp b):Rd g w (.lE k) (.pointer (some ⟨b,0,none⟩))
 | ja:Rd g w .ja (.map none)
structure Le (g:Gh) (w:World) (g':Gh) (w':World):Prop where
 S: ∀b o,g.S b o->g'.S b o
 cell: ∀b o,g.S b o->w'.cell? ⟨b,o,none⟩=w.cell? ⟨b,o,none⟩
 e: ∀k,GE.le (g.e k) (g'.e k)
theorem Le.refl (g:Gh) (w:World):Le g w g w:=⟨fun _ _ h=>h,fun _ _ _=>rfl,fun _=> .same _⟩
theorem Le.trans {g1 g2 g3:Gh} {w1 w2 w3:World} (h:Le g1 w1 g2 w2) (k:Le g2 w2 g3 w3):Le g1 w1 g3 w3:=
 ⟨fun _ _ x=>k.S _ _ (h.S _ _ x),fun b o x=>(k.cell b o (h.S b o x)).trans (h.cell b o x),fun i=>(h.e i).trans (k.e i)⟩
theorem Rd.mono {g g':Gh} {w w':World} (hl:Le g w g' w') {d:AV} {v:Value} (h:Rd g w d v):Rd g' w' d v:=by
 induction h with
 | any v=>exact .any v
 | kc v h=>exact .kc v h
 | int k n=>exact .int k n
 | bool b=>exact .bool b
 | str s=>exact .str s
 | agg cs vs hn _ ih=>exact .agg cs vs hn ih
 | aL cs vs hn _ ih=>exact .aL cs vs hn ih
 | bZ=>exact .bZ
 | ptr k off b h=>have:=hl.e k;rw [h] at this;refine .ptr k off b ?_;generalize g'.e k=y at this;cases this;rfl
 | cM k n i off m sz loc v h1 h hle hv=>
  have:=hl.e k;rw [h] at this;generalize hy:g'.e k=y at this;cases this with
  | same=>exact .cM k n i off m sz loc v h1 hy hle hv
  | grown hlt=>exact .cM k n i off _ sz _ v h1 hy (by omega) (fun e=>by omega)
 | dj cs b off vals hp _ ih=>exact .dj cs b off vals (fun j x hx=>⟨(hp j x hx).1,hl.S _ _ (hp j x hx).2.1,(hl.cell _ _ (hp j x hx).2.1).trans (hp j x hx).2.2⟩) ih
 | ag nl sz es a cap b off vals hnl hnil hcap ha hp hc _ ih=>exact .ag nl sz es a cap b off vals hnl hnil hcap ha hp (fun i j e x he hx=>⟨hl.S _ _ (hc i j e x he hx).1,(hl.cell _ _ (hc i j e x he hx).1).trans (hc i j e x he hx).2.1,(hc i j e x he hx).2.2⟩) ih
 | cv nl a h=>exact .cv nl a h
 | ax k n m sz loc v h1 h hle hv=>
  have:=hl.e k;rw [h] at this;generalize hy:g'.e k=y at this;cases this with
  | same=>exact .ax k n m sz loc v h1 hy hle hv
  | grown hlt=>exact .ax k n _ sz _ v h1 hy (by omega) (fun e=>by omega)
 | gn k n lo hi m sz loc v h1 h hle hv=>
  have:=hl.e k;rw [h] at this;generalize hy:g'.e k=y at this;cases this with
  | same=>exact .gn k n lo hi m sz loc v h1 hy hle hv
  | grown hlt=>exact .gn k n lo hi _ sz _ v h1 hy (by omega) (fun e=>by omega)
 | fn f cs ds vs us hn hm _ _ ih ih'=>exact .fn f cs ds vs us hn hm ih ih'
 | eG=>exact .eG
 | gR b v h=>exact .gR b v h
 | ma t k n=>exact .ma t k n
 | gm k b s env r h hs _ ih=>have:=hl.e k;rw [h] at this;refine .gm k b s env r ?_ hs ih;generalize g'.e k=y at this;cases this;rfl
 | bT k b h=>have:=hl.e k;rw [h] at this;refine .bT k b ?_;generalize g'.e k=y at this;cases this;rfl
 | lE k b h=>have:=hl.e k;rw [h] at this;refine .lE k b ?_;generalize g'.e k=y at this;cases this;rfl
 | ja=>exact .ja
theorem bM: ∀{cs:List AV} {i:Nat} {c:AV},ai cs=true->cs[i]?=some c->c.plain=true
 | [],i,c,_,h=>by cases h
 | v::r,0,c,hp,h=>by simp only [ai,abj] at hp;simp at h;rw [<-h];exact hp.1
 | v::r,i+1,c,hp,h=>by simp only [ai,abj] at hp;simp at h;exact bM hp.2 h
theorem ft {n:Nat}: ∀{cs:List AV} {i:Nat} {c:AV},ar n cs=true->cs[i]?=some c->c.under n=true
 | [],i,c,_,h=>by cases h
 | v::r,0,c,hp,h=>by simp only [ar,abj] at hp;simp at h;rw [<-h];exact hp.1
 | v::r,i+1,c,hp,h=>by simp only [ar,abj] at hp;simp at h;exact ft hp.2 h
theorem iR: ∀{cs:List AV} {i:Nat} {c:AV},flatAll cs=true->cs[i]?=some c->c.flat=true
 | [],i,c,_,h=>by cases h
 | v::r,0,c,hp,h=>by simp only [flatAll,abj] at hp;simp at h;rw [<-h];exact hp.1
 | v::r,i+1,c,hp,h=>by simp only [flatAll,abj] at hp;simp at h;exact iR hp.2 h
theorem Rd.aI {g g':Gh} {w w':World} (hS: ∀b o,g.S b o->g'.S b o) (hc: ∀b o,g.S b o->w'.cell? ⟨b,o,none⟩=w.cell? ⟨b,o,none⟩) {d:AV} {v:Value} (h:Rd g w d v):
  d.plain=true->Rd g' w' d v:=by
 induction h with
 | any v=>exact fun _=> .any v
 | kc v h=>exact fun _=> .kc v h
 | int k n=>exact fun _=> .int k n
 | bool b=>exact fun _=> .bool b
 | str s=>exact fun _=> .str s
 | agg cs vs hn _ ih=>exact fun hp=> .agg cs vs hn (fun i c v hc hv=>ih i c v hc hv (bM (by simpa only [AV.plain] using hp) hc))
 | aL cs vs hn _ ih=>exact fun hp=> .aL cs vs hn (fun i c v hc hv=>ih i c v hc hv (bM (by simpa only [AV.plain] using hp) hc))
 | bZ=>exact fun _=> .bZ
 | ptr k off b h=>intro hp;simp [AV.plain] at hp
 | cM k n i off m sz loc v h1 h hle hv=>intro hp;simp [AV.plain] at hp
 | dj cs b off vals hp _ ih=>exact fun _=> .dj cs b off vals (fun j x hx=>⟨(hp j x hx).1,hS _ _ (hp j x hx).2.1,(hc _ _ (hp j x hx).2.1).trans (hp j x hx).2.2⟩) (fun j x hx=>ih j x hx (hp j x hx).1)
 | ag nl sz es a cap b off vals hnl hnil hcap ha hp hc' _ ih=>
  refine fun _=> .ag nl sz es a cap b off vals hnl hnil hcap ha hp (fun i j e x he hx=>⟨hS _ _ (hc' i j e x he hx).1,(hc _ _ (hc' i j e x he hx).1).trans (hc' i j e x he hx).2.1,(hc' i j e x he hx).2.2⟩) (fun i j e x he hx=>ih i j e x he hx ?_);have:=(hp i e he).1
  cases e <;> simp only [AV.cells] at hx <;> first
   | (simp only [AV.plain] at this;exact bM this hx)
   | (cases j with
      | zero => simp at hx; rw [<- hx]; exact this
      | succ j => simp at hx)
 | cv nl a h=>exact fun _=> .cv nl a h
 | ax k n m sz loc v h1 h hle hv=>intro hp;simp [AV.plain] at hp
 | gn k n lo hi m sz loc v h1 h hle hv=>intro hp;simp [AV.plain] at hp
 | fn f cs ds vs us hn hm _ _ ih ih'=>intro hp;simp only [AV.plain,abj] at hp;exact .fn f cs ds vs us hn hm (fun i c v hc hv=>ih i c v hc hv (bM hp.1 hc)) (fun i c v hc hv=>ih' i c v hc hv (bM hp.2 hc))
 | eG=>exact fun _=> .eG
 | gR b v h=>exact fun _=> .gR b v h
 | ma t k n=>exact fun _=> .ma t k n
 | gm k b s env r h hs _ _=>intro hp;simp [AV.plain] at hp
 | bT k b h=>intro hp;simp [AV.plain] at hp
 | lE k b h=>intro hp;simp [AV.plain] at hp
 | ja=>exact fun _=> .ja
theorem Rd.of_flat {g g':Gh} {w w':World} {d:AV} {v:Value} (h:Rd g w d v):d.flat=true->Rd g' w' d v:=by
 induction h with
 | any v=>exact fun _=> .any v
 | kc v h=>exact fun _=> .kc v h
 | int k n=>exact fun _=> .int k n
 | bool b=>exact fun _=> .bool b
 | str s=>exact fun _=> .str s
 | agg cs vs hn _ ih=>exact fun hp=> .agg cs vs hn (fun i c v hc hv=>ih i c v hc hv (iR (by simpa only [AV.flat] using hp) hc))
 | aL cs vs hn _ ih=>exact fun hp=> .aL cs vs hn (fun i c v hc hv=>ih i c v hc hv (iR (by simpa only [AV.flat] using hp) hc))
 | bZ=>exact fun _=> .bZ
 | ptr k off b h=>intro hp;simp [AV.flat] at hp
 | cM k n i off m sz loc v h1 h hle hv=>intro hp;simp [AV.flat] at hp
 | dj cs b off vals hp _ ih=>intro hp;simp [AV.flat] at hp
 | ag nl sz es a cap b off vals hnl hnil hcap ha hp hc' _ ih=>intro hp;simp [AV.flat] at hp
 | cv nl a h=>intro hp;simp [AV.flat] at hp
 | ax k n m sz loc v h1 h hle hv=>intro hp;simp [AV.flat] at hp
 | gn k n lo hi m sz loc v h1 h hle hv=>intro hp;simp [AV.flat] at hp
 | fn f cs ds vs us hn hm _ _ ih ih'=>intro hp;simp only [AV.flat,abj] at hp;exact .fn f cs ds vs us hn hm (fun i c v hc hv=>ih i c v hc hv (iR hp.1 hc)) (fun i c v hc hv=>ih' i c v hc hv (iR hp.2 hc))
 | eG=>exact fun _=> .eG
 | gR b v h=>exact fun _=> .gR b v h
 | ma t k n=>exact fun _=> .ma t k n
 | gm k b s env r h hs _ _=>intro hp;simp [AV.flat] at hp
 | bT k b h=>intro hp;simp [AV.flat] at hp
 | lE k b h=>intro hp;simp [AV.flat] at hp
 | ja=>exact fun _=> .ja
def Gh.cut (g:Gh) (n:Nat):Gh:={S:=g.S,e:=fun k=>if k<n then g.e k else .no}
theorem Rd.cut {g:Gh} {w:World} (n:Nat) {d:AV} {v:Value} (h:Rd g w d v):d.under n=true->Rd (g.cut n) w d v:=by
 induction h with
 | any v=>exact fun _=> .any v
 | kc v h=>exact fun _=> .kc v h
 | int k n=>exact fun _=> .int k n
 | bool b=>exact fun _=> .bool b
 | str s=>exact fun _=> .str s
 | agg cs vs hn _ ih=>exact fun hp=> .agg cs vs hn (fun i c v hc hv=>ih i c v hc hv (ft (by simpa only [AV.under] using hp) hc))
 | aL cs vs hn _ ih=>exact fun hp=> .aL cs vs hn (fun i c v hc hv=>ih i c v hc hv (ft (by simpa only [AV.under] using hp) hc))
 | bZ=>exact fun _=> .bZ
 | ptr k off b h=>intro hp;simp [AV.under] at hp;exact .ptr k off b (by simp [Gh.cut,hp,h])
 | cM k n i off m sz loc v h1 h hle hv=>intro hp;simp [AV.under] at hp;exact .cM k n i off m sz loc v h1 (by simp [Gh.cut,hp,h]) hle hv
 | dj cs b off vals hp h _=>exact fun _=> .dj cs b off vals hp (fun j x hx=>(h j x hx).aI (g:=g) (g':=g.cut n) (w:=w) (w':=w) (fun _ _ h=>h) (fun _ _ _=>rfl) (hp j x hx).1)
 | ag nl sz es a cap b off vals hnl hnil hcap ha hp hc' h ih=>intro _;exact (Rd.ag nl sz es a cap b off vals hnl hnil hcap ha hp hc' h).aI (g:=g) (g':=g.cut n) (w:=w) (w':=w) (fun _ _ h=>h) (fun _ _ _=>rfl) rfl
 | cv nl a h=>exact fun _=> .cv nl a h
 | ax k n m sz loc v h1 h hle hv=>intro hp;simp [AV.under] at hp;exact .ax k n m sz loc v h1 (by simp [Gh.cut,hp,h]) hle hv
 | gn k n lo hi m sz loc v h1 h hle hv=>intro hp;simp [AV.under] at hp;exact .gn k n lo hi m sz loc v h1 (by simp [Gh.cut,hp,h]) hle hv
 | fn f cs ds vs us hn hm _ _ ih ih'=>intro hp;simp only [AV.under,abj] at hp;exact .fn f cs ds vs us hn hm (fun i c v hc hv=>ih i c v hc hv (ft hp.1 hc)) (fun i c v hc hv=>ih' i c v hc hv (ft hp.2 hc))
 | eG=>exact fun _=> .eG
 | gR b v h=>exact fun _=> .gR b v h
 | ma t k n=>exact fun _=> .ma t k n
 | gm k b s env r h hs _ ih=>intro hp;simp only [AV.under,abj,decide_eq_true_eq] at hp;exact .gm k b s env r (by simp [Gh.cut,hp.1,h]) hs (fun j i x hj hx=>ih j i x hj hx (ft hp.2 hx))
 | bT k b h=>intro hp;simp [AV.under] at hp;exact .bT k b (by simp [Gh.cut,hp,h])
 | lE k b h=>intro hp;simp [AV.under] at hp;exact .lE k b (by simp [Gh.cut,hp,h])
 | ja=>exact fun _=> .ja
theorem Rd.one {g:Gh} {w:World} {d:AV} {v:Value} (h:Rd g w d v) (hd:d.cz=true):v.oneCell'=true:=by cases h <;> first | rfl | assumption | (simp [AV.cz] at hd;done) | (rename_i h;rcases h with ⟨_,rfl⟩ | ⟨_,_,_,rfl⟩ <;> rfl)
theorem Rd.forget {g:Gh} {w:World} (n:Nat) {d:AV} {v:Value} (h:Rd g w d v):Rd (g.cut n) w (forget n d) v:=by
 unfold Am.forget;cases hu:d.under n with
 | true=>exact h.cut n hu
 | false=>exact .any v
end Go.Am
