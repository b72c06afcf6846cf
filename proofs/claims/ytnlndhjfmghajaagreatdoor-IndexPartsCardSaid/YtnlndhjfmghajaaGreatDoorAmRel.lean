/- What the abstract machine's state says of memory: -/
import Derived.Test.YtnlndhjfmghajaaGreatDoorAmCfg
import Derived.Calls
import Derived.Laws.Sem
set_option linter.all false
namespace Go.Am
section
variable {α:Type}
theorem Tr.get_lf (d:α) (i:Nat):(Tr.lf:Tr α).get d i=d:=rfl
theorem half_ne {i j:Nat} (h:i≠j) (he:i%2=j%2):i / 2≠j / 2:=by omega
theorem Tr.get_set_ne (d v:α) (t:Tr α): ∀{i j:Nat},i≠j→(t.set i v).get d j=t.get d j:=by
 induction t with
 | lf=>intro i j _;rfl
 | nd x l r ihl ihr=>
  intro i j h
  cases i with
  | zero=>cases j with
   | zero=>exact absurd rfl h
   | succ j=>rfl
  | succ i=>
   have h':i≠j-1∨j=0:=by omega
   rcases Nat.mod_two_eq_zero_or_one i with hi | hi <;> simp only [Tr.set,hi]
   ·cases j with
    | zero=>rfl
    | succ j=>
     rcases Nat.mod_two_eq_zero_or_one j with hj | hj <;> simp only [Tr.get,hj]
     exact ihl (half_ne (by omega) (by omega))
   ·cases j with
    | zero=>rfl
    | succ j=>
     rcases Nat.mod_two_eq_zero_or_one j with hj | hj <;> simp only [Tr.get,hj]
     exact ihr (half_ne (by omega) (by omega))
theorem Tr.has_set (v:α) (t:Tr α): ∀(i j:Nat),(t.set i v).has j=t.has j:=by
 induction t with
 | lf=>intro i j;rfl
 | nd x l r ihl ihr=>
  intro i j
  cases i with
  | zero=>cases j <;> rfl
  | succ i=>
   rcases Nat.mod_two_eq_zero_or_one i with hi | hi <;> simp only [Tr.set,hi] <;> cases j with
   | zero=>rfl
   | succ j=>rcases Nat.mod_two_eq_zero_or_one j with hj | hj <;> simp only [Tr.has,hj] <;> first | exact ihl _ _ | exact ihr _ _
theorem Tr.get_set_eq (d v:α) (t:Tr α): ∀{i:Nat},t.has i=true→(t.set i v).get d i=v:=by
 induction t with
 | lf=>intro i h;cases h
 | nd x l r ihl ihr=>
  intro i h
  cases i with
  | zero=>rfl
  | succ i=>
   rcases Nat.mod_two_eq_zero_or_one i with hi | hi <;> simp only [Tr.has,hi] at h <;> simp only [Tr.set,hi,Tr.get] <;> first | exact ihl h | exact ihr h
theorem Tr.get_has_not (d:α) (t:Tr α): ∀{i:Nat},t.has i=false→t.get d i=d:=by
 induction t with
 | lf=>intro i _;rfl
 | nd x l r ihl ihr=>
  intro i h
  cases i with
  | zero=>cases h
  | succ i=>
   rcases Nat.mod_two_eq_zero_or_one i with hi | hi <;> simp only [Tr.has,hi] at h <;> simp only [Tr.get,hi] <;> first | exact ihl h | exact ihr h
theorem Tr.has_mk (d:α): ∀(k n i:Nat),(Tr.mk d k n).has i=true→i<n:=by
 intro k
 induction k with
 | zero=>intro n i h;cases h
 | succ k ih=>
  intro n i h
  cases n with
  | zero=>cases h
  | succ m=>
   cases i with
   | zero=>omega
   | succ i=>
    rcases Nat.mod_two_eq_zero_or_one i with hi | hi <;> simp only [Tr.mk,Tr.has,hi] at h <;> have:=ih _ _ h <;> omega
theorem Tr.get_mk (d:α): ∀(k n i:Nat),(Tr.mk d k n).get d i=d:=by
 intro k
 induction k with
 | zero=>intro n i;rfl
 | succ k ih=>
  intro n i
  cases n with
  | zero=>rfl
  | succ m=>
   cases i with
   | zero=>rfl
   | succ i=>rcases Nat.mod_two_eq_zero_or_one i with hi | hi <;> simp only [Tr.mk,Tr.get,hi] <;> exact ih _ _
theorem Tr.get_map {β:Type} (f:α→β) (d:α) (t:Tr α): ∀i,(t.map f).get (f d) i=f (t.get d i):=by
 induction t with
 | lf=>intro i;rfl
 | nd x l r ihl ihr=>
  intro i
  cases i with
  | zero=>rfl
  | succ i=>rcases Nat.mod_two_eq_zero_or_one i with hi | hi <;> simp only [Tr.map,Tr.get,hi] <;> first | exact ihl _ | exact ihr _
theorem Tr.has_map {β:Type} (f:α→β) (t:Tr α): ∀i,(t.map f).has i=t.has i:=by
 induction t with
 | lf=>intro i;rfl
 | nd x l r ihl ihr=>
  intro i
  cases i with
  | zero=>rfl
  | succ i=>rcases Nat.mod_two_eq_zero_or_one i with hi | hi <;> simp only [Tr.map,Tr.has,hi] <;> first | exact ihl _ | exact ihr _
end
inductive GE where
 | no
 | var (b:Nat)
 | sl (n sz:Nat) (loc:Option (Nat×Nat))
 | loop (b:Nat) (r:Loop)
 | mp (b:Nat)
def GE.blk:GE→Option Nat
 | .no=>none
 | .var b=>some b
 | .sl _ _ loc=>loc.map (·.1)
 | .loop b _=>some b
 | .mp b=>some b
structure Gh where
 S:Nat→Nat→Prop
 e:Nat→GE
inductive GE.le:GE→GE→Prop where
 | no (x:GE):GE.le .no x
 | same (x:GE):GE.le x x
 | grown {n m sz:Nat} {l l':Option (Nat×Nat)} (h:n<m):GE.le (.sl n sz l) (.sl m sz l')
theorem GE.le.trans {x y z:GE} (h:GE.le x y) (k:GE.le y z):GE.le x z:=by
 cases h with
 | no=>exact .no _
 | same=>exact k
 | grown h=>cases k with
  | same=>exact .grown h
  | grown h'=>exact .grown (Nat.lt_trans h h')
inductive Rd (g:Gh) (w:World):AV→Value→Prop where
 | any (v:Value):Rd g w .any v
 | unk (v:Value) (h:v.oneCell'=true):Rd g w .unk v
 | int (k:IntKind) (n:Int):Rd g w (.int k n) (.int k n)
 | bool (b:Bool):Rd g w (.bool b) (.bool b)
 | str (s:List UInt8):Rd g w (.str s) (.string ⟨s.toArray⟩)
 | agg (cs:List AV) (vs:Array Value) (hn:vs.size=cs.length) (h: ∀(i:Nat) (c:AV) (v:Value),cs[i]?=some c→vs[i]?=some v→Rd g w c v):Rd g w (.agg cs) (.agg vs)
 | tup (cs:List AV) (vs:Array Value) (hn:vs.size=cs.length) (h: ∀(i:Nat) (c:AV) (v:Value),cs[i]?=some c→vs[i]?=some v→Rd g w c v):Rd g w (.tup cs) (.tuple vs)
 | nilp:Rd g w .nilp (.pointer none)
 | ptr (k off b:Nat) (h:g.e k= .var b):Rd g w (.ptr k off) (.pointer (some ⟨b,off,none⟩))
 | sptr (k n i off m sz:Nat) (loc:Option (Nat×Nat)) (v:Value) (h1:v.oneCell'=true) (h:g.e k= .sl m sz loc) (hle:n≤m)
   (hv:n=m→(∃b cap,loc=some (b,cap)∧v= .pointer (some ⟨b,i*sz+off,none⟩))∨(loc=none∧n=0∧v= .pointer none)):Rd g w (.sptr k n i off) v
 | eptr (cs:List AV) (b off:Nat) (vals:Nat→Value) (hp: ∀(j:Nat) (x:AV),cs[j]?=some x→x.plain=true∧g.S b (off+j)∧w.cell? ⟨b,off+j,none⟩=some (vals j))
   (h: ∀(j:Nat) (x:AV),cs[j]?=some x→Rd g w x (vals j)):Rd g w (.eptr cs) (.pointer (some ⟨b,off,none⟩))
 | lst (nl:Option Bool) (sz:Nat) (es:List AV) (a:Option Addr) (cap b off:Nat) (vals:Nat→Nat→Value)
   (hnl: ∀x,nl=some x→a.isNone=x) (hnil:a=none→es= []∧cap=0) (hcap:es.length≤cap) (ha:es≠ []→a=some ⟨b,off,none⟩)
   (hp: ∀(i:Nat) (e:AV),es[i]?=some e→e.plain=true∧e.cells.length=sz)
   (hc: ∀(i j:Nat) (e x:AV),es[i]?=some e→e.cells[j]?=some x→g.S b (off+i*sz+j)∧w.cell? ⟨b,off+i*sz+j,none⟩=some (vals i j)∧(vals i j).oneCell'=true)
   (h: ∀(i j:Nat) (e x:AV),es[i]?=some e→e.cells[j]?=some x→Rd g w x (vals i j)):Rd g w (.lst nl sz es) (.slice a es.length cap)
 | cap0 (nl:Option Bool) (a:Option Addr) (hnl: ∀x,nl=some x→a.isNone=x):Rd g w (.cap0 nl) (.slice a 0 0)
 | osl (k n m sz:Nat) (loc:Option (Nat×Nat)) (v:Value) (h1:v.oneCell'=true) (h:g.e k= .sl m sz loc) (hle:n≤m)
   (hv:n=m→(∃b cap,loc=some (b,cap)∧v= .slice (some ⟨b,0,none⟩) n cap)∨(loc=none∧n=0∧v= .slice none 0 0)):Rd g w (.osl k n) v
 | osv (k n lo hi m sz:Nat) (loc:Option (Nat×Nat)) (v:Value) (h1:v.oneCell'=true) (h:g.e k= .sl m sz loc) (hle:n≤m)
   (hv:n=m→ ∃b cap a,loc=some (b,cap)∧v= .slice (some a) (hi-lo) (cap-lo)∧(a=⟨b,lo*sz,none⟩∨cap=lo)):Rd g w (.osv k n lo hi) v
 | fn (f:FuncId) (cs ds:List AV) (vs us:Array Value) (hn:vs.size=cs.length) (hm:us.size=ds.length)
   (h: ∀(i:Nat) (c:AV) (v:Value),cs[i]?=some c→vs[i]?=some v→Rd g w c v) (h': ∀(i:Nat) (c:AV) (v:Value),ds[i]?=some c→us[i]?=some v→Rd g w c v):Rd g w (.fn f cs ds) (.func (.func f) vs us)
 | nilf:Rd g w .nilf .nilFunc
 | ifc (b:Bool) (v:Value) (h:(b=false∧v= .nilIface)∨(b=true∧ ∃t p,v= .iface t p)):Rd g w (.ifc b) v
 | ifi (t:TypeId) (k:IntKind) (n:Int):Rd g w (.ifi t k n) (.iface t (.int k n))
 | yld (k b:Nat) (s:Site) (env:List AV) (r:Loop) (h:g.e k= .loop b r) (hs:r.params=s.ps∧r.assign=s.asg∧r.body=s.body∧s.nt≤r.tmps.size)
   (he: ∀(j i:Nat) (x:AV),posOf s.keep j=some i→env[i]?=some x→Rd g w x (r.tmps.getD j undef)):Rd g w (.yld k s env) (.func (.yield b) #[] #[])
 | mapv (k b:Nat) (h:g.e k= .mp b):Rd g w (.mapv k) (.map (some b))
 | itv (k b:Nat) (h:g.e k= .mp b):Rd g w (.itv k) (.pointer (some ⟨b,0,none⟩))
 | nilm:Rd g w .nilm (.map none)
structure Le (g:Gh) (w:World) (g':Gh) (w':World):Prop where
 S: ∀b o,g.S b o→g'.S b o
 cell: ∀b o,g.S b o→w'.cell? ⟨b,o,none⟩=w.cell? ⟨b,o,none⟩
 e: ∀k,GE.le (g.e k) (g'.e k)
theorem Le.refl (g:Gh) (w:World):Le g w g w:=⟨fun _ _ h=>h,fun _ _ _=>rfl,fun _=> .same _⟩
theorem Le.trans {g1 g2 g3:Gh} {w1 w2 w3:World} (h:Le g1 w1 g2 w2) (k:Le g2 w2 g3 w3):Le g1 w1 g3 w3:=
 ⟨fun _ _ x=>k.S _ _ (h.S _ _ x),fun b o x=>(k.cell b o (h.S b o x)).trans (h.cell b o x),fun i=>(h.e i).trans (k.e i)⟩
theorem Rd.mono {g g':Gh} {w w':World} (hl:Le g w g' w') {d:AV} {v:Value} (h:Rd g w d v):Rd g' w' d v:=by
 induction h with
 | any v=>exact .any v
 | unk v h=>exact .unk v h
 | int k n=>exact .int k n
 | bool b=>exact .bool b
 | str s=>exact .str s
 | agg cs vs hn _ ih=>exact .agg cs vs hn ih
 | tup cs vs hn _ ih=>exact .tup cs vs hn ih
 | nilp=>exact .nilp
 | ptr k off b h=>
  have:=hl.e k
  rw [h] at this
  refine .ptr k off b ?_
  generalize g'.e k=y at this
  cases this
  rfl
 | sptr k n i off m sz loc v h1 h hle hv=>
  have:=hl.e k
  rw [h] at this
  generalize hy:g'.e k=y at this
  cases this with
  | same=>exact .sptr k n i off m sz loc v h1 hy hle hv
  | grown hlt=>exact .sptr k n i off _ sz _ v h1 hy (by omega) (fun e=>by omega)
 | eptr cs b off vals hp _ ih=>exact .eptr cs b off vals (fun j x hx=>⟨(hp j x hx).1,hl.S _ _ (hp j x hx).2.1,(hl.cell _ _ (hp j x hx).2.1).trans (hp j x hx).2.2⟩) ih
 | lst nl sz es a cap b off vals hnl hnil hcap ha hp hc _ ih=>
  exact .lst nl sz es a cap b off vals hnl hnil hcap ha hp (fun i j e x he hx=>⟨hl.S _ _ (hc i j e x he hx).1,(hl.cell _ _ (hc i j e x he hx).1).trans (hc i j e x he hx).2.1,(hc i j e x he hx).2.2⟩) ih
 | cap0 nl a h=>exact .cap0 nl a h
 | osl k n m sz loc v h1 h hle hv=>
  have:=hl.e k
  rw [h] at this
  generalize hy:g'.e k=y at this
  cases this with
  | same=>exact .osl k n m sz loc v h1 hy hle hv
  | grown hlt=>exact .osl k n _ sz _ v h1 hy (by omega) (fun e=>by omega)
 | osv k n lo hi m sz loc v h1 h hle hv=>
  have:=hl.e k
  rw [h] at this
  generalize hy:g'.e k=y at this
  cases this with
  | same=>exact .osv k n lo hi m sz loc v h1 hy hle hv
  | grown hlt=>exact .osv k n lo hi _ sz _ v h1 hy (by omega) (fun e=>by omega)
 | fn f cs ds vs us hn hm _ _ ih ih'=>exact .fn f cs ds vs us hn hm ih ih'
 | nilf=>exact .nilf
 | ifc b v h=>exact .ifc b v h
 | ifi t k n=>exact .ifi t k n
 | yld k b s env r h hs _ ih=>
  have:=hl.e k
  rw [h] at this
  refine .yld k b s env r ?_ hs ih
  generalize g'.e k=y at this
  cases this
  rfl
 | mapv k b h=>
  have:=hl.e k
  rw [h] at this
  refine .mapv k b ?_
  generalize g'.e k=y at this
  cases this
  rfl
 | itv k b h=>
  have:=hl.e k
  rw [h] at this
  refine .itv k b ?_
  generalize g'.e k=y at this
  cases this
  rfl
 | nilm=>exact .nilm
theorem plainAll_get: ∀{cs:List AV} {i:Nat} {c:AV},plainAll cs=true→cs[i]?=some c→c.plain=true
 | [],i,c,_,h=>by cases h
 | v::r,0,c,hp,h=>by simp only [plainAll,Bool.and_eq_true] at hp;simp at h;rw [←h];exact hp.1
 | v::r,i+1,c,hp,h=>by simp only [plainAll,Bool.and_eq_true] at hp;simp at h;exact plainAll_get hp.2 h
theorem underAll_get {n:Nat}: ∀{cs:List AV} {i:Nat} {c:AV},underAll n cs=true→cs[i]?=some c→c.under n=true
 | [],i,c,_,h=>by cases h
 | v::r,0,c,hp,h=>by simp only [underAll,Bool.and_eq_true] at hp;simp at h;rw [←h];exact hp.1
 | v::r,i+1,c,hp,h=>by simp only [underAll,Bool.and_eq_true] at hp;simp at h;exact underAll_get hp.2 h
theorem flatAll_get: ∀{cs:List AV} {i:Nat} {c:AV},flatAll cs=true→cs[i]?=some c→c.flat=true
 | [],i,c,_,h=>by cases h
 | v::r,0,c,hp,h=>by simp only [flatAll,Bool.and_eq_true] at hp;simp at h;rw [←h];exact hp.1
 | v::r,i+1,c,hp,h=>by simp only [flatAll,Bool.and_eq_true] at hp;simp at h;exact flatAll_get hp.2 h
theorem Rd.of_plain {g g':Gh} {w w':World} (hS: ∀b o,g.S b o→g'.S b o) (hc: ∀b o,g.S b o→w'.cell? ⟨b,o,none⟩=w.cell? ⟨b,o,none⟩) {d:AV} {v:Value} (h:Rd g w d v):
  d.plain=true→Rd g' w' d v:=by
 induction h with
 | any v=>exact fun _=> .any v
 | unk v h=>exact fun _=> .unk v h
 | int k n=>exact fun _=> .int k n
 | bool b=>exact fun _=> .bool b
 | str s=>exact fun _=> .str s
 | agg cs vs hn _ ih=>exact fun hp=> .agg cs vs hn (fun i c v hc hv=>ih i c v hc hv (plainAll_get (by simpa only [AV.plain] using hp) hc))
 | tup cs vs hn _ ih=>exact fun hp=> .tup cs vs hn (fun i c v hc hv=>ih i c v hc hv (plainAll_get (by simpa only [AV.plain] using hp) hc))
 | nilp=>exact fun _=> .nilp
 | ptr k off b h=>intro hp;simp [AV.plain] at hp
 | sptr k n i off m sz loc v h1 h hle hv=>intro hp;simp [AV.plain] at hp
 | eptr cs b off vals hp _ ih=>exact fun _=> .eptr cs b off vals (fun j x hx=>⟨(hp j x hx).1,hS _ _ (hp j x hx).2.1,(hc _ _ (hp j x hx).2.1).trans (hp j x hx).2.2⟩) (fun j x hx=>ih j x hx (hp j x hx).1)
 | lst nl sz es a cap b off vals hnl hnil hcap ha hp hc' _ ih=>
  refine fun _=> .lst nl sz es a cap b off vals hnl hnil hcap ha hp (fun i j e x he hx=>⟨hS _ _ (hc' i j e x he hx).1,(hc _ _ (hc' i j e x he hx).1).trans (hc' i j e x he hx).2.1,(hc' i j e x he hx).2.2⟩) (fun i j e x he hx=>ih i j e x he hx ?_)
  have:=(hp i e he).1
  cases e <;> simp only [AV.cells] at hx <;> first
   | (simp only [AV.plain] at this;exact plainAll_get this hx)
   | (cases j with
      | zero => simp at hx; rw [← hx]; exact this
      | succ j => simp at hx)
 | cap0 nl a h=>exact fun _=> .cap0 nl a h
 | osl k n m sz loc v h1 h hle hv=>intro hp;simp [AV.plain] at hp
 | osv k n lo hi m sz loc v h1 h hle hv=>intro hp;simp [AV.plain] at hp
 | fn f cs ds vs us hn hm _ _ ih ih'=>
  intro hp
  simp only [AV.plain,Bool.and_eq_true] at hp
  exact .fn f cs ds vs us hn hm (fun i c v hc hv=>ih i c v hc hv (plainAll_get hp.1 hc)) (fun i c v hc hv=>ih' i c v hc hv (plainAll_get hp.2 hc))
 | nilf=>exact fun _=> .nilf
 | ifc b v h=>exact fun _=> .ifc b v h
 | ifi t k n=>exact fun _=> .ifi t k n
 | yld k b s env r h hs _ _=>intro hp;simp [AV.plain] at hp
 | mapv k b h=>intro hp;simp [AV.plain] at hp
 | itv k b h=>intro hp;simp [AV.plain] at hp
 | nilm=>exact fun _=> .nilm
theorem Rd.of_flat {g g':Gh} {w w':World} {d:AV} {v:Value} (h:Rd g w d v):d.flat=true→Rd g' w' d v:=by
 induction h with
 | any v=>exact fun _=> .any v
 | unk v h=>exact fun _=> .unk v h
 | int k n=>exact fun _=> .int k n
 | bool b=>exact fun _=> .bool b
 | str s=>exact fun _=> .str s
 | agg cs vs hn _ ih=>exact fun hp=> .agg cs vs hn (fun i c v hc hv=>ih i c v hc hv (flatAll_get (by simpa only [AV.flat] using hp) hc))
 | tup cs vs hn _ ih=>exact fun hp=> .tup cs vs hn (fun i c v hc hv=>ih i c v hc hv (flatAll_get (by simpa only [AV.flat] using hp) hc))
 | nilp=>exact fun _=> .nilp
 | ptr k off b h=>intro hp;simp [AV.flat] at hp
 | sptr k n i off m sz loc v h1 h hle hv=>intro hp;simp [AV.flat] at hp
 | eptr cs b off vals hp _ ih=>intro hp;simp [AV.flat] at hp
 | lst nl sz es a cap b off vals hnl hnil hcap ha hp hc' _ ih=>intro hp;simp [AV.flat] at hp
 | cap0 nl a h=>intro hp;simp [AV.flat] at hp
 | osl k n m sz loc v h1 h hle hv=>intro hp;simp [AV.flat] at hp
 | osv k n lo hi m sz loc v h1 h hle hv=>intro hp;simp [AV.flat] at hp
 | fn f cs ds vs us hn hm _ _ ih ih'=>
  intro hp
  simp only [AV.flat,Bool.and_eq_true] at hp
  exact .fn f cs ds vs us hn hm (fun i c v hc hv=>ih i c v hc hv (flatAll_get hp.1 hc)) (fun i c v hc hv=>ih' i c v hc hv (flatAll_get hp.2 hc))
 | nilf=>exact fun _=> .nilf
 | ifc b v h=>exact fun _=> .ifc b v h
 | ifi t k n=>exact fun _=> .ifi t k n
 | yld k b s env r h hs _ _=>intro hp;simp [AV.flat] at hp
 | mapv k b h=>intro hp;simp [AV.flat] at hp
 | itv k b h=>intro hp;simp [AV.flat] at hp
 | nilm=>exact fun _=> .nilm
def Gh.cut (g:Gh) (n:Nat):Gh:={S:=g.S,e:=fun k=>if k<n then g.e k else .no}
theorem Rd.cut {g:Gh} {w:World} (n:Nat) {d:AV} {v:Value} (h:Rd g w d v):d.under n=true→Rd (g.cut n) w d v:=by
 induction h with
 | any v=>exact fun _=> .any v
 | unk v h=>exact fun _=> .unk v h
 | int k n=>exact fun _=> .int k n
 | bool b=>exact fun _=> .bool b
 | str s=>exact fun _=> .str s
 | agg cs vs hn _ ih=>exact fun hp=> .agg cs vs hn (fun i c v hc hv=>ih i c v hc hv (underAll_get (by simpa only [AV.under] using hp) hc))
 | tup cs vs hn _ ih=>exact fun hp=> .tup cs vs hn (fun i c v hc hv=>ih i c v hc hv (underAll_get (by simpa only [AV.under] using hp) hc))
 | nilp=>exact fun _=> .nilp
 | ptr k off b h=>intro hp;simp [AV.under] at hp;exact .ptr k off b (by simp [Gh.cut,hp,h])
 | sptr k n i off m sz loc v h1 h hle hv=>intro hp;simp [AV.under] at hp;exact .sptr k n i off m sz loc v h1 (by simp [Gh.cut,hp,h]) hle hv
 | eptr cs b off vals hp h _=>exact fun _=> .eptr cs b off vals hp (fun j x hx=>(h j x hx).of_plain (g:=g) (g':=g.cut n) (w:=w) (w':=w) (fun _ _ h=>h) (fun _ _ _=>rfl) (hp j x hx).1)
 | lst nl sz es a cap b off vals hnl hnil hcap ha hp hc' h ih=>
  intro _
  exact (Rd.lst nl sz es a cap b off vals hnl hnil hcap ha hp hc' h).of_plain (g:=g) (g':=g.cut n) (w:=w) (w':=w) (fun _ _ h=>h) (fun _ _ _=>rfl) rfl
 | cap0 nl a h=>exact fun _=> .cap0 nl a h
 | osl k n m sz loc v h1 h hle hv=>intro hp;simp [AV.under] at hp;exact .osl k n m sz loc v h1 (by simp [Gh.cut,hp,h]) hle hv
 | osv k n lo hi m sz loc v h1 h hle hv=>intro hp;simp [AV.under] at hp;exact .osv k n lo hi m sz loc v h1 (by simp [Gh.cut,hp,h]) hle hv
 | fn f cs ds vs us hn hm _ _ ih ih'=>
  intro hp
  simp only [AV.under,Bool.and_eq_true] at hp
  exact .fn f cs ds vs us hn hm (fun i c v hc hv=>ih i c v hc hv (underAll_get hp.1 hc)) (fun i c v hc hv=>ih' i c v hc hv (underAll_get hp.2 hc))
 | nilf=>exact fun _=> .nilf
 | ifc b v h=>exact fun _=> .ifc b v h
 | ifi t k n=>exact fun _=> .ifi t k n
 | yld k b s env r h hs _ ih=>
  intro hp
  simp only [AV.under,Bool.and_eq_true,decide_eq_true_eq] at hp
  exact .yld k b s env r (by simp [Gh.cut,hp.1,h]) hs (fun j i x hj hx=>ih j i x hj hx (underAll_get hp.2 hx))
 | mapv k b h=>intro hp;simp [AV.under] at hp;exact .mapv k b (by simp [Gh.cut,hp,h])
 | itv k b h=>intro hp;simp [AV.under] at hp;exact .itv k b (by simp [Gh.cut,hp,h])
 | nilm=>exact fun _=> .nilm
theorem Rd.one {g:Gh} {w:World} {d:AV} {v:Value} (h:Rd g w d v) (hd:d.isCell=true):v.oneCell'=true:=by
 cases h <;> first | rfl | assumption | (simp [AV.isCell] at hd;done) | (rename_i h;rcases h with ⟨_,rfl⟩ | ⟨_,_,_,rfl⟩ <;> rfl)
theorem Rd.forget {g:Gh} {w:World} (n:Nat) {d:AV} {v:Value} (h:Rd g w d v):Rd (g.cut n) w (forget n d) v:=by
 unfold Am.forget
 cases hu:d.under n with
 | true=>exact h.cut n hu
 | false=>exact .any v
end Go.Am
