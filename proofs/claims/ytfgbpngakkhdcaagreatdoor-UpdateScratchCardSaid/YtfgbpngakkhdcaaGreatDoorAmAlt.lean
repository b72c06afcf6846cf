/- A region whose order is drawn and that puts two entries into one map, either one first: -/
import Derived.Test.YtfgbpngakkhdcaaGreatDoorAmDraw
open Array renaming all_eq_true_iff_forall_mem->abe,getD_eq_getD_getElem?->abf,getElem?_eq_none->abg,getElem?_setIfInBounds->abh,getElem?_setIfInBounds_ne->abi
open Bool renaming and_eq_true->abj,not_eq_true'->aax
open List renaming eq_nil_iff_forall_not_mem->abk,mem_map->aaS,mem_range->abl
open Nat renaming lt_or_ge->abm
open Option renaming getD_some->abn,map_some->aa1
set_option linter.all false
namespace Go.Am
def yR (o:Oper) (l:List Edge):Oper:=⟨o.dst,o.op,o.type,o.pos,l.toArray,o.guard⟩
def HV (σ:Nat->Nat) (l:List Edge):List Edge:=l.map fun e=>⟨σ e.on,e.ground⟩
def sg (i j k:Nat):Nat:=if k<i then k else if k=i then j else if k<=j then k-1 else k
def ta (i j p:Nat):Nat:=if p<i then p else if p<j then p+1 else if p=j then i else p
def fc (σ τ:Nat->Nat) (x y:Nat) (ops:Array Oper):Array Oper:=
 ((List.range ops.size).map fun p=>yR (ops.getD (τ p) default) (if τ p=y then ⟨σ x,.data⟩::HV σ (ops.getD (τ p) default).after.toList else HV σ (ops.getD (τ p) default).after.toList)).toArray
def oW:Op->Bool
 | .move _ | .assign _ | .build .. | .makeMap .. | .insert .. | .load .. | .fieldAddr .. | .indexAddr .. | .binOp .. | .unOp .. | .convert .. | .buildSlice .. | .extract .. | .alloc _ | .box .. | .field .. | .index .. | .store .. | .slice .. =>true
 | _=>false
def J4:List Oper->Nat->List Nat
 | [],_=> []
 | o::r,k=>match o.op with
  | .insert .. =>k::J4 r (k+1)
  | _=>J4 r (k+1)
def J5 (ops:Array Oper) (i j k:Nat):Bool:=match ops[k]? with
 | some o=>o.guard.isNone&&(oW o.op || ordered (fo ops) i k || ordered (fo ops) j k || k==i || k==j)
 | none=>true
def J6 (ops:Array Oper) (i j:Nat):Bool:=decide (i<j)&&decide (j<ops.size)&&((List.range ops.size).all fun k=>J5 ops i j k)&&cZ ops.toList 0
structure yS (ops ops':Array Oper) (σ:Nat->Nat) (x y:Nat):Prop where
 size:ops'.size=ops.size
 lt: ∀k,k<ops.size->σ k<ops.size
 inj: ∀k l,k<ops.size->l<ops.size->σ k=σ l->k=l
 QS: ∀p,p<ops.size-> ∃k,k<ops.size∧σ k=p
 at_: ∀k o,ops[k]?=some o->ops'[σ k]?=some (yR o (if k=y then ⟨σ x,.data⟩::HV σ o.after.toList else HV σ o.after.toList))
 Zb:x<ops.size
theorem Pq {σ τ:Nat->Nat} {x y:Nat} {ops:Array Oper} (h1: ∀k,k<ops.size->σ k<ops.size∧τ (σ k)=k) (h2: ∀p,p<ops.size->τ p<ops.size∧σ (τ p)=p) (hx:x<ops.size):yS ops (fc σ τ x y ops) σ x y where
 size:=by simp [fc]
 lt:=fun k hk=>(h1 k hk).1
 inj:=fun k l hk hl h=>by rw [<-(h1 k hk).2,<-(h1 l hl).2,h]
 QS:=fun p hp=>⟨τ p,(h2 p hp).1,(h2 p hp).2⟩
 at_:=fun k o ho=>by
  have hk:k<ops.size:=by
   rcases abm k ops.size with h | h
   ·exact h
   ·rw [abg h] at ho;cases ho
  obtain ⟨h3,h4⟩:=h1 k hk;have hg:ops.getD k default=o:=by rw [abf,ho];rfl
  unfold fc;rw [List.getElem?_toArray,List.getElem?_map,List.getElem?_range h3];simp only [aa1,h4,hg]
 Zb:=hx
theorem Vt {i j n:Nat} (hij:i<j) (hj:j<n):(∀k,k<n->sg i j k<n∧ta i j (sg i j k)=k)∧ ∀p,p<n->ta i j p<n∧sg i j (ta i j p)=p:=by
 constructor
 ·intro k hk;unfold sg ta;refine ⟨?_,?_⟩
  ·repeat' split
   all_goals omega
  ·repeat' split
   all_goals omega
 ·intro p hp;unfold sg ta;refine ⟨?_,?_⟩
  ·repeat' split
   all_goals omega
  ·repeat' split
   all_goals omega
structure Rl (σ:Nat->Nat) (n:Nat) (l l':Array Bool):Prop where
 s1:l.size=n
 s2:l'.size=n
 same: ∀k,k<n->l'.getD (σ k) true=l.getD k true
theorem s9 {l:Array Bool} {k:Nat} (h:k<l.size) (a b:Bool):l.getD k a=l.getD k b:=by simp [abf,h]
theorem Rl.put {σ:Nat->Nat} {n:Nat} {l l':Array Bool} (h:Rl σ n l l') (hinj: ∀a b,a<n->b<n->σ a=σ b->a=b) {k:Nat} (hk:k<n):Rl σ n (l.setIfInBounds k true) (l'.setIfInBounds (σ k) true):=by
 refine ⟨by simp [h.s1],by simp [h.s2],fun q hq=> ?_⟩;have hs:=h.same q hq;by_cases e:q=k
 ·subst e;simp only [abf,abh] at hs⊢;simp only [if_pos];have:q<l.size:=by rw [h.s1];exact hq
  simp [this];split <;> rfl
 ·have e2:σ q≠σ k:=fun hh=>e (hinj q k hq hk hh);simp only [abf] at hs⊢;rw [abi (Ne.symm e2),abi (Ne.symm e)];exact hs
theorem wA {l:Array Bool} {k x:Nat} (h:l.getD x true=true):(l.setIfInBounds k true).getD x true=true:=by
 by_cases e:x=k
 ·subst e;simp [abf,abh];split <;> rfl
 ·simp only [abf] at h⊢;rw [abi (Ne.symm e)];exact h
theorem Ch {l:Array Bool} {k:Nat}:(l.setIfInBounds k true).getD k true=true:=by simp [abf,abh];split <;> rfl
theorem ES {l:Array Bool} {k x:Nat} (e:x≠k):(l.setIfInBounds k true).getD x true=l.getD x true:=by simp only [abf];rw [abi (Ne.symm e)]
theorem eu {ops:Array Oper} {l:Array Bool} {k:Nat}:k∈Region.ready .any ops l↔ ∃o,ops[k]?=some o∧l.getD k true=false∧ ∀e∈o.after.toList,Region.binds .any e=true->l.getD e.on false=true:=by
 unfold Region.ready;rw [List.mem_filter,abl];constructor
 ·rintro ⟨h1,h2⟩;have ho:ops[k]?=some ops[k]:=by simp [h1]
  rw [ho] at h2;simp only [abj,aax,aa1,abn,abe] at h2;refine ⟨_,ho,h2.1,fun e he hb=> ?_⟩;have:=h2.2 e (by simpa using he);rw [hb] at this;simpa using this
 ·rintro ⟨o,ho,h2,h3⟩
  have h1:k<ops.size:=by
   rcases abm k ops.size with h | h
   ·exact h
   ·rw [abg h] at ho;cases ho
  refine ⟨h1,?_⟩;rw [ho];simp only [abj,aax,aa1,abn,abe];refine ⟨h2,fun e he=> ?_⟩;cases hb:Region.binds .any e with
  | false=>rfl
  | true=>have:=h3 e (by simpa using he) hb;simpa using this
section
variable {ops ops':Array Oper} {σ:Nat->Nat} {x y:Nat}
theorem uw {k:Nat} {o:Oper} (ho:ops[k]?=some o):k<ops.size:=by
 rcases abm k ops.size with h | h
 ·exact h
 ·rw [abg h] at ho;cases ho
theorem Az (hb:cZ ops.toList 0=true) {k:Nat} {o:Oper} (ho:ops[k]?=some o) {e:Edge} (he:e∈o.after.toList) (hbi:Region.binds .any e=true):e.on<ops.size:=by have hk:=uw ho;have h:=ia ops.toList 0 k o hb (by simpa using ho) e (by simpa using he) hbi;omega
theorem gh (h:yS ops ops' σ x y) (hb:cZ ops.toList 0=true) {l l':Array Bool} (hr:Rl σ ops.size l l') {k:Nat} (hk:k<ops.size):σ k∈Region.ready .any ops' l'↔k∈Region.ready .any ops l∧(k=y->l.getD x true=true):=by
 have ho:ops[k]?=some ops[k]:=by simp [hk]
 have ha:=h.at_ k _ ho
 have hg: ∀q,q<ops.size->l'.getD (σ q) false=l.getD q true:=fun q hq=>by
  rw [s9 (by rw [hr.s2];exact h.lt q hq) false true,hr.same q hq]
 have hg2: ∀q,q<ops.size->l.getD q false=l.getD q true:=fun q hq=>s9 (by rw [hr.s1];exact hq) _ _;rw [eu,eu];constructor
 ·rintro ⟨o',h1,h2,h3⟩;rw [ha] at h1;cases h1;rw [hr.same k hk] at h2;refine ⟨⟨_,ho,h2,fun e he hbi=> ?_⟩,fun hky=> ?_⟩
  ·have hlt:=Az hb ho he hbi;have hin:(⟨σ e.on,e.ground⟩:Edge)∈HV σ ops[k].after.toList:=aaS.mpr ⟨e,he,rfl⟩
   have:=h3 ⟨σ e.on,e.ground⟩ (by
    simp only [yR];split
    ·exact List.mem_cons_of_mem _ hin
    ·exact hin) hbi
   rw [hg _ hlt] at this;rw [hg2 _ hlt];exact this
  ·have:=h3 ⟨σ x,.data⟩ (by simp only [yR,if_pos hky];exact List.mem_cons_self ..) rfl;rw [hg _ h.Zb] at this;exact this
 ·rintro ⟨⟨o,h1,h2,h3⟩,h4⟩;rw [ho] at h1;cases h1;refine ⟨_,ha,by rw [hr.same k hk];exact h2,fun e he hbi=> ?_⟩
  have old:e∈HV σ ops[k].after.toList->l'.getD e.on false=true:=fun hin=>by
   obtain ⟨e0,he0,rfl⟩:=aaS.1 hin;have hlt:=Az hb ho he0 hbi;rw [hg _ hlt,<-hg2 _ hlt];exact h3 e0 he0 hbi
  simp only [yR] at he;split at he
  ·rename_i hky;rcases List.mem_cons.1 he with rfl | hin
   ·rw [hg _ h.Zb];exact h4 hky
   ·exact old hin
  ·exact old he
variable {F:Fence} {n:Nat} {P:Program} {Q:Exit->Act->World->Prop}
theorem ET (h:yS ops ops' σ x y) (hg: ∀o∈ops.toList,o.guard=none) {k:Nat} (hk:k<ops.size) {K:Act->World->Prop} {a:Act} {w:World} (hw:wpOpIn F n P ops' Q (σ k) K a w):wpOpIn F n P ops Q k K a w:=by
 have ho:ops[k]?=some ops[k]:=by simp [hk]
 have hgu:ops[k].guard=none:=hg _ (by simp);unfold wpOpIn at hw⊢;rw [h.at_ k _ ho] at hw;rw [ho];simp only [Region.wanted,yR,hgu,if_true] at hw⊢;exact hw
theorem GN (h:yS ops ops' σ x y) (hb:cZ ops.toList 0=true) (hg: ∀o∈ops.toList,o.guard=none): ∀(fuel:Nat) (l l':Array Bool) (a:Act) (w:World),Rl σ ops.size l l'->l.getD x true=true->
  wpAnyIn F n P .any ops' Q fuel l' a w->wpAnyIn F n P .any ops Q fuel l a w:=by
 intro fuel
 induction fuel with
 | zero=>intro l l' a w hr hx hw;refine ⟨abk.2 fun k hk=> ?_,hw.2⟩;have hks:=uw (eu.1 hk).choose_spec.1;have:=(gh h hb hr hks).2 ⟨hk,fun _=>hx⟩;rw [hw.1] at this;cases this
 | succ fuel ih=>
  intro l l' a w hr hx hw;refine ⟨fun he=>hw.1 (abk.2 fun p hp=> ?_),fun k hk=> ?_⟩
  ·have hps:=uw (eu.1 hp).choose_spec.1;rw [h.size] at hps;obtain ⟨k,hk,rfl⟩:=h.QS p hps;have:=((gh h hb hr hk).1 hp).1;rw [he] at this;cases this
  ·have hks:=uw (eu.1 hk).choose_spec.1;have h1:=hw.2 (σ k) ((gh h hb hr hks).2 ⟨hk,fun _=>hx⟩);exact ET h hg hks (wpOpIn_mono (fun a' w' h2=>ih _ _ a' w' (hr.put h.inj hks) (wA hx) h2) h1)
end
theorem Vu {P:Program} {s:Sem Value} {w:World}:(do let x<-s;pure (Next.value x):Sem Next).run P w=match s.run P w with
  | .ok x w'=> .ok (.value x) w'
  | .halt h w'=> .halt h w':=by
 rw [Sem.run_bind];cases s.run P w <;> rfl
theorem Vv {P:Program} {s:Sem Unit} {w:World}:(do s;pure Next.skip:Sem Next).run P w=match s.run P w with
  | .ok _ w'=> .ok .skip w'
  | .halt h w'=> .halt h w':=by
 rw [Sem.run_bind];cases s.run P w <;> rfl
section
variable {F:Fence} {n:Nat} {P:Program} {Q:Exit->Act->World->Prop}
theorem J7 {o:Oper} {a:Act} {K1 K2:Act->World->Prop} {r:Result Next} (hr: ∀x w',r= .ok x w'->(∃v,x= .value v)∨x= .skip) (h1:o.uponIn F n P a K1 Q r) (h2:o.uponIn F n P a K2 Q r):o.uponIn F n P a (fun a w=>K1 a w∧K2 a w) Q r:=by
 cases r with
 | ok x w'=>
  rcases hr x w' rfl with ⟨v,rfl⟩ | rfl
  ·exact ⟨h1,h2⟩
  ·exact ⟨h1,h2⟩
 | halt x w'=>cases x <;> first | exact h1 | exact absurd h1 (by simp [Oper.uponIn])
theorem HW {o:Oper} (hq:oW o.op=true) {a:Act} {w:World} {K1 K2:Act->World->Prop} (h1:o.wpIn F n P a w K1 Q) (h2:o.wpIn F n P a w K2 Q):o.wpIn F n P a w (fun a w=>K1 a w∧K2 a w) Q:=by
 refine ⟨h1.1,J7 ?_ h1.2 h2.2⟩;intro x w' hx;rw [Oper.semAt_eq _ _ _ (by intro c hc;rw [hc] at hq;cases hq)] at hx;unfold execOp at hx;cases ho:o.op <;> rw [ho] at hq hx <;> try cases hq
 all_goals
  simp only at hx
  first
  | (cases hx;exact .inl ⟨_,rfl⟩)
  | (rw [Vu] at hx;split at hx <;> cases hx;exact .inl ⟨_,rfl⟩)
  | (rw [Vv] at hx;split at hx <;> cases hx;exact .inr rfl)
end
section
variable {F:Fence} {n:Nat} {P:Program} {Q:Exit->Act->World->Prop} {ops o1 o2:Array Oper} {σ1 σ2:Nat->Nat} {i j:Nat}
theorem J8 (hg: ∀o∈ops.toList,o.guard=none) {k:Nat} {o:Oper} (ho:ops[k]?=some o) (hqu:oW o.op=true) {K1 K2:Act->World->Prop} {a:Act} {w:World} (h1:wpOpIn F n P ops Q k K1 a w) (h2:wpOpIn F n P ops Q k K2 a w):wpOpIn F n P ops Q k (fun a w=>K1 a w∧K2 a w) a w:=by have hgu:o.guard=none:=hg _ (Array.mem_toList_iff.mpr (Array.mem_of_getElem? ho));unfold wpOpIn at h1 h2⊢;rw [ho] at h1 h2⊢;simp only [Region.wanted,hgu,if_true] at h1 h2⊢;exact HW hqu h1 h2
def wB (ops:Array Oper) (l:Array Bool):Prop:= ∀k x,k<ops.size->l.getD k true=true->ordered (fo ops) x k=true->l.getD x true=true
theorem nU (hb:cZ ops.toList 0=true) {l:Array Bool} (hs:l.size=ops.size) (hc:wB ops l) {k x:Nat} (hk:k∈Region.ready .any ops l) (hx:ordered (fo ops) x k=true):l.getD x true=true:=by
 obtain ⟨o,ho,_,h3⟩:=eu.1 hk;obtain ⟨e,he,hbi,h4⟩:=mC hb ho hx;have he2:e∈o.after.toList:=by simpa using he
 have hlt:=Az hb ho he2 hbi;have hl:=h3 e he2 hbi;rw [s9 (by rw [hs];exact hlt) false true] at hl;rcases h4 with rfl | h4
 ·exact hl
 ·exact hc e.on x hlt hl h4
theorem wB.put (hb:cZ ops.toList 0=true) {l:Array Bool} (hs:l.size=ops.size) (hc:wB ops l) {k:Nat} (hk:k∈Region.ready .any ops l):wB ops (l.setIfInBounds k true):=fun q x hq hlq hx=>by
 by_cases e:q=k
 ·subst e;exact wA (nU hb hs hc hk hx)
 ·rw [ES e] at hlq;exact wA (hc q x hq hlq hx)
theorem M9 (hij:i≠j) (h1:yS ops o1 σ1 i j) (h2:yS ops o2 σ2 j i) (hb:cZ ops.toList 0=true) (hg: ∀o∈ops.toList,o.guard=none) (hq: ∀k o,ops[k]?=some o->oW o.op=true∨ordered (fo ops) i k=true∨ordered (fo ops) j k=true∨k=i∨k=j): ∀(fuel:Nat) (l l1 l2:Array Bool) (a:Act) (w:World),wB ops l->Rl σ1 ops.size l l1->Rl σ2 ops.size l l2->l.getD i true=false->l.getD j true=false->
  wpAnyIn F n P .any o1 Q fuel l1 a w->wpAnyIn F n P .any o2 Q fuel l2 a w->wpAnyIn F n P .any ops Q fuel l a w:=by
 intro fuel
 induction fuel with
 | zero=>
  intro l l1 l2 a w hcl r1 r2 hi hj w1 w2;refine ⟨abk.2 fun k hk=> ?_,w1.2⟩;have hks:=uw (eu.1 hk).choose_spec.1;by_cases e:k=j
  ·have:=(gh h2 hb r2 hks).2 ⟨hk,fun e2=>absurd (e2.symm.trans e) hij⟩;rw [w2.1] at this;cases this
  ·have:=(gh h1 hb r1 hks).2 ⟨hk,fun e2=>absurd e2 e⟩;rw [w1.1] at this;cases this
 | succ fuel ih=>
  intro l l1 l2 a w hcl r1 r2 hi hj w1 w2;refine ⟨fun he=>w1.1 (abk.2 fun p hp=> ?_),fun k hk=> ?_⟩
  ·have hps:=uw (eu.1 hp).choose_spec.1;rw [h1.size] at hps;obtain ⟨k,hk,rfl⟩:=h1.QS p hps;have:=((gh h1 hb r1 hk).1 hp).1;rw [he] at this;cases this
  ·have hks:=uw (eu.1 hk).choose_spec.1;have k1:k≠j->wpOpIn F n P ops Q k (wpAnyIn F n P .any o1 Q fuel (l1.setIfInBounds (σ1 k) true)) a w:=fun e=>ET h1 hg hks (w1.2 (σ1 k) ((gh h1 hb r1 hks).2 ⟨hk,fun e2=>absurd e2 e⟩));have k2:k≠i->wpOpIn F n P ops Q k (wpAnyIn F n P .any o2 Q fuel (l2.setIfInBounds (σ2 k) true)) a w:=fun e=>ET h2 hg hks (w2.2 (σ2 k) ((gh h2 hb r2 hks).2 ⟨hk,fun e2=>absurd e2 e⟩));by_cases e1:k=i
   ·subst e1;exact wpOpIn_mono (fun a' w' h3=>GN h1 hb hg fuel _ _ a' w' (r1.put h1.inj hks) Ch h3) (k1 hij)
   by_cases e2:k=j
   ·subst e2;exact wpOpIn_mono (fun a' w' h3=>GN h2 hb hg fuel _ _ a' w' (r2.put h2.inj hks) Ch h3) (k2 (Ne.symm hij))
   have ho:ops[k]?=some ops[k]:=by simp [hks]
   have hqu:oW ops[k].op=true:=by
    rcases hq k _ ho with q | q | q | q | q
    ·exact q
    ·rw [nU hb r1.s1 hcl hk q] at hi;cases hi
    ·rw [nU hb r1.s1 hcl hk q] at hj;cases hj
    ·exact absurd q e1
    ·exact absurd q e2
   refine wpOpIn_mono (fun a' w' h3=> ?_) (J8 hg ho hqu (k1 e2) (k2 e1));exact ih _ _ _ a' w' (hcl.put hb r1.s1 hk) (r1.put h1.inj hks) (r2.put h2.inj hks) (by rw [ES (Ne.symm e1)];exact hi) (by rw [ES (Ne.symm e2)];exact hj) h3.1 h3.2
theorem Na (ho:J6 ops i j=true) {a:Act} {w:World} (w1:wpAnyIn F n P .any (fc id id i j ops) Q (fc id id i j ops).size (Array.replicate (fc id id i j ops).size false) a w)
  (w2:wpAnyIn F n P .any (fc (sg i j) (ta i j) j i ops) Q (fc (sg i j) (ta i j) j i ops).size (Array.replicate (fc (sg i j) (ta i j) j i ops).size false) a w):wpAnyIn F n P .any ops Q ops.size (Array.replicate ops.size false) a w:=by
 simp only [J6,abj,decide_eq_true_eq,List.all_eq_true,abl] at ho;obtain ⟨⟨⟨hij,hj⟩,hall⟩,hb⟩:=ho
 have hfit: ∀k o,ops[k]?=some o->o.guard=none∧(oW o.op=true∨ordered (fo ops) i k=true∨ordered (fo ops) j k=true∨k=i∨k=j):=fun k o hk=>by
  have h:=hall k (uw hk);unfold J5 at h;rw [hk] at h;simp only [abj,Bool.or_eq_true,beq_iff_eq,Option.isNone_iff_eq_none] at h;refine ⟨h.1,?_⟩;rcases h.2 with (((q | q) | q) | q) | q
  ·exact .inl q
  ·exact .inr (.inl q)
  ·exact .inr (.inr (.inl q))
  ·exact .inr (.inr (.inr (.inl q)))
  ·exact .inr (.inr (.inr (.inr q)))
 have s1:(fc id id i j ops).size=ops.size:=by simp [fc]
 have s2:(fc (sg i j) (ta i j) j i ops).size=ops.size:=by simp [fc]
 rw [s1] at w1;rw [s2] at w2
 have hr: ∀σ:Nat->Nat,(∀k,k<ops.size->σ k<ops.size)->Rl σ ops.size (Array.replicate ops.size false) (Array.replicate ops.size false):=fun σ hσ=>⟨by simp,by simp,fun k hk=>by
  have:=hσ k hk;simp [abf,hk,this]⟩
 have g1:=Vt hij hj;have hf: ∀q,q<ops.size->(Array.replicate ops.size false).getD q true=false:=fun q hq=>by simp [abf,hq]
 exact M9 (Nat.ne_of_lt hij) (Pq (fun k hk=>⟨hk,rfl⟩) (fun k hk=>⟨hk,rfl⟩) (by omega)) (Pq g1.1 g1.2 hj) hb (fun o ho=>by
   obtain ⟨k,hk,rfl⟩:=List.getElem_of_mem ho;exact (hfit k _ (by simp at hk⊢)).1) (fun k o hk=>(hfit k o hk).2)
  ops.size _ _ _ a w (fun k x hk hlk _=>by rw [hf k hk] at hlk;cases hlk) (hr id fun k hk=>hk) (hr _ fun k hk=>(g1.1 k hk).1) (hf i (by omega)) (hf j hj) w1 w2
end
end Go.Am
