/- A region whose order is drawn and that puts two entries into one map, either one first: -/
import Derived.Test.YtnlndhjfmghajaaGreatDoorAmDraw
set_option linter.all false
namespace Go.Am
def withE (o:Oper) (l:List Edge):Oper:=⟨o.dst,o.op,o.type,o.pos,l.toArray,o.guard⟩
def mapE (σ:Nat→Nat) (l:List Edge):List Edge:=l.map fun e=>⟨σ e.on,e.ground⟩
def sg (i j k:Nat):Nat:=if k<i then k else if k=i then j else if k≤j then k-1 else k
def ta (i j p:Nat):Nat:=if p<i then p else if p<j then p+1 else if p=j then i else p
def altOps (σ τ:Nat→Nat) (x y:Nat) (ops:Array Oper):Array Oper:=
 ((List.range ops.size).map fun p=>withE (ops.getD (τ p) default) (if τ p=y then ⟨σ x,.data⟩::mapE σ (ops.getD (τ p) default).after.toList else mapE σ (ops.getD (τ p) default).after.toList)).toArray
def quietOp:Op→Bool
 | .move _ | .assign _ | .build .. | .makeMap .. | .insert .. | .load .. | .fieldAddr .. | .indexAddr .. | .binOp .. | .unOp .. | .convert .. | .buildSlice .. | .extract .. | .alloc _ | .box .. | .field .. | .index .. | .store .. | .slice .. =>true
 | _=>false
def insAt:List Oper→Nat→List Nat
 | [],_=> []
 | o::r,k=>match o.op with
  | .insert .. =>k::insAt r (k+1)
  | _=>insAt r (k+1)
def altFit (ops:Array Oper) (i j k:Nat):Bool:=match ops[k]? with
 | some o=>o.guard.isNone&&(quietOp o.op || ordered (bef ops) i k || ordered (bef ops) j k || k==i || k==j)
 | none=>true
def altOk (ops:Array Oper) (i j:Nat):Bool:=decide (i<j)&&decide (j<ops.size)&&((List.range ops.size).all fun k=>altFit ops i j k)&&edgesBack ops.toList 0
structure AltOf (ops ops':Array Oper) (σ:Nat→Nat) (x y:Nat):Prop where
 size:ops'.size=ops.size
 lt: ∀k,k<ops.size→σ k<ops.size
 inj: ∀k l,k<ops.size→l<ops.size→σ k=σ l→k=l
 surj: ∀p,p<ops.size→ ∃k,k<ops.size∧σ k=p
 at_: ∀k o,ops[k]?=some o→ops'[σ k]?=some (withE o (if k=y then ⟨σ x,.data⟩::mapE σ o.after.toList else mapE σ o.after.toList))
 xlt:x<ops.size
theorem altOf {σ τ:Nat→Nat} {x y:Nat} {ops:Array Oper} (h1: ∀k,k<ops.size→σ k<ops.size∧τ (σ k)=k) (h2: ∀p,p<ops.size→τ p<ops.size∧σ (τ p)=p) (hx:x<ops.size):AltOf ops (altOps σ τ x y ops) σ x y where
 size:=by simp [altOps]
 lt:=fun k hk=>(h1 k hk).1
 inj:=fun k l hk hl h=>by rw [←(h1 k hk).2,←(h1 l hl).2,h]
 surj:=fun p hp=>⟨τ p,(h2 p hp).1,(h2 p hp).2⟩
 at_:=fun k o ho=>by
  have hk:k<ops.size:=by
   rcases Nat.lt_or_ge k ops.size with h | h
   ·exact h
   ·rw [Array.getElem?_eq_none h] at ho;cases ho
  obtain ⟨h3,h4⟩:=h1 k hk
  have hg:ops.getD k default=o:=by rw [Array.getD_eq_getD_getElem?,ho];rfl
  unfold altOps
  rw [List.getElem?_toArray,List.getElem?_map,List.getElem?_range h3]
  simp only [Option.map_some,h4,hg]
 xlt:=hx
theorem sg_ok {i j n:Nat} (hij:i<j) (hj:j<n):(∀k,k<n→sg i j k<n∧ta i j (sg i j k)=k)∧ ∀p,p<n→ta i j p<n∧sg i j (ta i j p)=p:=by
 constructor
 ·intro k hk
  unfold sg ta
  refine ⟨?_,?_⟩
  ·repeat' split
   all_goals omega
  ·repeat' split
   all_goals omega
 ·intro p hp
  unfold sg ta
  refine ⟨?_,?_⟩
  ·repeat' split
   all_goals omega
  ·repeat' split
   all_goals omega
structure Rl (σ:Nat→Nat) (n:Nat) (l l':Array Bool):Prop where
 s1:l.size=n
 s2:l'.size=n
 same: ∀k,k<n→l'.getD (σ k) true=l.getD k true
theorem getD_dflt {l:Array Bool} {k:Nat} (h:k<l.size) (a b:Bool):l.getD k a=l.getD k b:=by
 simp [Array.getD_eq_getD_getElem?,h]
theorem Rl.put {σ:Nat→Nat} {n:Nat} {l l':Array Bool} (h:Rl σ n l l') (hinj: ∀a b,a<n→b<n→σ a=σ b→a=b) {k:Nat} (hk:k<n):Rl σ n (l.setIfInBounds k true) (l'.setIfInBounds (σ k) true):=by
 refine ⟨by simp [h.s1],by simp [h.s2],fun q hq=> ?_⟩
 have hs:=h.same q hq
 by_cases e:q=k
 ·subst e
  simp only [Array.getD_eq_getD_getElem?,Array.getElem?_setIfInBounds] at hs⊢
  simp only [if_pos]
  have:q<l.size:=by rw [h.s1];exact hq
  simp [this]
  split <;> rfl
 ·have e2:σ q≠σ k:=fun hh=>e (hinj q k hq hk hh)
  simp only [Array.getD_eq_getD_getElem?] at hs⊢
  rw [Array.getElem?_setIfInBounds_ne (Ne.symm e2),Array.getElem?_setIfInBounds_ne (Ne.symm e)]
  exact hs
theorem set_keep {l:Array Bool} {k x:Nat} (h:l.getD x true=true):(l.setIfInBounds k true).getD x true=true:=by
 by_cases e:x=k
 ·subst e
  simp [Array.getD_eq_getD_getElem?,Array.getElem?_setIfInBounds]
  split <;> rfl
 ·simp only [Array.getD_eq_getD_getElem?] at h⊢
  rw [Array.getElem?_setIfInBounds_ne (Ne.symm e)];exact h
theorem set_self {l:Array Bool} {k:Nat}:(l.setIfInBounds k true).getD k true=true:=by
 simp [Array.getD_eq_getD_getElem?,Array.getElem?_setIfInBounds]
 split <;> rfl
theorem set_ne {l:Array Bool} {k x:Nat} (e:x≠k):(l.setIfInBounds k true).getD x true=l.getD x true:=by
 simp only [Array.getD_eq_getD_getElem?]
 rw [Array.getElem?_setIfInBounds_ne (Ne.symm e)]
theorem ready_spec {ops:Array Oper} {l:Array Bool} {k:Nat}:k∈Region.ready .any ops l↔ ∃o,ops[k]?=some o∧l.getD k true=false∧ ∀e∈o.after.toList,Region.binds .any e=true→l.getD e.on false=true:=by
 unfold Region.ready
 rw [List.mem_filter,List.mem_range]
 constructor
 ·rintro ⟨h1,h2⟩
  have ho:ops[k]?=some ops[k]:=by simp [h1]
  rw [ho] at h2
  simp only [Bool.and_eq_true,Bool.not_eq_true',Option.map_some,Option.getD_some,Array.all_eq_true_iff_forall_mem] at h2
  refine ⟨_,ho,h2.1,fun e he hb=> ?_⟩
  have:=h2.2 e (by simpa using he)
  rw [hb] at this
  simpa using this
 ·rintro ⟨o,ho,h2,h3⟩
  have h1:k<ops.size:=by
   rcases Nat.lt_or_ge k ops.size with h | h
   ·exact h
   ·rw [Array.getElem?_eq_none h] at ho;cases ho
  refine ⟨h1,?_⟩
  rw [ho]
  simp only [Bool.and_eq_true,Bool.not_eq_true',Option.map_some,Option.getD_some,Array.all_eq_true_iff_forall_mem]
  refine ⟨h2,fun e he=> ?_⟩
  cases hb:Region.binds .any e with
  | false=>rfl
  | true=>have:=h3 e (by simpa using he) hb;simpa using this
section
variable {ops ops':Array Oper} {σ:Nat→Nat} {x y:Nat}
theorem op_lt {k:Nat} {o:Oper} (ho:ops[k]?=some o):k<ops.size:=by
 rcases Nat.lt_or_ge k ops.size with h | h
 ·exact h
 ·rw [Array.getElem?_eq_none h] at ho;cases ho
theorem edge_lt (hb:edgesBack ops.toList 0=true) {k:Nat} {o:Oper} (ho:ops[k]?=some o) {e:Edge} (he:e∈o.after.toList) (hbi:Region.binds .any e=true):e.on<ops.size:=by
 have hk:=op_lt ho
 have h:=edges_back ops.toList 0 k o hb (by simpa using ho) e (by simpa using he) hbi
 omega
theorem ready_alt (h:AltOf ops ops' σ x y) (hb:edgesBack ops.toList 0=true) {l l':Array Bool} (hr:Rl σ ops.size l l') {k:Nat} (hk:k<ops.size):σ k∈Region.ready .any ops' l'↔k∈Region.ready .any ops l∧(k=y→l.getD x true=true):=by
 have ho:ops[k]?=some ops[k]:=by simp [hk]
 have ha:=h.at_ k _ ho
 have hg: ∀q,q<ops.size→l'.getD (σ q) false=l.getD q true:=fun q hq=>by
  rw [getD_dflt (by rw [hr.s2];exact h.lt q hq) false true,hr.same q hq]
 have hg2: ∀q,q<ops.size→l.getD q false=l.getD q true:=fun q hq=>getD_dflt (by rw [hr.s1];exact hq) _ _
 rw [ready_spec,ready_spec]
 constructor
 ·rintro ⟨o',h1,h2,h3⟩
  rw [ha] at h1
  cases h1
  rw [hr.same k hk] at h2
  refine ⟨⟨_,ho,h2,fun e he hbi=> ?_⟩,fun hky=> ?_⟩
  ·have hlt:=edge_lt hb ho he hbi
   have hin:(⟨σ e.on,e.ground⟩:Edge)∈mapE σ ops[k].after.toList:=List.mem_map.mpr ⟨e,he,rfl⟩
   have:=h3 ⟨σ e.on,e.ground⟩ (by
    simp only [withE]
    split
    ·exact List.mem_cons_of_mem _ hin
    ·exact hin) hbi
   rw [hg _ hlt] at this
   rw [hg2 _ hlt];exact this
  ·have:=h3 ⟨σ x,.data⟩ (by simp only [withE,if_pos hky];exact List.mem_cons_self ..) rfl
   rw [hg _ h.xlt] at this
   exact this
 ·rintro ⟨⟨o,h1,h2,h3⟩,h4⟩
  rw [ho] at h1
  cases h1
  refine ⟨_,ha,by rw [hr.same k hk];exact h2,fun e he hbi=> ?_⟩
  have old:e∈mapE σ ops[k].after.toList→l'.getD e.on false=true:=fun hin=>by
   obtain ⟨e0,he0,rfl⟩:=List.mem_map.1 hin
   have hlt:=edge_lt hb ho he0 hbi
   rw [hg _ hlt,←hg2 _ hlt]
   exact h3 e0 he0 hbi
  simp only [withE] at he
  split at he
  ·rename_i hky
   rcases List.mem_cons.1 he with rfl | hin
   ·rw [hg _ h.xlt];exact h4 hky
   ·exact old hin
  ·exact old he
variable {F:Fence} {n:Nat} {P:Program} {Q:Exit→Act→World→Prop}
theorem op_alt (h:AltOf ops ops' σ x y) (hg: ∀o∈ops.toList,o.guard=none) {k:Nat} (hk:k<ops.size) {K:Act→World→Prop} {a:Act} {w:World} (hw:wpOpIn F n P ops' Q (σ k) K a w):wpOpIn F n P ops Q k K a w:=by
 have ho:ops[k]?=some ops[k]:=by simp [hk]
 have hgu:ops[k].guard=none:=hg _ (by simp)
 unfold wpOpIn at hw⊢
 rw [h.at_ k _ ho] at hw
 rw [ho]
 simp only [Region.wanted,withE,hgu,if_true] at hw⊢
 exact hw
theorem any_one (h:AltOf ops ops' σ x y) (hb:edgesBack ops.toList 0=true) (hg: ∀o∈ops.toList,o.guard=none): ∀(fuel:Nat) (l l':Array Bool) (a:Act) (w:World),Rl σ ops.size l l'→l.getD x true=true→
  wpAnyIn F n P .any ops' Q fuel l' a w→wpAnyIn F n P .any ops Q fuel l a w:=by
 intro fuel
 induction fuel with
 | zero=>
  intro l l' a w hr hx hw
  refine ⟨List.eq_nil_iff_forall_not_mem.2 fun k hk=> ?_,hw.2⟩
  have hks:=op_lt (ready_spec.1 hk).choose_spec.1
  have:=(ready_alt h hb hr hks).2 ⟨hk,fun _=>hx⟩
  rw [hw.1] at this;cases this
 | succ fuel ih=>
  intro l l' a w hr hx hw
  refine ⟨fun he=>hw.1 (List.eq_nil_iff_forall_not_mem.2 fun p hp=> ?_),fun k hk=> ?_⟩
  ·have hps:=op_lt (ready_spec.1 hp).choose_spec.1
   rw [h.size] at hps
   obtain ⟨k,hk,rfl⟩:=h.surj p hps
   have:=((ready_alt h hb hr hk).1 hp).1
   rw [he] at this;cases this
  ·have hks:=op_lt (ready_spec.1 hk).choose_spec.1
   have h1:=hw.2 (σ k) ((ready_alt h hb hr hks).2 ⟨hk,fun _=>hx⟩)
   exact op_alt h hg hks (wpOpIn_mono (fun a' w' h2=>ih _ _ a' w' (hr.put h.inj hks) (set_keep hx) h2) h1)
end
theorem run_v {P:Program} {s:Sem Value} {w:World}:(do let x←s;pure (Next.value x):Sem Next).run P w=match s.run P w with
  | .ok x w'=> .ok (.value x) w'
  | .halt h w'=> .halt h w':=by
 rw [Sem.run_bind]
 cases s.run P w <;> rfl
theorem run_u {P:Program} {s:Sem Unit} {w:World}:(do s;pure Next.skip:Sem Next).run P w=match s.run P w with
  | .ok _ w'=> .ok .skip w'
  | .halt h w'=> .halt h w':=by
 rw [Sem.run_bind]
 cases s.run P w <;> rfl
section
variable {F:Fence} {n:Nat} {P:Program} {Q:Exit→Act→World→Prop}
theorem upon_and {o:Oper} {a:Act} {K1 K2:Act→World→Prop} {r:Result Next} (hr: ∀x w',r= .ok x w'→(∃v,x= .value v)∨x= .skip) (h1:o.uponIn F n P a K1 Q r) (h2:o.uponIn F n P a K2 Q r):o.uponIn F n P a (fun a w=>K1 a w∧K2 a w) Q r:=by
 cases r with
 | ok x w'=>
  rcases hr x w' rfl with ⟨v,rfl⟩ | rfl
  ·exact ⟨h1,h2⟩
  ·exact ⟨h1,h2⟩
 | halt x w'=>
  cases x <;> first | exact h1 | exact absurd h1 (by simp [Oper.uponIn])
theorem quiet_and {o:Oper} (hq:quietOp o.op=true) {a:Act} {w:World} {K1 K2:Act→World→Prop} (h1:o.wpIn F n P a w K1 Q) (h2:o.wpIn F n P a w K2 Q):o.wpIn F n P a w (fun a w=>K1 a w∧K2 a w) Q:=by
 refine ⟨h1.1,upon_and ?_ h1.2 h2.2⟩
 intro x w' hx
 rw [Oper.semAt_eq _ _ _ (by intro c hc;rw [hc] at hq;cases hq)] at hx
 unfold execOp at hx
 cases ho:o.op <;> rw [ho] at hq hx <;> try cases hq
 all_goals
  simp only at hx
  first
  | (cases hx;exact .inl ⟨_,rfl⟩)
  | (rw [run_v] at hx;split at hx <;> cases hx;exact .inl ⟨_,rfl⟩)
  | (rw [run_u] at hx;split at hx <;> cases hx;exact .inr rfl)
end
section
variable {F:Fence} {n:Nat} {P:Program} {Q:Exit→Act→World→Prop} {ops o1 o2:Array Oper} {σ1 σ2:Nat→Nat} {i j:Nat}
theorem opIn_and (hg: ∀o∈ops.toList,o.guard=none) {k:Nat} {o:Oper} (ho:ops[k]?=some o) (hqu:quietOp o.op=true) {K1 K2:Act→World→Prop} {a:Act} {w:World} (h1:wpOpIn F n P ops Q k K1 a w) (h2:wpOpIn F n P ops Q k K2 a w):wpOpIn F n P ops Q k (fun a w=>K1 a w∧K2 a w) a w:=by
 have hgu:o.guard=none:=hg _ (Array.mem_toList_iff.mpr (Array.mem_of_getElem? ho))
 unfold wpOpIn at h1 h2⊢
 rw [ho] at h1 h2⊢
 simp only [Region.wanted,hgu,if_true] at h1 h2⊢
 exact quiet_and hqu h1 h2
def Closed (ops:Array Oper) (l:Array Bool):Prop:= ∀k x,k<ops.size→l.getD k true=true→ordered (bef ops) x k=true→l.getD x true=true
theorem ready_ahead (hb:edgesBack ops.toList 0=true) {l:Array Bool} (hs:l.size=ops.size) (hc:Closed ops l) {k x:Nat} (hk:k∈Region.ready .any ops l) (hx:ordered (bef ops) x k=true):l.getD x true=true:=by
 obtain ⟨o,ho,_,h3⟩:=ready_spec.1 hk
 obtain ⟨e,he,hbi,h4⟩:=ordered_edge hb ho hx
 have he2:e∈o.after.toList:=by simpa using he
 have hlt:=edge_lt hb ho he2 hbi
 have hl:=h3 e he2 hbi
 rw [getD_dflt (by rw [hs];exact hlt) false true] at hl
 rcases h4 with rfl | h4
 ·exact hl
 ·exact hc e.on x hlt hl h4
theorem Closed.put (hb:edgesBack ops.toList 0=true) {l:Array Bool} (hs:l.size=ops.size) (hc:Closed ops l) {k:Nat} (hk:k∈Region.ready .any ops l):Closed ops (l.setIfInBounds k true):=fun q x hq hlq hx=>by
 by_cases e:q=k
 ·subst e;exact set_keep (ready_ahead hb hs hc hk hx)
 ·rw [set_ne e] at hlq
  exact set_keep (hc q x hq hlq hx)
theorem any_two (hij:i≠j) (h1:AltOf ops o1 σ1 i j) (h2:AltOf ops o2 σ2 j i) (hb:edgesBack ops.toList 0=true) (hg: ∀o∈ops.toList,o.guard=none) (hq: ∀k o,ops[k]?=some o→quietOp o.op=true∨ordered (bef ops) i k=true∨ordered (bef ops) j k=true∨k=i∨k=j): ∀(fuel:Nat) (l l1 l2:Array Bool) (a:Act) (w:World),Closed ops l→Rl σ1 ops.size l l1→Rl σ2 ops.size l l2→l.getD i true=false→l.getD j true=false→
  wpAnyIn F n P .any o1 Q fuel l1 a w→wpAnyIn F n P .any o2 Q fuel l2 a w→wpAnyIn F n P .any ops Q fuel l a w:=by
 intro fuel
 induction fuel with
 | zero=>
  intro l l1 l2 a w hcl r1 r2 hi hj w1 w2
  refine ⟨List.eq_nil_iff_forall_not_mem.2 fun k hk=> ?_,w1.2⟩
  have hks:=op_lt (ready_spec.1 hk).choose_spec.1
  by_cases e:k=j
  ·have:=(ready_alt h2 hb r2 hks).2 ⟨hk,fun e2=>absurd (e2.symm.trans e) hij⟩
   rw [w2.1] at this;cases this
  ·have:=(ready_alt h1 hb r1 hks).2 ⟨hk,fun e2=>absurd e2 e⟩
   rw [w1.1] at this;cases this
 | succ fuel ih=>
  intro l l1 l2 a w hcl r1 r2 hi hj w1 w2
  refine ⟨fun he=>w1.1 (List.eq_nil_iff_forall_not_mem.2 fun p hp=> ?_),fun k hk=> ?_⟩
  ·have hps:=op_lt (ready_spec.1 hp).choose_spec.1
   rw [h1.size] at hps
   obtain ⟨k,hk,rfl⟩:=h1.surj p hps
   have:=((ready_alt h1 hb r1 hk).1 hp).1
   rw [he] at this;cases this
  ·have hks:=op_lt (ready_spec.1 hk).choose_spec.1
   have k1:k≠j→wpOpIn F n P ops Q k (wpAnyIn F n P .any o1 Q fuel (l1.setIfInBounds (σ1 k) true)) a w:=fun e=>op_alt h1 hg hks (w1.2 (σ1 k) ((ready_alt h1 hb r1 hks).2 ⟨hk,fun e2=>absurd e2 e⟩))
   have k2:k≠i→wpOpIn F n P ops Q k (wpAnyIn F n P .any o2 Q fuel (l2.setIfInBounds (σ2 k) true)) a w:=fun e=>op_alt h2 hg hks (w2.2 (σ2 k) ((ready_alt h2 hb r2 hks).2 ⟨hk,fun e2=>absurd e2 e⟩))
   by_cases e1:k=i
   ·subst e1
    exact wpOpIn_mono (fun a' w' h3=>any_one h1 hb hg fuel _ _ a' w' (r1.put h1.inj hks) set_self h3) (k1 hij)
   by_cases e2:k=j
   ·subst e2
    exact wpOpIn_mono (fun a' w' h3=>any_one h2 hb hg fuel _ _ a' w' (r2.put h2.inj hks) set_self h3) (k2 (Ne.symm hij))
   have ho:ops[k]?=some ops[k]:=by simp [hks]
   have hqu:quietOp ops[k].op=true:=by
    rcases hq k _ ho with q | q | q | q | q
    ·exact q
    ·rw [ready_ahead hb r1.s1 hcl hk q] at hi;cases hi
    ·rw [ready_ahead hb r1.s1 hcl hk q] at hj;cases hj
    ·exact absurd q e1
    ·exact absurd q e2
   refine wpOpIn_mono (fun a' w' h3=> ?_) (opIn_and hg ho hqu (k1 e2) (k2 e1))
   exact ih _ _ _ a' w' (hcl.put hb r1.s1 hk) (r1.put h1.inj hks) (r2.put h2.inj hks) (by rw [set_ne (Ne.symm e1)];exact hi) (by rw [set_ne (Ne.symm e2)];exact hj) h3.1 h3.2
theorem alt_any (ho:altOk ops i j=true) {a:Act} {w:World} (w1:wpAnyIn F n P .any (altOps id id i j ops) Q (altOps id id i j ops).size (Array.replicate (altOps id id i j ops).size false) a w)
  (w2:wpAnyIn F n P .any (altOps (sg i j) (ta i j) j i ops) Q (altOps (sg i j) (ta i j) j i ops).size (Array.replicate (altOps (sg i j) (ta i j) j i ops).size false) a w):wpAnyIn F n P .any ops Q ops.size (Array.replicate ops.size false) a w:=by
 simp only [altOk,Bool.and_eq_true,decide_eq_true_eq,List.all_eq_true,List.mem_range] at ho
 obtain ⟨⟨⟨hij,hj⟩,hall⟩,hb⟩:=ho
 have hfit: ∀k o,ops[k]?=some o→o.guard=none∧(quietOp o.op=true∨ordered (bef ops) i k=true∨ordered (bef ops) j k=true∨k=i∨k=j):=fun k o hk=>by
  have h:=hall k (op_lt hk)
  unfold altFit at h
  rw [hk] at h
  simp only [Bool.and_eq_true,Bool.or_eq_true,beq_iff_eq,Option.isNone_iff_eq_none] at h
  refine ⟨h.1,?_⟩
  rcases h.2 with (((q | q) | q) | q) | q
  ·exact .inl q
  ·exact .inr (.inl q)
  ·exact .inr (.inr (.inl q))
  ·exact .inr (.inr (.inr (.inl q)))
  ·exact .inr (.inr (.inr (.inr q)))
 have s1:(altOps id id i j ops).size=ops.size:=by simp [altOps]
 have s2:(altOps (sg i j) (ta i j) j i ops).size=ops.size:=by simp [altOps]
 rw [s1] at w1
 rw [s2] at w2
 have hr: ∀σ:Nat→Nat,(∀k,k<ops.size→σ k<ops.size)→Rl σ ops.size (Array.replicate ops.size false) (Array.replicate ops.size false):=fun σ hσ=>⟨by simp,by simp,fun k hk=>by
  have:=hσ k hk
  simp [Array.getD_eq_getD_getElem?,hk,this]⟩
 have g1:=sg_ok hij hj
 have hf: ∀q,q<ops.size→(Array.replicate ops.size false).getD q true=false:=fun q hq=>by simp [Array.getD_eq_getD_getElem?,hq]
 exact any_two (Nat.ne_of_lt hij) (altOf (fun k hk=>⟨hk,rfl⟩) (fun k hk=>⟨hk,rfl⟩) (by omega)) (altOf g1.1 g1.2 hj) hb (fun o ho=>by
   obtain ⟨k,hk,rfl⟩:=List.getElem_of_mem ho
   exact (hfit k _ (by simp at hk⊢)).1) (fun k o hk=>(hfit k o hk).2)
  ops.size _ _ _ a w (fun k x hk hlk _=>by rw [hf k hk] at hlk;cases hlk) (hr id fun k hk=>hk) (hr _ fun k hk=>(g1.1 k hk).1) (hf i (by omega)) (hf j hj) w1 w2
end
end Go.Am
