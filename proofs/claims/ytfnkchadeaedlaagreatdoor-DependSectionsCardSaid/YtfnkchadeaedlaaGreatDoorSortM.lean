/-
 slices.SortFunc at structs by the shelf's contract: the box of a slice of one's own is sorted in its place. The comparison of two reads, as slices.SortFunc calls it (depend.Reads's closure): a walk by the kit.
-/
import Derived.Test.YtfnkchadeaedlaaGreatDoorAmSeat
import Derived.Shelf.SlSortCmp.NoneTotal
import Derived.Lib.Small
import Derived.Lib.Walk
import Derived.LoopN
import Derived.StillTailTactics
import Derived.Shelf.SlicesG.Cmp
import Derived.Test.YtfnkchadeaedlaaGreatDoorShelf
import Derived.Test.YtfnkchadeaedlaaGreatDoorStrM
set_option linter.all false
namespace Go.Am
open Go.Shelf Go.RowKit Go.Lib Go.Sort Go.Proofs
variable [Kn]
theorem mm.cell {g:Gh} {w:World} {sh:Hd} {sz:Nat} {es:List AV} {b cap:Nat} (h:mm g w sh sz es b cap): ∃(c:Array Value) (ty:TypeId) (fz:Nat×Nat),w.heap[b]?=some (.cells c ty fz)∧c.size=cap*sz∧max 1 es.length≤cap∧(∀t,sh.ty=some t→t=ty∧gw (if sh.out then es.length*sz else 0) c fz)∧
  (∀(i j:Nat) (e x:AV) (v:Value),es[i]?=some e→e.cells[j]?=some x→c[i*sz+j]?=some v→Rd g w x v∧v.oneCell'=true):=by
 obtain ⟨c,ty,fz,h1,h2,h3,h4,h5,_⟩:=h;exact ⟨c,ty,fz,h1,h2,h3,h4,h5⟩
section
variable {P:Program} {g:Gh} {bs:List ad} {w:World}
def rowOf (c:Array Value) (sz i:Nat):List Value:=(List.range sz).map fun j=>(c[i*sz+j]?).getD (.int .i64 0)
omit [Kn] in
theorem ri {c:Array Value} {sz i j:Nat} (hj:j<sz):(rowOf c sz i)[j]?=some ((c[i*sz+j]?).getD (.int .i64 0)):=by simp [rowOf,hj]
omit [Kn] in
theorem Bw {α:Type} [Inhabited α] {enc:α→List Value} {k:Nat} {d:Array α} {i j:Nat} (hi:i<d.size) (hj:j<k) (he:(enc d[i]!).length=k):(flatK enc k d)[i*k+j]! =(enc d[i]!)[j]!:=by
 have hk:0<k:=by omega
 have h1:(i+1)*k≤d.size*k:=Nat.mul_le_mul_right _ hi;rw [Nat.add_mul] at h1;have h2:(i*k+j) / k=i:=by rw [Nat.mul_comm,Nat.mul_add_div hk,Nat.div_eq_of_lt hj,Nat.add_zero]
 have h3:(i*k+j)%k=j:=by rw [Nat.mul_comm,Nat.mul_add_mod,Nat.mod_eq_of_lt hj]
 rw [get_flatK _ _ _ _ (by omega),h2,h3]
theorem C4 (hm:Mem g bs w) {k:Nat} {sh:Hd} {sz:Nat} {es:List AV} (hb:ad.at bs k= .sl sh sz es) (hout:sh.out=false) {ty:TypeId} (hty:sh.ty=some ty) (hsz:0<sz) {ca cap:Nat} (hge:g.e k= .sl es.length sz (some (ca,cap))) (hr:j6 g w sh sz es (some (ca,cap)))
  [Inhabited (Fin es.length)] {c:Array Value} {ty':TypeId} {fz:Nat×Nat} (hc:w.heap[ca]?=some (.cells c ty' fz)) (d':Array (Fin es.length)) (hd:d'.size=es.length) (m:Nat) (os:Array Obj):
  ∃g',Mem g' (bs.set k (.sl ⟨sh.out,sh.ty,none⟩ sz (d'.toList.map fun i=>es[i]))) (sortWorldK (fun i:Fin es.length=>rowOf c sz i.val) sz w ca 0 m d' os)∧Le g w g' (sortWorldK (fun i:Fin es.length=>rowOf c sz i.val) sz w ca 0 m d' os)∧Fr g w g' (sortWorldK (fun i:Fin es.length=>rowOf c sz i.val) sz w ca 0 m d' os):=by
 generalize hW:sortWorldK (fun i:Fin es.length=>rowOf c sz i.val) sz w ca 0 m d' os=W;obtain ⟨hok,hrow⟩:=hr;obtain ⟨c',ty2,fz2,hc',hcs,hcap,hf',hrd⟩:=mm.cell hrow;rw [hc] at hc';cases hc';obtain ⟨rfl,hf⟩:=hf' ty hty;rw [hout] at hf;have hk:k<bs.length:=eF (by rw [hb];simp);have hblk:ca<w.heap.size:=bt hc;have hheap:W.heap=w.heap.modify ca (onCells (putCells id 0 (flatK (fun i:Fin es.length=>rowOf c sz i.val) sz d')))++os:=by subst hW;rfl
 have hold: ∀b2,b2<w.heap.size→b2≠ca→W.heap[b2]?=w.heap[b2]?:=fun b2 h1 h2=>by
  rw [hheap,Array.getElem?_append_left (by simpa using h1),Array.getElem?_modify,if_neg (Ne.symm h2)]
 have hnew:W.heap[ca]?=some (.cells (putCells id 0 (flatK (fun i:Fin es.length=>rowOf c sz i.val) sz d') c) ty fz):=by rw [hheap,Array.getElem?_append_left (by simpa using hblk),Array.getElem?_modify,if_pos rfl,hc];rfl
 have hsize:w.heap.size≤W.heap.size:=by rw [hheap];simp
 have hos:W.os=w.os:=by subst hW;rfl
 have htp:W.tape=w.tape:=by subst hW;rfl
 have hou:W.output=w.output:=by subst hW;rfl
 have hS: ∀b2 o,g.S b2 o→b2≠ca:=fun b2 o hs e=>by
  obtain ⟨_,sz',es',h1,_⟩:=(hm.cx b2 o hs).2 k (by rw [hge,e];rfl);rw [hb] at h1;cases h1;cases hout
 have hcell: ∀b2 o,g.S b2 o→W.cell? ⟨b2,o,none⟩=w.cell? ⟨b2,o,none⟩:=fun b2 o hs=>bK (hold b2 (hm.cx b2 o hs).1 (hS b2 o hs)) o;have hlen:(d'.toList.map fun i=>es[i]).length=es.length:=by simp [hd]
 have hle:Le g w (g.ed k (.sl es.length sz (some (ca,cap))) g.S) W:=⟨fun _ _ h=>h,hcell,fun l=>by
  by_cases e:k=l
  ·subst e;rw [Gh.aU,hge];exact .same _
  ·rw [Gh.aT _ _ _ e];exact .same _⟩
 have hput: ∀o,o<es.length*sz→(putCells id 0 (flatK (fun i:Fin es.length=>rowOf c sz i.val) sz d') c)[o]?=some ((flatK (fun i:Fin es.length=>rowOf c sz i.val) sz d')[o]!):=fun o ho=>by
  have hco:o<c.size:=by have:es.length*sz≤cap*sz:=Nat.mul_le_mul_right _ (by omega);omega
  simp only [putCells,Array.getElem?_mapIdx,Array.getElem?_eq_getElem hco,Option.map_some];rw [if_pos ⟨Nat.zero_le _,by simp [hd];omega⟩];rfl
 have hgetel: ∀(i:Nat) (e:AV),(d'.toList.map fun i=>es[i])[i]?=some e→ ∃h:i<d'.size,es[d'[i].val]?=some e:=fun i e he=>by
  rw [List.getElem?_map] at he;cases hx:d'.toList[i]? with
  | none=>rw [hx] at he;cases he
  | some q=>
   rw [hx] at he;simp only [Option.map_some,Option.some.injEq] at he;obtain ⟨h1,h2⟩:=List.getElem?_eq_some_iff.1 hx;have h3:i<d'.size:=by simpa using h1
   refine ⟨h3,?_⟩;have h4:d'[i]=q:=by rw [←h2];simp
   rw [h4,←he];simp
 obtain ⟨m',l',f'⟩:=Mem.gL (id:=k) (x:= .sl ⟨sh.out,sh.ty,none⟩ sz (d'.toList.map fun i=>es[i])) (ge:= .sl es.length sz (some (ca,cap))) (S':=g.S) hm hk (fun _ _ h=>h) hcell (by rw [hge];exact .same _)
  (fun b2 hb2 hne=>hold b2 hb2 (fun e=>hne (by rw [hge,e];rfl))) hsize (fun b2 h=> .inl (by rw [hge];exact h)) (by simp) (fun _ _ h=>by cases h)
  (fun sh' sz' es' hes'=>by
   cases hes';refine ⟨some (ca,cap),by rw [hlen],fun i e he=> ?_,_,ty,fz,hnew,by simpa [putCells] using hcs,by rw [hlen];exact hcap,fun t ht=>⟨by have ht:sh.ty=some t:=ht;rw [hty] at ht;cases ht;rfl,fun o _ ho=>hf o (Nat.zero_le _) (by simpa [putCells] using ho)⟩,fun i j e x q he hx hq=> ?_,fun h=>(by have h:sh.out=true:=h;rw [hout] at h;cases h),fun _ _ _ _ h=>(by cases h)⟩
   ·obtain ⟨hi,h1⟩:=hgetel i e he;exact hok _ _ h1
   ·obtain ⟨hi,h1⟩:=hgetel i e he;have hj:=ai hx;rw [(hok _ _ h1).2] at hj;have h2:(i+1)*sz≤es.length*sz:=Nat.mul_le_mul_right _ (by omega);rw [Nat.add_mul] at h2;have hdi:(d'[i]!)=d'[i]:=by simp [hi]
    rw [hput _ (by omega),Bw (by omega) hj (by simp [rowOf]),hdi] at hq;have hlt:=d'[i].isLt;have h3:(d'[i].val+1)*sz≤cap*sz:=Nat.mul_le_mul_right _ (by omega);rw [Nat.add_mul] at h3;have h4:d'[i].val*sz+j<c.size:=by omega
    have hget:=ri (c:=c) (i:=d'[i].val) hj
    have hq2:q=c[d'[i].val*sz+j]:=by
     have h5:(rowOf c sz d'[i].val)[j]! =(rowOf c sz d'[i].val)[j]?.getD default:=by simp [List.getElem!_eq_getElem?_getD]
     simp only [Option.some.injEq] at hq;rw [←hq,h5,hget,Array.getElem?_eq_getElem h4];rfl
    have:=hrd _ j e x q h1 hx (by rw [hq2];exact Array.getElem?_eq_getElem h4);exact ⟨this.1.mono hle,this.2⟩)
  (fun b2 o h=> .inl h) (fun b2 o hs hblk=>by simp only [GE.ca,Option.map_some,Option.some.injEq] at hblk;exact absurd hblk.symm (hS b2 o hs)) hos htp hou
 exact ⟨_,m',l',f'⟩
def sV (sz:Nat) (e:AV) (xs:List Value):Prop:=xs.length=sz∧(∀v∈xs,v.oneCell'=true)∧ ∀(j:Nat) (x:AV) (v:Value),e.cells[j]?=some x→xs[j]?=some v→ ∃g w,Rd g w x v
theorem HD {ρ:Ren} (L:SlLaysF0.n6 P ρ) (hm:Mem g bs w) {k:Nat} {sh:Hd} {sz:Nat} {κ:Type} {ks:List κ} {φ:κ→AV} (hb:ad.at bs k= .sl sh sz (ks.map φ)) (hout:sh.out=false) {ty:TypeId} (hty:sh.ty=some ty) (hne:ks≠ []) (hsz:0<sz) (hlim:ks.length<4611686018427387904)
  (aE: ∀w,(isAgg (ρ.t 24)).run P w= .ok true w) (zE: ∀w,(Go.sizeOf (ρ.t 24)).run P w= .ok sz w) {v:Value} (hv:Rd g w (.az k ks.length) v) (f:FuncId) (eg: ∀args w,(callFunc f args).run P w= .ok (.enter f args) w)
  (cmp:κ→κ→Int) (hcmp: ∀(x y:κ),x∈ks→y∈ks→ ∀(xs ys:List Value),sV sz (φ x) xs→sV sz (φ y) ys→ ∀W:World,Calls P f #[.agg xs.toArray,.agg ys.toArray] W fun e w'=>e= .returned (.int .i64 (cmp x y))∧ ∃q os',w'=grow (W.drewN q) os')
  (hO:SWO (ltOf cmp)) (hT: ∀x y,ltOf cmp x y=false→ltOf cmp y x=false→x=y) (hnd:ks.Nodup):
  Calls P (ρ.f 6) #[v,.func (.func f) #[] #[]] w (du g w (bs.set k (.sl ⟨sh.out,sh.ty,none⟩ sz ((ks.mergeSort fun x y=> !ltOf cmp y x).map φ))) (.aI [])):=by
 obtain ⟨es,hes⟩: ∃es,es=ks.map φ:=⟨_,rfl⟩;have hel:es.length=ks.length:=by rw [hes,List.length_map]
 have hpos:0<es.length:=by rw [hel];exact List.length_pos_iff.2 hne
 rw [←hes] at hb;rw [←hel] at hv;obtain ⟨a,cap,rfl,_,loc,hge,hr,hl⟩:=hv.jJ hm hb rfl;rcases hl with ⟨ca,rfl,rfl⟩ | ⟨_,h0,_⟩
 case inr=>rw [h0] at hpos;simp at hpos
 letI:Inhabited (Fin es.length):=⟨⟨0,hpos⟩⟩;obtain ⟨c,ty',fz,hc,hcs,hcap,hf',hrd⟩:=mm.cell hr.2;obtain ⟨rfl,hf⟩:=hf' ty hty;rw [hout] at hf;obtain ⟨d,hd⟩: ∃d:Array (Fin es.length),d=(List.finRange es.length).toArray:=⟨_,rfl⟩;have hds:d.size=es.length:=by rw [hd];simp
 have hcell: ∀i j,i<es.length→j<sz→ ∃q,c[i*sz+j]?=some q∧i*sz+j<c.size∧ ∀x,(es[i]?).bind (fun e=>e.cells[j]?)=some x→Rd g w x q∧q.oneCell'=true:=fun i j hi hj=>by
  have h1:(i+1)*sz≤cap*sz:=Nat.mul_le_mul_right _ (by omega);rw [Nat.add_mul] at h1;have h2:i*sz+j<c.size:=by omega
  refine ⟨c[i*sz+j],Array.getElem?_eq_getElem h2,h2,fun x hx=> ?_⟩;rw [List.getElem?_eq_getElem hi] at hx;exact hrd i j es[i] x _ (List.getElem?_eq_getElem hi) hx (Array.getElem?_eq_getElem h2)
 have hcl: ∀i (hi:i<es.length),es[i].cells.length=sz:=fun i hi=>(hr.1 i es[i] (List.getElem?_eq_getElem hi)).2
 have h1c: ∀(i:Fin es.length),∀q∈rowOf c sz i.val,q.oneCell'=true:=fun i q hq=>by
  obtain ⟨j,hj,rfl⟩:=List.mem_map.1 hq;have hj:j<sz:=by simpa using hj
  obtain ⟨q,h1,h2,h3⟩:=hcell i.val j i.isLt hj;rw [h1];have hx:j<es[i.val].cells.length:=by rw [hcl _ i.isLt];exact hj
  exact (h3 es[i.val].cells[j] (by rw [List.getElem?_eq_getElem i.isLt];exact List.getElem?_eq_getElem hx)).2
 have hkl: ∀i:Fin es.length,i.val<ks.length:=fun i=>by rw [←hel];exact i.isLt
 have hφ: ∀i:Fin es.length,es[i.val]=φ (ks[i.val]'(hkl i)):=fun i=>by simp [hes]
 have hrdc: ∀i:Fin es.length,sV sz (φ (ks[i.val]'(hkl i))) (rowOf c sz i.val):=fun i=>by
  refine ⟨by simp [rowOf],h1c i,fun j x q hx hq=> ?_⟩;rw [←hφ i] at hx;have hj:=ai hx;rw [hcl _ i.isLt] at hj;obtain ⟨q',h1,h2,h3⟩:=hcell i.val j i.isLt hj;rw [ri hj,h1] at hq;simp only [Option.getD_some,Option.some.injEq] at hq;subst hq;exact ⟨g,w,(h3 x (by rw [List.getElem?_eq_getElem i.isLt];exact hx)).1⟩
 have hH:HoldsK (fun i:Fin es.length=>rowOf c sz i.val) sz w ca 0 d:=fun o ho=>by
  rw [size_flatK,hds] at ho;have hi:o / sz<es.length:=(Nat.div_lt_iff_lt_mul hsz).2 ho;have hj:o%sz<sz:=Nat.mod_lt _ hsz;have ho2:o / sz*sz+o%sz=o:=by rw [Nat.mul_comm];exact Nat.div_add_mod o sz
  obtain ⟨q,h1,h2,_⟩:=hcell (o / sz) (o%sz) hi hj
  have hdi:d[o / sz]! =⟨o / sz,hi⟩:=by rw [getElem!_pos d _ (by omega)];simp [hd]
  have hfl:=Bw (enc:=fun i:Fin es.length=>rowOf c sz i.val) (k:=sz) (d:=d) (i:=o / sz) (j:=o%sz) (by omega) hj (by simp [rowOf]);rw [ho2,hdi] at hfl;rw [hfl,Nat.zero_add,eO hc];rw [ho2] at h1 h2;refine ⟨?_,uA hc (fun o' h1 h2=>hf o' h1 h2) (Nat.zero_le _) h2⟩;have h5:(rowOf c sz (o / sz))[o%sz]! =(rowOf c sz (o / sz))[o%sz]?.getD default:=by simp [List.getElem!_eq_getElem?_getD]
  show c[o]?=some (id ((rowOf c sz (o / sz))[o%sz]!));rw [h5,ri hj,ho2,h1];rfl
 have hO':SWO (ltOf fun i j:Fin es.length=>cmp (ks[i.val]'(hkl i)) (ks[j.val]'(hkl j))):=
  ⟨fun x=>hO.irrefl _,fun x y z=>hO.trans _ _ _,fun x y z=>hO.ntrans _ _ _⟩
 have K:=AnyQ.slices_SortFunc_total L sz aE zE (fun i:Fin es.length=>rowOf c sz i.val) (fun _=>by simp [rowOf]) h1c (fun i j=>cmp (ks[i.val]'(hkl i)) (ks[j.val]'(hkl j))) hO' f #[] ca 0 cap d w eg
  (fun m os dk _ x y=>hcmp _ _ (List.getElem_mem _) (List.getElem_mem _) _ _ (hrdc x) (hrdc y) _) hH (bt hc) (by rw [hds,hel];exact hlim)
  (fun x y h1 h2=>by
   have h3:=hT _ _ h1 h2;have hp:=List.pairwise_iff_getElem.1 hnd;rcases Nat.lt_trichotomy x.val y.val with h | h | h
   ·exact absurd h3 (hp _ _ (hkl x) (hkl y) h)
   ·exact Fin.ext h
   ·exact absurd h3.symm (hp _ _ (hkl y) (hkl x) h))
 rw [hds] at K;refine K.mono ?_;rintro e w' ⟨rfl,nd,os,rfl⟩;have hps:(d.toList.mergeSort fun x y=> !(ltOf fun i j:Fin es.length=>cmp (ks[i.val]'(hkl i)) (ks[j.val]'(hkl j))) y x).toArray.size=es.length:=by simp [hds]
 obtain ⟨g',m',l',f'⟩:=C4 hm hb hout hty hsz hge hr hc _ hps nd os;refine ⟨_,g',rfl,?_,l',f',.aI _ _ rfl (fun i c v h=>by simp at h)⟩
 have hfin:((d.toList.mergeSort fun x y=> !(ltOf fun i j:Fin es.length=>cmp (ks[i.val]'(hkl i)) (ks[j.val]'(hkl j))) y x).map fun i=>es[i])=(ks.mergeSort fun x y=> !ltOf cmp y x).map φ:=by
  have e1:(d.toList.map fun i:Fin es.length=>ks[i.val]'(hkl i))=ks:=by
   rw [hd];apply List.ext_getElem
   ·simp [hel]
   ·intro i h1 h2;simp
  have e2:=List.map_mergeSort (r:=fun x y:Fin es.length=> !(ltOf fun i j:Fin es.length=>cmp (ks[i.val]'(hkl i)) (ks[j.val]'(hkl j))) y x) (s:=fun x y=> !ltOf cmp y x) (f:=fun i:Fin es.length=>ks[i.val]'(hkl i)) (l:=d.toList) (fun a _ b _=>rfl);rw [e1] at e2;rw [←e2,List.map_map];exact List.map_congr_left fun i _=>hφ i
 rw [←hfin];exact m'
end
end Go.Am
namespace Go.Proofs.YtfnkchadeaedlaaGreatDoor
open Go.Proofs Go.Lib Go.Sort
set_option maxHeartbeats 2000000
set_option maxRecDepth 100000
theorem R8 (a b r:Int) (h1:(a !=0)=true→r=a) (h2:(a !=0)=false→r=b) (ca cap:Nat) (W:World) (ha:W.cell? ⟨ca,0,none⟩=some (.int .i64 a)) (hb:W.cell? ⟨ca,1,none⟩=some (.int .i64 b)):
  Calls Tryz.prog 87 #[.slice (some ⟨ca,0,none⟩) 2 cap] W fun e w'=>e= .returned (.int .i64 r)∧w'=W:=by
 go_enter Tryz.func87,Tryz.ntmps87
 go_wp2
 refine wp_loop_rounds 3 ?_;rw [rounds_succ]
 go_wp2
 ·go_ret
  exact ⟨by rw [h1 (by assumption)];rfl,rfl⟩
 rw [rounds_succ]
 go_wp2
 ·go_ret
  exact ⟨by rw [h2 (by assumption)];rfl,rfl⟩
 rw [rounds_succ]
 go_wp2
 go_ret
 have e1:r=b:=h2 (by assumption);have e2:(b !=0)=false:=by assumption
 have e3:b=0:=by simpa using e2
 refine ⟨?_,rfl⟩;rw [e1,e3];rfl
theorem vx (W:World) (c:Array Value) (ty:TypeId) (i:Nat) (v:Value) (h:c[i]?=some v):(W.alloc (.cells c ty)).cell? ⟨W.heap.size,i,none⟩=some v:=by
 have h1:(W.alloc (.cells c ty)).heap[W.heap.size]?=some (.cells c ty):=by show (W.heap.push _)[W.heap.size]?=_;simp
 unfold World.cell?;rw [h1];exact h
theorem xv (W:World) (o1 o2:Obj):((W.alloc o1).alloc o2).heap[W.heap.size]?=some o1∧((W.alloc o1).alloc o2).heap[W.heap.size+1]?=some o2:=by
 constructor
 ·show ((W.heap.push o1).push o2)[W.heap.size]?=_;rw [Array.getElem?_push,if_neg (by simp),Array.getElem?_push,if_pos rfl]
 ·show ((W.heap.push o1).push o2)[W.heap.size+1]?=_;rw [Array.getElem?_push,if_pos (by simp)]
def UA (W W2:World):Prop:= ∃q os,W2=grow (W.drewN q) os
theorem R9 (r1 r2 r:Int) (h1:(r1 !=0)=true→r=r1) (h2:(r1 !=0)=false→r=r2) (a b c d:Int)
  (c1: ∀W,Calls Tryz.prog 88 #[.int .i64 a,.int .i64 c] W fun e w'=>e= .returned (.int .i64 r1)∧w'=W)
  (c2: ∀W,Calls Tryz.prog 88 #[.int .i64 b,.int .i64 d] W fun e w'=>e= .returned (.int .i64 r2)∧w'=W) (W:World):
  Calls Tryz.prog 44 #[.agg #[.int .i64 a,.int .i64 b],.agg #[.int .i64 c,.int .i64 d]] W fun e w'=>e= .returned (.int .i64 r)∧ ∃q os',w'=grow (W.drewN q) os':=by
 go_enter Tryz.func44,Tryz.ntmps44
 go_wp2
 obtain ⟨W2,hW2⟩: ∃W2,W2=(W.alloc (Obj.cells #[.int .i64 a,.int .i64 b] 28)).alloc (Obj.cells #[.int .i64 c,.int .i64 d] 28):=⟨_,rfl⟩;change Code.wp _ _ _ _ ((W.alloc (Obj.cells #[.int .i64 a,.int .i64 b] 28)).alloc (Obj.cells #[.int .i64 c,.int .i64 d] 28));rw [←hW2];have hg:UA W W2:=⟨0, #[Obj.cells #[.int .i64 a,.int .i64 b] 28,Obj.cells #[.int .i64 c,.int .i64 d] 28],by rw [hW2,alloc_eq_grow,alloc_eq_grow,grow_grow];rfl⟩;obtain ⟨t1,t2⟩:=xv W (Obj.cells #[.int .i64 a,.int .i64 b] 28) (Obj.cells #[.int .i64 c,.int .i64 d] 28);rw [←hW2] at t1 t2;have x0:W2.cell? ⟨W.heap.size,0,none⟩=some (.int .i64 a):=by unfold World.cell?;rw [t1];rfl
 have x1:W2.cell? ⟨W.heap.size,1,none⟩=some (.int .i64 b):=by unfold World.cell?;rw [t1];rfl
 have y0:W2.cell? ⟨W.heap.size+1,0,none⟩=some (.int .i64 c):=by unfold World.cell?;rw [t2];rfl
 have y1:W2.cell? ⟨W.heap.size+1,1,none⟩=some (.int .i64 d):=by unfold World.cell?;rw [t2];rfl
 clear hW2 t1 t2;have c1':=c1 W2.drew;have c2':=c2 W2.drew;refine wp_region_still_tail 10 (by kernel_rfl) (by kernel_rfl) ?_;simp only [List.take_succ_cons,List.take_zero,List.drop_succ_cons,List.drop_zero]
 repeat still_step
 still_call c1'
 repeat still_step
 still_call c2'
 refine wpStill_nil ?_;change wpList _ _ _ _ _ W2.drew
 have hg3:UA W W2.drew:=by obtain ⟨q,os,h⟩:=hg;exact ⟨q+1,os,by rw [h];rfl⟩
 clear hg c1' c2' c1 c2;generalize W2.drew=W3 at*
 clear x0 x1 y0 y1
 go_wp2_with (go_at_call 87;refine (R8 r1 r2 r h1 h2 _ _ _ (vx _ _ _ _ _ rfl) (vx _ _ _ _ _ rfl)).mono ?_;rintro e w' ⟨rfl,rfl⟩)
 go_ret
 refine ⟨rfl,?_⟩;obtain ⟨q,os,h⟩:=hg3;exact ⟨q,os.push (Obj.cells #[.int .i64 r1,.int .i64 r2] 3),by rw [h,alloc_eq_grow,grow_grow];rfl⟩
theorem Sa (r1 r2 r:Int) (h1:(r1 !=0)=true→r=r1) (h2:(r1 !=0)=false→r=r2) (a b c d:Int) (u v:Value) (hu:u.oneCell'=true) (hv:v.oneCell'=true)
  (c1: ∀W,Calls Tryz.prog 88 #[.int .i64 a,.int .i64 c] W fun e w'=>e= .returned (.int .i64 r1)∧w'=W)
  (c2: ∀W,Calls Tryz.prog 88 #[.int .i64 b,.int .i64 d] W fun e w'=>e= .returned (.int .i64 r2)∧w'=W) (W:World):
  Calls Tryz.prog 43 #[.agg #[.int .i64 a,.int .i64 b,u],.agg #[.int .i64 c,.int .i64 d,v]] W fun e w'=>e= .returned (.int .i64 r)∧ ∃q os',w'=grow (W.drewN q) os':=by
 have K:=fun W=>R9 r1 r2 r h1 h2 a b c d c1 c2 W;clear c1 c2;obtain ⟨t1,t2⟩:=xv W (Obj.cells #[.int .i64 a,.int .i64 b,u] 57) (Obj.cells #[.int .i64 c,.int .i64 d,v] 57)
 have x0:({heap:=(W.alloc (Obj.cells #[.int .i64 a,.int .i64 b,u] 57)).heap.push (Obj.cells #[.int .i64 c,.int .i64 d,v] 57),tape:=W.tape,drawn:=W.drawn,os:=(W.alloc (Obj.cells #[.int .i64 a,.int .i64 b,u] 57)).os,output:=(W.alloc (Obj.cells #[.int .i64 a,.int .i64 b,u] 57)).output}:World).cell? ⟨W.heap.size,0,none⟩=some (.int .i64 a):=by change ((W.alloc (Obj.cells #[.int .i64 a,.int .i64 b,u] 57)).alloc (Obj.cells #[.int .i64 c,.int .i64 d,v] 57)).cell? _=_;unfold World.cell?;rw [t1];rfl
 have x1:({heap:=(W.alloc (Obj.cells #[.int .i64 a,.int .i64 b,u] 57)).heap.push (Obj.cells #[.int .i64 c,.int .i64 d,v] 57),tape:=W.tape,drawn:=W.drawn,os:=(W.alloc (Obj.cells #[.int .i64 a,.int .i64 b,u] 57)).os,output:=(W.alloc (Obj.cells #[.int .i64 a,.int .i64 b,u] 57)).output}:World).cell? ⟨W.heap.size,1,none⟩=some (.int .i64 b):=by change ((W.alloc (Obj.cells #[.int .i64 a,.int .i64 b,u] 57)).alloc (Obj.cells #[.int .i64 c,.int .i64 d,v] 57)).cell? _=_;unfold World.cell?;rw [t1];rfl
 have y0:({heap:=(W.alloc (Obj.cells #[.int .i64 a,.int .i64 b,u] 57)).heap.push (Obj.cells #[.int .i64 c,.int .i64 d,v] 57),tape:=W.tape,drawn:=W.drawn,os:=(W.alloc (Obj.cells #[.int .i64 a,.int .i64 b,u] 57)).os,output:=(W.alloc (Obj.cells #[.int .i64 a,.int .i64 b,u] 57)).output}:World).cell? ⟨W.heap.size+1,0,none⟩=some (.int .i64 c):=by change ((W.alloc (Obj.cells #[.int .i64 a,.int .i64 b,u] 57)).alloc (Obj.cells #[.int .i64 c,.int .i64 d,v] 57)).cell? _=_;unfold World.cell?;rw [t2];rfl
 have y1:({heap:=(W.alloc (Obj.cells #[.int .i64 a,.int .i64 b,u] 57)).heap.push (Obj.cells #[.int .i64 c,.int .i64 d,v] 57),tape:=W.tape,drawn:=W.drawn,os:=(W.alloc (Obj.cells #[.int .i64 a,.int .i64 b,u] 57)).os,output:=(W.alloc (Obj.cells #[.int .i64 a,.int .i64 b,u] 57)).output}:World).cell? ⟨W.heap.size+1,1,none⟩=some (.int .i64 d):=by change ((W.alloc (Obj.cells #[.int .i64 a,.int .i64 b,u] 57)).alloc (Obj.cells #[.int .i64 c,.int .i64 d,v] 57)).cell? _=_;unfold World.cell?;rw [t2];rfl
 clear t1 t2
 have fin: ∀q os,grow ((({heap:=(W.alloc (Obj.cells #[.int .i64 a,.int .i64 b,u] 57)).heap.push (Obj.cells #[.int .i64 c,.int .i64 d,v] 57),tape:=W.tape,drawn:=W.drawn,os:=(W.alloc (Obj.cells #[.int .i64 a,.int .i64 b,u] 57)).os,output:=(W.alloc (Obj.cells #[.int .i64 a,.int .i64 b,u] 57)).output}:World)).drewN q) os=grow (W.drewN q) (#[(Obj.cells #[.int .i64 a,.int .i64 b,u] 57),(Obj.cells #[.int .i64 c,.int .i64 d,v] 57)]++os):=fun q os=>by
  change grow (((W.alloc (Obj.cells #[.int .i64 a,.int .i64 b,u] 57)).alloc (Obj.cells #[.int .i64 c,.int .i64 d,v] 57)).drewN q) os=_;rw [alloc_eq_grow,alloc_eq_grow,grow_grow];show grow ((grow W _).drewN q) os=_;unfold grow World.drewN;simp
 have K1:=K ({heap:=(W.alloc (Obj.cells #[.int .i64 a,.int .i64 b,u] 57)).heap.push (Obj.cells #[.int .i64 c,.int .i64 d,v] 57),tape:=W.tape,drawn:=W.drawn,os:=(W.alloc (Obj.cells #[.int .i64 a,.int .i64 b,u] 57)).os,output:=(W.alloc (Obj.cells #[.int .i64 a,.int .i64 b,u] 57)).output}:World);clear K
 go_enter Tryz.func43,Tryz.ntmps43
 go_wp2_with (go_at_call 44;refine K1.mono ?_;rintro e w' ⟨rfl,q,os,rfl⟩)
 go_ret
 exact ⟨rfl,q,_,rfl⟩
theorem HG (x y:Int):Lib.compareInt x y=mK x y:=by
 unfold Lib.compareInt mK;by_cases h1:x<y
 ·rw [if_pos h1,if_pos h1]
 ·rw [if_neg h1,if_neg h1];by_cases h2:x=y
  ·rw [if_pos h2,if_neg (by omega)]
  ·rw [if_neg h2,if_pos (by omega)]
theorem R7 (x y:Cell) (u v:Value) (hu:u.oneCell'=true) (hv:v.oneCell'=true) (W:World):
  Calls Tryz.prog 43 #[.agg #[.int .i64 x.1,.int .i64 x.2,u],.agg #[.int .i64 y.1,.int .i64 y.2,v]] W fun e w'=>e= .returned (.int .i64 (iW x y))∧ ∃q os',w'=grow (W.drewN q) os':=by
 have c: ∀a b W,Calls Tryz.prog 88 #[.int .i64 a,.int .i64 b] W fun e w'=>e= .returned (.int .i64 (mK a b))∧w'=W:=fun a b W=>by
  have h:=AnyG.cmp_Compare_int Tryz.NA a b W;rw [HG] at h;exact h
 refine Sa (mK x.1 y.1) (mK x.2 y.2) _ ?_ ?_ _ _ _ _ u v hu hv (c _ _) (c _ _) W
 ·intro h;unfold iW;rw [if_neg (by simpa using h)]
 ·intro h;unfold iW;rw [if_pos (by simpa using h)]
end Go.Proofs.YtfnkchadeaedlaaGreatDoor
