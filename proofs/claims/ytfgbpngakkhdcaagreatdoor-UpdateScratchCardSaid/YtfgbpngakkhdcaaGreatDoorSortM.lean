/- slices.SortFunc at structs by the shelf's contract: -/
import Derived.Test.YtfgbpngakkhdcaaGreatDoorAmSeat
import Derived.Lib.Small
import Derived.Lib.Walk
import Derived.StillTailTactics
import Derived.Test.YtfgbpngakkhdcaaGreatDoorShelf
import Derived.Test.YtfgbpngakkhdcaaGreatDoorStrM
import Derived.WalkKit
import Derived.Shelf.RegionOpenPlain
import Derived.Deep.LoopGhost
import Derived.Deep.RegionLaw
import Derived.Sort.WalkB12
import Derived.Lib.SliceRun
import Derived.Laws.IdiomCopy
import Derived.Deep.MidRow
open Array renaming getElem?_append_left->acP,getElem?_eq_getElem->adB,getElem?_modify->acQ,getElem?_push->acr
open List renaming drop_succ_cons->acX,drop_zero->acY,getElem!_eq_getElem?_getD->adN,getElem?_eq_getElem->aaF,getElem?_eq_some_iff->ab8,getElem_mem->aa8,take_succ_cons->adf,take_zero->adO
open Nat renaming add_mul->abx,add_zero->abT,mul_comm->acO,mul_le_mul_right->acF,zero_add->abz,zero_le->acH
open Option renaming map_some->aa1
set_option linter.all false
namespace Go.Am
open Go.Shelf Go.RowKit Go.Lib Go.Sort Go.Proofs
variable [Kn]
theorem nv.cell {g:Gh} {w:World} {sh:Hd} {sz:Nat} {es:List AV} {b cap:Nat} (h:nv g w sh sz es b cap): ∃(c:Array Value) (ty:TypeId) (fz:Nat×Nat),w.heap[b]?=some (.cells c ty fz)∧c.size=cap*sz∧max 1 es.length<=cap∧(∀t,sh.ty=some t->t=ty∧iP (if sh.out then es.length*sz else 0) c fz)∧
  (∀(i j:Nat) (e x:AV) (v:Value),es[i]?=some e->e.cells[j]?=some x->c[i*sz+j]?=some v->Rd g w x v∧v.oneCell'=true):=by
 obtain ⟨c,ty,fz,h1,h2,h3,h4,h5,_⟩:=h;exact ⟨c,ty,fz,h1,h2,h3,h4,h5⟩
section
variable {P:Program} {g:Gh} {bs:List ad} {w:World}
def rowOf (c:Array Value) (sz i:Nat):List Value:=(List.range sz).map fun j=>(c[i*sz+j]?).getD (.int .i64 0)
omit [Kn] in
theorem ud {c:Array Value} {sz i j:Nat} (hj:j<sz):(rowOf c sz i)[j]?=some ((c[i*sz+j]?).getD (.int .i64 0)):=by simp [rowOf,hj]
omit [Kn] in
theorem Es {α:Type} [Inhabited α] {enc:α->List Value} {k:Nat} {d:Array α} {i j:Nat} (hi:i<d.size) (hj:j<k) (he:(enc d[i]!).length=k):(flatK enc k d)[i*k+j]! =(enc d[i]!)[j]!:=by
 have hk:0<k:=by omega
 have h1:(i+1)*k<=d.size*k:=acF _ hi;rw [abx] at h1;have h2:(i*k+j) / k=i:=by rw [acO,Nat.mul_add_div hk,Nat.div_eq_of_lt hj,abT]
 have h3:(i*k+j)%k=j:=by rw [acO,Nat.mul_add_mod,Nat.mod_eq_of_lt hj]
 rw [get_flatK _ _ _ _ (by omega),h2,h3]
theorem Gu (hm:Mem g bs w) {k:Nat} {sh:Hd} {sz:Nat} {es:List AV} (hb:ad.at bs k= .sl sh sz es) (hout:sh.out=false) {ty:TypeId} (hty:sh.ty=some ty) (hsz:0<sz) {bw cap:Nat} (hge:g.e k= .sl es.length sz (some (bw,cap))) (hr:lI g w sh sz es (some (bw,cap)))
  [Inhabited (Fin es.length)] {c:Array Value} {ty':TypeId} {fz:Nat×Nat} (hc:w.heap[bw]?=some (.cells c ty' fz)) (d':Array (Fin es.length)) (hd:d'.size=es.length) (m:Nat) (os:Array Obj):
  ∃g',Mem g' (bs.set k (.sl ⟨sh.out,sh.ty,none⟩ sz (d'.toList.map fun i=>es[i]))) (sortWorldK (fun i:Fin es.length=>rowOf c sz i.val) sz w bw 0 m d' os)∧Le g w g' (sortWorldK (fun i:Fin es.length=>rowOf c sz i.val) sz w bw 0 m d' os)∧Fr g w g' (sortWorldK (fun i:Fin es.length=>rowOf c sz i.val) sz w bw 0 m d' os):=by
 generalize hW:sortWorldK (fun i:Fin es.length=>rowOf c sz i.val) sz w bw 0 m d' os=W;obtain ⟨hok,hrow⟩:=hr;obtain ⟨c',ty2,fz2,hc',hcs,hcap,hf',hrd⟩:=nv.cell hrow;rw [hc] at hc';cases hc';obtain ⟨rfl,hf⟩:=hf' ty hty;rw [hout] at hf;have hk:k<bs.length:=ff (by rw [hb];simp);have hblk:bw<w.heap.size:=bI hc;have hheap:W.heap=w.heap.modify bw (onCells (putCells id 0 (flatK (fun i:Fin es.length=>rowOf c sz i.val) sz d')))++os:=by subst hW;rfl
 have hold: ∀b2,b2<w.heap.size->b2≠bw->W.heap[b2]?=w.heap[b2]?:=fun b2 h1 h2=>by
  rw [hheap,acP (by simpa using h1),acQ,if_neg (Ne.symm h2)]
 have hnew:W.heap[bw]?=some (.cells (putCells id 0 (flatK (fun i:Fin es.length=>rowOf c sz i.val) sz d') c) ty fz):=by rw [hheap,acP (by simpa using hblk),acQ,if_pos rfl,hc];rfl
 have hsize:w.heap.size<=W.heap.size:=by rw [hheap];simp
 have hos:W.os=w.os:=by subst hW;rfl
 have htp:W.tape=w.tape:=by subst hW;rfl
 have hou:W.output=w.output:=by subst hW;rfl
 have hS: ∀b2 o,g.S b2 o->b2≠bw:=fun b2 o hs e=>by
  obtain ⟨_,sz',es',h1,_⟩:=(hm.cR b2 o hs).2 k (by rw [hge,e];rfl);rw [hb] at h1;cases h1;cases hout
 have hcell: ∀b2 o,g.S b2 o->W.cell? ⟨b2,o,none⟩=w.cell? ⟨b2,o,none⟩:=fun b2 o hs=>bS (hold b2 (hm.cR b2 o hs).1 (hS b2 o hs)) o;have hlen:(d'.toList.map fun i=>es[i]).length=es.length:=by simp [hd]
 have hle:Le g w (g.eE k (.sl es.length sz (some (bw,cap))) g.S) W:=⟨fun _ _ h=>h,hcell,fun l=>by
  by_cases e:k=l
  ·subst e;rw [Gh.aZ,hge];exact .same _
  ·rw [Gh.aX _ _ _ e];exact .same _⟩
 have hput: ∀o,o<es.length*sz->(putCells id 0 (flatK (fun i:Fin es.length=>rowOf c sz i.val) sz d') c)[o]?=some ((flatK (fun i:Fin es.length=>rowOf c sz i.val) sz d')[o]!):=fun o ho=>by
  have hco:o<c.size:=by have:es.length*sz<=cap*sz:=acF _ (by omega);omega
  simp only [putCells,Array.getElem?_mapIdx,adB hco,aa1];rw [if_pos ⟨acH _,by simp [hd];omega⟩];rfl
 have hgetel: ∀(i:Nat) (e:AV),(d'.toList.map fun i=>es[i])[i]?=some e-> ∃h:i<d'.size,es[d'[i].val]?=some e:=fun i e he=>by
  rw [List.getElem?_map] at he;cases hx:d'.toList[i]? with
  | none=>rw [hx] at he;cases he
  | some q=>
   rw [hx] at he;simp only [aa1,Option.some.injEq] at he;obtain ⟨h1,h2⟩:=ab8.1 hx;have h3:i<d'.size:=by simpa using h1
   refine ⟨h3,?_⟩;have h4:d'[i]=q:=by rw [<-h2];simp
   rw [h4,<-he];simp
 obtain ⟨m',l',f'⟩:=Mem.gQ (id:=k) (x:= .sl ⟨sh.out,sh.ty,none⟩ sz (d'.toList.map fun i=>es[i])) (ge:= .sl es.length sz (some (bw,cap))) (S':=g.S) hm hk (fun _ _ h=>h) hcell (by rw [hge];exact .same _)
  (fun b2 hb2 hne=>hold b2 hb2 (fun e=>hne (by rw [hge,e];rfl))) hsize (fun b2 h=> .inl (by rw [hge];exact h)) (by simp) (fun _ _ h=>by cases h)
  (fun sh' sz' es' hes'=>by
   cases hes';refine ⟨some (bw,cap),by rw [hlen],fun i e he=> ?_,_,ty,fz,hnew,by simpa [putCells] using hcs,by rw [hlen];exact hcap,fun t ht=>⟨by have ht:sh.ty=some t:=ht;rw [hty] at ht;cases ht;rfl,fun o _ ho=>hf o (acH _) (by simpa [putCells] using ho)⟩,fun i j e x q he hx hq=> ?_,fun h=>(by have h:sh.out=true:=h;rw [hout] at h;cases h),fun _ _ _ _ h=>(by cases h)⟩
   ·obtain ⟨hi,h1⟩:=hgetel i e he;exact hok _ _ h1
   ·obtain ⟨hi,h1⟩:=hgetel i e he;have hj:=ah hx;rw [(hok _ _ h1).2] at hj;have h2:(i+1)*sz<=es.length*sz:=acF _ (by omega);rw [abx] at h2;have hdi:(d'[i]!)=d'[i]:=by simp [hi]
    rw [hput _ (by omega),Es (by omega) hj (by simp [rowOf]),hdi] at hq;have hlt:=d'[i].isLt;have h3:(d'[i].val+1)*sz<=cap*sz:=acF _ (by omega);rw [abx] at h3;have h4:d'[i].val*sz+j<c.size:=by omega
    have hget:=ud (c:=c) (i:=d'[i].val) hj
    have hq2:q=c[d'[i].val*sz+j]:=by
     have h5:(rowOf c sz d'[i].val)[j]! =(rowOf c sz d'[i].val)[j]?.getD default:=by simp [adN]
     simp only [Option.some.injEq] at hq;rw [<-hq,h5,hget,adB h4];rfl
    have:=hrd _ j e x q h1 hx (by rw [hq2];exact adB h4);exact ⟨this.1.mono hle,this.2⟩)
  (fun b2 o h=> .inl h) (fun b2 o hs hblk=>by simp only [GE.bw,aa1,Option.some.injEq] at hblk;exact absurd hblk.symm (hS b2 o hs)) hos htp hou
 exact ⟨_,m',l',f'⟩
def sM (sz:Nat) (e:AV) (xs:List Value):Prop:=xs.length=sz∧(∀v∈xs,v.oneCell'=true)∧ ∀(j:Nat) (x:AV) (v:Value),e.cells[j]?=some x->xs[j]?=some v-> ∃g w,Rd g w x v
theorem Ei {ρ:Ren} (L:SlLaysF0.n6 P ρ) (hm:Mem g bs w) {k:Nat} {sh:Hd} {sz:Nat} {κ:Type} {ks:List κ} {φ:κ->AV} (hb:ad.at bs k= .sl sh sz (ks.map φ)) (hout:sh.out=false) {ty:TypeId} (hty:sh.ty=some ty) (hne:ks≠ []) (hsz:0<sz) (hlim:ks.length<4611686018427387904)
  (aE: ∀w,(isAgg (ρ.t 24)).run P w= .ok true w) (zE: ∀w,(Go.sizeOf (ρ.t 24)).run P w= .ok sz w) {v:Value} (hv:Rd g w (.ax k ks.length) v) (f:FuncId) (eg: ∀args w,(callFunc f args).run P w= .ok (.enter f args) w)
  (cmp:κ->κ->Int) (hcmp: ∀(x y:κ),x∈ks->y∈ks-> ∀(xs ys:List Value),sM sz (φ x) xs->sM sz (φ y) ys-> ∀W:World,Calls P f #[.agg xs.toArray,.agg ys.toArray] W fun e w'=>e= .returned (.int .i64 (cmp x y))∧ ∃q os',w'=grow (W.drewN q) os')
  (hO:SWO (ltOf cmp)) (hT: ∀x y,ltOf cmp x y=false->ltOf cmp y x=false->x=y) (hnd:ks.Nodup):
  Calls P (ρ.f 6) #[v,.func (.func f) #[] #[]] w (dE g w (bs.set k (.sl ⟨sh.out,sh.ty,none⟩ sz ((ks.mergeSort fun x y=> !ltOf cmp y x).map φ))) (.aL [])):=by
 obtain ⟨es,hes⟩: ∃es,es=ks.map φ:=⟨_,rfl⟩;have hel:es.length=ks.length:=by rw [hes,List.length_map]
 have hpos:0<es.length:=by rw [hel];exact List.length_pos_iff.2 hne
 rw [<-hes] at hb;rw [<-hel] at hv;obtain ⟨a,cap,rfl,_,loc,hge,hr,hl⟩:=hv.jN hm hb rfl;rcases hl with ⟨bw,rfl,rfl⟩ | ⟨_,h0,_⟩
 case inr=>rw [h0] at hpos;simp at hpos
 letI:Inhabited (Fin es.length):=⟨⟨0,hpos⟩⟩;obtain ⟨c,ty',fz,hc,hcs,hcap,hf',hrd⟩:=nv.cell hr.2;obtain ⟨rfl,hf⟩:=hf' ty hty;rw [hout] at hf;obtain ⟨d,hd⟩: ∃d:Array (Fin es.length),d=(List.finRange es.length).toArray:=⟨_,rfl⟩;have hds:d.size=es.length:=by rw [hd];simp
 have hcell: ∀i j,i<es.length->j<sz-> ∃q,c[i*sz+j]?=some q∧i*sz+j<c.size∧ ∀x,(es[i]?).bind (fun e=>e.cells[j]?)=some x->Rd g w x q∧q.oneCell'=true:=fun i j hi hj=>by
  have h1:(i+1)*sz<=cap*sz:=acF _ (by omega);rw [abx] at h1;have h2:i*sz+j<c.size:=by omega
  refine ⟨c[i*sz+j],adB h2,h2,fun x hx=> ?_⟩;rw [aaF hi] at hx;exact hrd i j es[i] x _ (aaF hi) hx (adB h2)
 have hcl: ∀i (hi:i<es.length),es[i].cells.length=sz:=fun i hi=>(hr.1 i es[i] (aaF hi)).2
 have h1c: ∀(i:Fin es.length),∀q∈rowOf c sz i.val,q.oneCell'=true:=fun i q hq=>by
  obtain ⟨j,hj,rfl⟩:=List.mem_map.1 hq;have hj:j<sz:=by simpa using hj
  obtain ⟨q,h1,h2,h3⟩:=hcell i.val j i.isLt hj;rw [h1];have hx:j<es[i.val].cells.length:=by rw [hcl _ i.isLt];exact hj
  exact (h3 es[i.val].cells[j] (by rw [aaF i.isLt];exact aaF hx)).2
 have hkl: ∀i:Fin es.length,i.val<ks.length:=fun i=>by rw [<-hel];exact i.isLt
 have hφ: ∀i:Fin es.length,es[i.val]=φ (ks[i.val]'(hkl i)):=fun i=>by simp [hes]
 have hrdc: ∀i:Fin es.length,sM sz (φ (ks[i.val]'(hkl i))) (rowOf c sz i.val):=fun i=>by
  refine ⟨by simp [rowOf],h1c i,fun j x q hx hq=> ?_⟩;rw [<-hφ i] at hx;have hj:=ah hx;rw [hcl _ i.isLt] at hj;obtain ⟨q',h1,h2,h3⟩:=hcell i.val j i.isLt hj;rw [ud hj,h1] at hq;simp only [Option.getD_some,Option.some.injEq] at hq;subst hq;exact ⟨g,w,(h3 x (by rw [aaF i.isLt];exact hx)).1⟩
 have hH:HoldsK (fun i:Fin es.length=>rowOf c sz i.val) sz w bw 0 d:=fun o ho=>by
  rw [size_flatK,hds] at ho;have hi:o / sz<es.length:=(Nat.div_lt_iff_lt_mul hsz).2 ho;have hj:o%sz<sz:=Nat.mod_lt _ hsz;have ho2:o / sz*sz+o%sz=o:=by rw [acO];exact Nat.div_add_mod o sz
  obtain ⟨q,h1,h2,_⟩:=hcell (o / sz) (o%sz) hi hj
  have hdi:d[o / sz]! =⟨o / sz,hi⟩:=by rw [getElem!_pos d _ (by omega)];simp [hd]
  have hfl:=Es (enc:=fun i:Fin es.length=>rowOf c sz i.val) (k:=sz) (d:=d) (i:=o / sz) (j:=o%sz) (by omega) hj (by simp [rowOf]);rw [ho2,hdi] at hfl;rw [hfl,abz,eJ hc];rw [ho2] at h1 h2;refine ⟨?_,qJ hc (fun o' h1 h2=>hf o' h1 h2) (acH _) h2⟩;have h5:(rowOf c sz (o / sz))[o%sz]! =(rowOf c sz (o / sz))[o%sz]?.getD default:=by simp [adN]
  show c[o]?=some (id ((rowOf c sz (o / sz))[o%sz]!));rw [h5,ud hj,ho2,h1];rfl
 have hO':SWO (ltOf fun i j:Fin es.length=>cmp (ks[i.val]'(hkl i)) (ks[j.val]'(hkl j))):=
  ⟨fun x=>hO.irrefl _,fun x y z=>hO.trans _ _ _,fun x y z=>hO.ntrans _ _ _⟩
 have K:=AnyQ.slices_SortFunc_total L sz aE zE (fun i:Fin es.length=>rowOf c sz i.val) (fun _=>by simp [rowOf]) h1c (fun i j=>cmp (ks[i.val]'(hkl i)) (ks[j.val]'(hkl j))) hO' f #[] bw 0 cap d w eg
  (fun m os dk _ x y=>hcmp _ _ (aa8 _) (aa8 _) _ _ (hrdc x) (hrdc y) _) hH (bI hc) (by rw [hds,hel];exact hlim)
  (fun x y h1 h2=>by
   have h3:=hT _ _ h1 h2;have hp:=List.pairwise_iff_getElem.1 hnd;rcases Nat.lt_trichotomy x.val y.val with h | h | h
   ·exact absurd h3 (hp _ _ (hkl x) (hkl y) h)
   ·exact Fin.ext h
   ·exact absurd h3.symm (hp _ _ (hkl y) (hkl x) h))
 rw [hds] at K;refine K.mono ?_;rintro e w' ⟨rfl,nd,os,rfl⟩;have hps:(d.toList.mergeSort fun x y=> !(ltOf fun i j:Fin es.length=>cmp (ks[i.val]'(hkl i)) (ks[j.val]'(hkl j))) y x).toArray.size=es.length:=by simp [hds]
 obtain ⟨g',m',l',f'⟩:=Gu hm hb hout hty hsz hge hr hc _ hps nd os;refine ⟨_,g',rfl,?_,l',f',.aL _ _ rfl (fun i c v h=>by simp at h)⟩
 have hfin:((d.toList.mergeSort fun x y=> !(ltOf fun i j:Fin es.length=>cmp (ks[i.val]'(hkl i)) (ks[j.val]'(hkl j))) y x).map fun i=>es[i])=(ks.mergeSort fun x y=> !ltOf cmp y x).map φ:=by
  have e1:(d.toList.map fun i:Fin es.length=>ks[i.val]'(hkl i))=ks:=by
   rw [hd];apply List.ext_getElem
   ·simp [hel]
   ·intro i h1 h2;simp
  have e2:=List.map_mergeSort (r:=fun x y:Fin es.length=> !(ltOf fun i j:Fin es.length=>cmp (ks[i.val]'(hkl i)) (ks[j.val]'(hkl j))) y x) (s:=fun x y=> !ltOf cmp y x) (f:=fun i:Fin es.length=>ks[i.val]'(hkl i)) (l:=d.toList) (fun a _ b _=>rfl);rw [e1] at e2;rw [<-e2,List.map_map];exact List.map_congr_left fun i _=>hφ i
 rw [<-hfin];exact m'
end
end Go.Am
namespace Go.Proofs.YtfgbpngakkhdcaaGreatDoor
open Go.Proofs Go.Lib Go.Sort
set_option maxHeartbeats 2000000
set_option maxRecDepth 100000
theorem P7 (a b r:Int) (h1:(a !=0)=true->r=a) (h2:(a !=0)=false->r=b) (bw cap:Nat) (W:World) (ha:W.cell? ⟨bw,0,none⟩=some (.int .i64 a)) (hb:W.cell? ⟨bw,1,none⟩=some (.int .i64 b)):
  Calls Tryz.prog 59 #[.slice (some ⟨bw,0,none⟩) 2 cap] W fun e w'=>e= .returned (.int .i64 r)∧w'=W:=by
 go_enter Tryz.func59,Tryz.ntmps59
 go_wp2
 refine wp_loop_rounds 3 ?_;rw [rounds_succ]
 go_wp2
 ·go_ret
  exact ⟨by rw [h1 (by assumption)];rfl,rfl⟩
 rw [rounds_succ]
 go_wp2
 ·go_ret
  exact ⟨by rw [h2 (by assumption)];rfl,rfl⟩
 rw [rounds_succ]
 go_wp2
 go_ret
 have e1:r=b:=h2 (by assumption);have e2:(b !=0)=false:=by assumption
 have e3:b=0:=by simpa using e2
 refine ⟨?_,rfl⟩;rw [e1,e3];rfl
theorem nc (W:World) (c:Array Value) (ty:TypeId) (i:Nat) (v:Value) (h:c[i]?=some v):(W.alloc (.cells c ty)).cell? ⟨W.heap.size,i,none⟩=some v:=by
 have h1:(W.alloc (.cells c ty)).heap[W.heap.size]?=some (.cells c ty):=by show (W.heap.push _)[W.heap.size]?=_;simp
 unfold World.cell?;rw [h1];exact h
theorem ue (W:World) (o1 o2:Obj):((W.alloc o1).alloc o2).heap[W.heap.size]?=some o1∧((W.alloc o1).alloc o2).heap[W.heap.size+1]?=some o2:=by
 constructor
 ·show ((W.heap.push o1).push o2)[W.heap.size]?=_;rw [acr,if_neg (by simp),acr,if_pos rfl]
 ·show ((W.heap.push o1).push o2)[W.heap.size+1]?=_;rw [acr,if_pos (by simp)]
def YF (W W2:World):Prop:= ∃q os,W2=grow (W.drewN q) os
theorem Xt (r1 r2 r:Int) (h1:(r1 !=0)=true->r=r1) (h2:(r1 !=0)=false->r=r2) (a b c d:Int)
  (c1: ∀W,Calls Tryz.prog 60 #[.int .i64 a,.int .i64 c] W fun e w'=>e= .returned (.int .i64 r1)∧w'=W)
  (c2: ∀W,Calls Tryz.prog 60 #[.int .i64 b,.int .i64 d] W fun e w'=>e= .returned (.int .i64 r2)∧w'=W) (W:World):
  Calls Tryz.prog 116 #[.agg #[.int .i64 a,.int .i64 b],.agg #[.int .i64 c,.int .i64 d]] W fun e w'=>e= .returned (.int .i64 r)∧ ∃q os',w'=grow (W.drewN q) os':=by
 go_enter Tryz.func116,Tryz.ntmps116
 go_wp2
 obtain ⟨W2,hW2⟩: ∃W2,W2=(W.alloc (Obj.cells #[.int .i64 a,.int .i64 b] 78)).alloc (Obj.cells #[.int .i64 c,.int .i64 d] 78):=⟨_,rfl⟩;change Code.wp _ _ _ _ ((W.alloc (Obj.cells #[.int .i64 a,.int .i64 b] 78)).alloc (Obj.cells #[.int .i64 c,.int .i64 d] 78));rw [<-hW2];have hg:YF W W2:=⟨0, #[Obj.cells #[.int .i64 a,.int .i64 b] 78,Obj.cells #[.int .i64 c,.int .i64 d] 78],by rw [hW2,alloc_eq_grow,alloc_eq_grow,grow_grow];rfl⟩;obtain ⟨t1,t2⟩:=ue W (Obj.cells #[.int .i64 a,.int .i64 b] 78) (Obj.cells #[.int .i64 c,.int .i64 d] 78);rw [<-hW2] at t1 t2;have x0:W2.cell? ⟨W.heap.size,0,none⟩=some (.int .i64 a):=by unfold World.cell?;rw [t1];rfl
 have x1:W2.cell? ⟨W.heap.size,1,none⟩=some (.int .i64 b):=by unfold World.cell?;rw [t1];rfl
 have y0:W2.cell? ⟨W.heap.size+1,0,none⟩=some (.int .i64 c):=by unfold World.cell?;rw [t2];rfl
 have y1:W2.cell? ⟨W.heap.size+1,1,none⟩=some (.int .i64 d):=by unfold World.cell?;rw [t2];rfl
 clear hW2 t1 t2;have c1':=c1 W2.drew;have c2':=c2 W2.drew;refine wp_region_still_tail 10 (by kernel_rfl) (by kernel_rfl) ?_;simp only [adf,adO,acX,acY]
 repeat still_step
 still_call c1'
 repeat still_step
 still_call c2'
 refine wpStill_nil ?_;change wpList _ _ _ _ _ W2.drew
 have hg3:YF W W2.drew:=by obtain ⟨q,os,h⟩:=hg;exact ⟨q+1,os,by rw [h];rfl⟩
 clear hg c1' c2' c1 c2;generalize W2.drew=W3 at*
 clear x0 x1 y0 y1
 go_wp2_with (go_at_call 59;refine (P7 r1 r2 r h1 h2 _ _ _ (nc _ _ _ _ _ rfl) (nc _ _ _ _ _ rfl)).mono ?_;rintro e w' ⟨rfl,rfl⟩)
 go_ret
 refine ⟨rfl,?_⟩;obtain ⟨q,os,h⟩:=hg3;exact ⟨q,os.push (Obj.cells #[.int .i64 r1,.int .i64 r2] 3),by rw [h,alloc_eq_grow,grow_grow];rfl⟩
theorem Xu (r1 r2 r:Int) (h1:(r1 !=0)=true->r=r1) (h2:(r1 !=0)=false->r=r2) (a b c d:Int) (u v:Value) (hu:u.oneCell'=true) (hv:v.oneCell'=true)
  (c1: ∀W,Calls Tryz.prog 60 #[.int .i64 a,.int .i64 c] W fun e w'=>e= .returned (.int .i64 r1)∧w'=W)
  (c2: ∀W,Calls Tryz.prog 60 #[.int .i64 b,.int .i64 d] W fun e w'=>e= .returned (.int .i64 r2)∧w'=W) (W:World):
  Calls Tryz.prog 115 #[.agg #[.int .i64 a,.int .i64 b,u],.agg #[.int .i64 c,.int .i64 d,v]] W fun e w'=>e= .returned (.int .i64 r)∧ ∃q os',w'=grow (W.drewN q) os':=by
 have K:=fun W=>Xt r1 r2 r h1 h2 a b c d c1 c2 W;clear c1 c2;obtain ⟨t1,t2⟩:=ue W (Obj.cells #[.int .i64 a,.int .i64 b,u] 99) (Obj.cells #[.int .i64 c,.int .i64 d,v] 99)
 have x0:({heap:=(W.alloc (Obj.cells #[.int .i64 a,.int .i64 b,u] 99)).heap.push (Obj.cells #[.int .i64 c,.int .i64 d,v] 99),tape:=W.tape,drawn:=W.drawn,os:=(W.alloc (Obj.cells #[.int .i64 a,.int .i64 b,u] 99)).os,output:=(W.alloc (Obj.cells #[.int .i64 a,.int .i64 b,u] 99)).output}:World).cell? ⟨W.heap.size,0,none⟩=some (.int .i64 a):=by change ((W.alloc (Obj.cells #[.int .i64 a,.int .i64 b,u] 99)).alloc (Obj.cells #[.int .i64 c,.int .i64 d,v] 99)).cell? _=_;unfold World.cell?;rw [t1];rfl
 have x1:({heap:=(W.alloc (Obj.cells #[.int .i64 a,.int .i64 b,u] 99)).heap.push (Obj.cells #[.int .i64 c,.int .i64 d,v] 99),tape:=W.tape,drawn:=W.drawn,os:=(W.alloc (Obj.cells #[.int .i64 a,.int .i64 b,u] 99)).os,output:=(W.alloc (Obj.cells #[.int .i64 a,.int .i64 b,u] 99)).output}:World).cell? ⟨W.heap.size,1,none⟩=some (.int .i64 b):=by change ((W.alloc (Obj.cells #[.int .i64 a,.int .i64 b,u] 99)).alloc (Obj.cells #[.int .i64 c,.int .i64 d,v] 99)).cell? _=_;unfold World.cell?;rw [t1];rfl
 have y0:({heap:=(W.alloc (Obj.cells #[.int .i64 a,.int .i64 b,u] 99)).heap.push (Obj.cells #[.int .i64 c,.int .i64 d,v] 99),tape:=W.tape,drawn:=W.drawn,os:=(W.alloc (Obj.cells #[.int .i64 a,.int .i64 b,u] 99)).os,output:=(W.alloc (Obj.cells #[.int .i64 a,.int .i64 b,u] 99)).output}:World).cell? ⟨W.heap.size+1,0,none⟩=some (.int .i64 c):=by change ((W.alloc (Obj.cells #[.int .i64 a,.int .i64 b,u] 99)).alloc (Obj.cells #[.int .i64 c,.int .i64 d,v] 99)).cell? _=_;unfold World.cell?;rw [t2];rfl
 have y1:({heap:=(W.alloc (Obj.cells #[.int .i64 a,.int .i64 b,u] 99)).heap.push (Obj.cells #[.int .i64 c,.int .i64 d,v] 99),tape:=W.tape,drawn:=W.drawn,os:=(W.alloc (Obj.cells #[.int .i64 a,.int .i64 b,u] 99)).os,output:=(W.alloc (Obj.cells #[.int .i64 a,.int .i64 b,u] 99)).output}:World).cell? ⟨W.heap.size+1,1,none⟩=some (.int .i64 d):=by change ((W.alloc (Obj.cells #[.int .i64 a,.int .i64 b,u] 99)).alloc (Obj.cells #[.int .i64 c,.int .i64 d,v] 99)).cell? _=_;unfold World.cell?;rw [t2];rfl
 clear t1 t2
 have fin: ∀q os,grow ((({heap:=(W.alloc (Obj.cells #[.int .i64 a,.int .i64 b,u] 99)).heap.push (Obj.cells #[.int .i64 c,.int .i64 d,v] 99),tape:=W.tape,drawn:=W.drawn,os:=(W.alloc (Obj.cells #[.int .i64 a,.int .i64 b,u] 99)).os,output:=(W.alloc (Obj.cells #[.int .i64 a,.int .i64 b,u] 99)).output}:World)).drewN q) os=grow (W.drewN q) (#[(Obj.cells #[.int .i64 a,.int .i64 b,u] 99),(Obj.cells #[.int .i64 c,.int .i64 d,v] 99)]++os):=fun q os=>by
  change grow (((W.alloc (Obj.cells #[.int .i64 a,.int .i64 b,u] 99)).alloc (Obj.cells #[.int .i64 c,.int .i64 d,v] 99)).drewN q) os=_;rw [alloc_eq_grow,alloc_eq_grow,grow_grow];show grow ((grow W _).drewN q) os=_;unfold grow World.drewN;simp
 have K1:=K ({heap:=(W.alloc (Obj.cells #[.int .i64 a,.int .i64 b,u] 99)).heap.push (Obj.cells #[.int .i64 c,.int .i64 d,v] 99),tape:=W.tape,drawn:=W.drawn,os:=(W.alloc (Obj.cells #[.int .i64 a,.int .i64 b,u] 99)).os,output:=(W.alloc (Obj.cells #[.int .i64 a,.int .i64 b,u] 99)).output}:World);clear K
 go_enter Tryz.func115,Tryz.ntmps115
 go_wp2_with (go_at_call 116;refine K1.mono ?_;rintro e w' ⟨rfl,q,os,rfl⟩)
 go_ret
 exact ⟨rfl,q,_,rfl⟩
theorem Et (x y:Int):Lib.compareInt x y=kU x y:=by
 unfold Lib.compareInt kU;by_cases h1:x<y
 ·rw [if_pos h1,if_pos h1]
 ·rw [if_neg h1,if_neg h1];by_cases h2:x=y
  ·rw [if_pos h2,if_neg (by omega)]
  ·rw [if_neg h2,if_pos (by omega)]
theorem W5 (x y:Cell) (u v:Value) (hu:u.oneCell'=true) (hv:v.oneCell'=true) (W:World):
  Calls Tryz.prog 115 #[.agg #[.int .i64 x.1,.int .i64 x.2,u],.agg #[.int .i64 y.1,.int .i64 y.2,v]] W fun e w'=>e= .returned (.int .i64 (gr x y))∧ ∃q os',w'=grow (W.drewN q) os':=by
 have c: ∀a b W,Calls Tryz.prog 60 #[.int .i64 a,.int .i64 b] W fun e w'=>e= .returned (.int .i64 (kU a b))∧w'=W:=fun a b W=>by
  have h:=AnyG.cmp_Compare_int Tryz.Ma a b W;rw [Et] at h;exact h
 refine Xu (kU x.1 y.1) (kU x.2 y.2) _ ?_ ?_ _ _ _ _ u v hu hv (c _ _) (c _ _) W
 ·intro h;unfold gr;rw [if_neg (by simpa using h)]
 ·intro h;unfold gr;rw [if_pos (by simpa using h)]
end Go.Proofs.YtfgbpngakkhdcaaGreatDoor
namespace Go.Proofs.YtfgbpngakkhdcaaGreatDoor
open Go.Proofs Go.Lib Go.Sort
set_option maxHeartbeats 2000000
set_option maxRecDepth 100000
theorem OT (r1 r2 r:Int) (h1:(r1 !=0)=true->r=r1) (h2:(r1 !=0)=false->r=r2) (a b c d:Int)
  (c1: ∀W,Calls Tryz.prog 60 #[.int .i64 a,.int .i64 c] W fun e w'=>e= .returned (.int .i64 r1)∧w'=W)
  (c2: ∀W,Calls Tryz.prog 60 #[.int .i64 b,.int .i64 d] W fun e w'=>e= .returned (.int .i64 r2)∧w'=W) (W:World):
  Calls Tryz.prog 58 #[.agg #[.int .i64 a,.int .i64 b],.agg #[.int .i64 c,.int .i64 d]] W fun e w'=>e= .returned (.int .i64 r)∧ ∃q os',w'=grow (W.drewN q) os':=by
 go_enter Tryz.func58,Tryz.ntmps58
 go_wp2
 obtain ⟨W2,hW2⟩: ∃W2,W2=(W.alloc (Obj.cells #[.int .i64 a,.int .i64 b] 78)).alloc (Obj.cells #[.int .i64 c,.int .i64 d] 78):=⟨_,rfl⟩;change Code.wp _ _ _ _ ((W.alloc (Obj.cells #[.int .i64 a,.int .i64 b] 78)).alloc (Obj.cells #[.int .i64 c,.int .i64 d] 78));rw [<-hW2];have hg:YF W W2:=⟨0, #[Obj.cells #[.int .i64 a,.int .i64 b] 78,Obj.cells #[.int .i64 c,.int .i64 d] 78],by rw [hW2,alloc_eq_grow,alloc_eq_grow,grow_grow];rfl⟩;obtain ⟨t1,t2⟩:=ue W (Obj.cells #[.int .i64 a,.int .i64 b] 78) (Obj.cells #[.int .i64 c,.int .i64 d] 78);rw [<-hW2] at t1 t2;have x0:W2.cell? ⟨W.heap.size,0,none⟩=some (.int .i64 a):=by unfold World.cell?;rw [t1];rfl
 have x1:W2.cell? ⟨W.heap.size,1,none⟩=some (.int .i64 b):=by unfold World.cell?;rw [t1];rfl
 have y0:W2.cell? ⟨W.heap.size+1,0,none⟩=some (.int .i64 c):=by unfold World.cell?;rw [t2];rfl
 have y1:W2.cell? ⟨W.heap.size+1,1,none⟩=some (.int .i64 d):=by unfold World.cell?;rw [t2];rfl
 clear hW2 t1 t2;have c1':=c1 W2.drew;have c2':=c2 W2.drew;refine wp_region_still_tail 10 (by kernel_rfl) (by kernel_rfl) ?_;simp only [adf,adO,acX,acY]
 repeat still_step
 still_call c1'
 repeat still_step
 still_call c2'
 refine wpStill_nil ?_;change wpList _ _ _ _ _ W2.drew
 have hg3:YF W W2.drew:=by obtain ⟨q,os,h⟩:=hg;exact ⟨q+1,os,by rw [h];rfl⟩
 clear hg c1' c2' c1 c2;generalize W2.drew=W3 at*
 clear x0 x1 y0 y1
 go_wp2_with (go_at_call 59;refine (P7 r1 r2 r h1 h2 _ _ _ (nc _ _ _ _ _ rfl) (nc _ _ _ _ _ rfl)).mono ?_;rintro e w' ⟨rfl,rfl⟩)
 go_ret
 refine ⟨rfl,?_⟩;obtain ⟨q,os,h⟩:=hg3;exact ⟨q,os.push (Obj.cells #[.int .i64 r1,.int .i64 r2] 3),by rw [h,alloc_eq_grow,grow_grow];rfl⟩
theorem W6 (x y:Cell) (W:World):
  Calls Tryz.prog 58 #[.agg #[.int .i64 x.1,.int .i64 x.2],.agg #[.int .i64 y.1,.int .i64 y.2]] W fun e w'=>e= .returned (.int .i64 (gr x y))∧ ∃q os',w'=grow (W.drewN q) os':=by
 have c: ∀a b W,Calls Tryz.prog 60 #[.int .i64 a,.int .i64 b] W fun e w'=>e= .returned (.int .i64 (kU a b))∧w'=W:=fun a b W=>by
  have h:=AnyG.cmp_Compare_int Tryz.Ma a b W;rw [Et] at h;exact h
 refine OT (kU x.1 y.1) (kU x.2 y.2) _ ?_ ?_ _ _ _ _ (c _ _) (c _ _) W
 ·intro h;unfold gr;rw [if_neg (by simpa using h)]
 ·intro h;unfold gr;rw [if_pos (by simpa using h)]
end Go.Proofs.YtfgbpngakkhdcaaGreatDoor
namespace Go.Proofs.YtfgbpngakkhdcaaGreatDoor
open Go.Proofs Go.Lib Go.Sort Go.RowKit Go.Shelf
set_option maxHeartbeats 4000000
set_option maxRecDepth 1000000
def Oy:List Value:= [.int .i64 0,.int .i64 0,.string ⟨#[]⟩]
theorem OU (w:World):(zeroValue 99).run Tryz.prog w= .ok (.agg #[.int .i64 0,.int .i64 0,.string ⟨#[]⟩]) w:=by kernel_rfl
theorem Md (w:World) (ty:TypeId) (b o c:Nat) (hc: ∀j,j<3->(w.cell? ⟨b,o+j,none⟩).isSome=true) (hf: ∀j,j<3->w.frozen? ⟨b,o+j,none⟩=false):
  (Builtin.clear_ #[55] ty #[.slice (some ⟨b,o,none⟩) 1 c]).run Tryz.prog w= .ok (.tuple #[]) (w.setCells b o Oy):=by
 have ht:Tryz.prog.underlying 55=some (.slice 99):=by kernel_rfl
 have hst:=run_storeCells_cells (P:=Tryz.prog) b o Oy 0 w (by simpa [Oy] using hc) (by simpa [Oy] using hf) (by intro v hv';simp only [Oy,List.mem_cons,List.not_mem_nil,or_false] at hv';rcases hv' with rfl | rfl | rfl <;> rfl);simp only [abT] at hst;have hz:(Builtin.zeroCells (Value.agg #[.int .i64 0,.int .i64 0,.string ⟨#[]⟩]).cells 1).toList=Oy:=by kernel_rfl
 simp [Builtin.clear_,run_underlying ht,OU,hz,hst]
theorem Sw (w:World) (bw m cap i:Nat) (d:List Value) (hd:d.length=(i+1+m)*3) (hH: ∀o,o<(i+1+m)*3->w.cell? ⟨bw,o,none⟩=some (d.getD o (.int .i64 0))∧w.frozen? ⟨bw,o,none⟩=false) (h1: ∀v∈d,v.oneCell'=true) (hcap:i+1+m<=cap):
  Calls Tryz.prog 78 #[.slice (some ⟨bw,0,none⟩) (i+1+m) cap,.int .i64 i,.int .i64 (i+1)] w fun e w'=>e= .returned (.slice (some ⟨bw,0,none⟩) (i+m) cap)∧ ∃q,w'=((Sort.ahead w q).setCells bw (i*3) (d.drop ((i+1)*3))).setCells bw ((i+m)*3) Oy:=by
 obtain ⟨news,hnews⟩: ∃news,news=d.drop ((i+1)*3):=⟨_,rfl⟩;have hlen:news.length=m*3:=by rw [hnews,List.length_drop,hd];omega
 have hget: ∀t,t<m*3->news[t]?=some (d.getD ((i+1)*3+t) (.int .i64 0)):=by intro t ht;rw [hnews,List.getElem?_drop,List.getD_eq_getElem?_getD,aaF (by omega)];rfl
 obtain ⟨A,hA,hsrc⟩: ∃A:Addr,(if cap=i+1 then (some (⟨bw,0,none⟩:Addr)) else some ⟨bw,(i+1)*3,none⟩)=some A∧Hid (∀t u,news[t]?=some u->w.drew.cell? (A.add t)=some u):=by
  by_cases h:cap=i+1
  ·refine ⟨⟨bw,0,none⟩,by simp [h],fun t u hu=> ?_⟩;have h0:news.length=0:=by rw [hlen];omega
   rw [List.length_eq_zero_iff.1 h0] at hu;simp at hu
  ·refine ⟨⟨bw,(i+1)*3,none⟩,by simp [h],fun t u hu=> ?_⟩
   have ht:t<m*3:=by
    have:=(ab8.1 hu).1
    rwa [hlen] at this
   rw [hget t ht] at hu;rw [Addr.add_lit];exact (hH _ (by omega)).1.trans hu
 have s1:Hid (news.length=m*3):=hlen
 have s2:Hid (∀u∈news,u.oneCell'=true):=by intro u hu;rw [hnews] at hu;exact h1 u (List.mem_of_mem_drop hu)
 have s3:Hid (∀t,t<news.length->(w.drew.cell? ⟨bw,0+i*3+t,none⟩).isSome=true∧w.drew.frozen? ⟨bw,0+i*3+t,none⟩=false):=by intro t ht;rw [hlen] at ht;rw [abz];exact ⟨by show (w.cell? _).isSome=true;rw [(hH (i*3+t) (by omega)).1];rfl,(hH (i*3+t) (by omega)).2⟩
 obtain ⟨W1,hW1⟩: ∃W1,W1=w.drew.setCells bw (0+i*3) news:=⟨_,rfl⟩
 have hc1: ∀o,o<(i+1+m)*3->(W1.cell? ⟨bw,o,none⟩).isSome=true∧W1.frozen? ⟨bw,o,none⟩=false:=by
  intro o ho;obtain ⟨h2,h3⟩:=hH o ho;rw [hW1];refine ⟨?_,?_⟩
  ·exact World.isSome_setCells bw news _ _ _ (by show (w.cell? _).isSome=true;rw [h2];rfl)
  ·rw [World.frozen?_setCells];exact h3
 have hcl: ∀ty,(Builtin.clear_ #[55] ty #[.slice (some ⟨bw,(i+m)*3,none⟩) (i+1+m-(i+m)) (cap-(i+m))]).run Tryz.prog W1= .ok (.tuple #[]) (W1.setCells bw ((i+m)*3) Oy):=
  fun ty=>by
   rw [show i+1+m-(i+m)=1 by omega];exact Md W1 ty bw _ _ (fun j hj=>(hc1 _ (by omega)).1) (fun j hj=>(hc1 _ (by omega)).2)
 have X:Aside (W1=(Sort.ahead w 1).setCells bw (i*3) (d.drop ((i+1)*3))):=by rw [hW1,hnews,abz];rfl
 have hW:Hid (W1=w.drew.setCells bw (0+i*3) news):=hW1;have t0:Tryz.prog.underlying 55=some (.slice 99):=by kernel_rfl
 have hi1:(Tryz.prog.info? 99).isSome=true:=by kernel_rfl
 have hi2:(Tryz.prog.info? 99).map (·.size)=some 3:=by kernel_rfl
 obtain ⟨i0,hi0⟩:=Option.isSome_iff_exists.1 hi1;have hz1:i0.size=3:=by rw [hi0] at hi2;simpa using hi2
 clear hi1 hi2;have mixed:Tryz.prog.follows .mixedOrders=true:=by kernel_rfl
 have hb:0<=(i:Int)+1∧(i:Int)+1<=(i:Int)+1+(m:Int):=⟨by omega,by omega⟩;have hic:i<=cap:=by omega
 have hjc:i+1<=cap:=by omega
 clear hW1 hc1 hH hget hnews hlen
 go_enter Tryz.func78,Tryz.ntmps78
 go_wp2_with fail
 go_region_law_o (refine step_append_room rfl (.tmp 22) (.tmp 25) 55 rfl 99 i0 3 t0 hi0 hz1 bw 0 i cap (by simp [Act.eval,Act.put]) A m (cap-(i+1)) news (by simp [Act.eval,Act.put]) s1.out hsrc.out s2.out (by omega) s3.out ?_;rw [<-hW.out])
 go_wp2
 go_ret
 refine ⟨rfl,1,?_⟩;rw [<-X.out]
end Go.Proofs.YtfgbpngakkhdcaaGreatDoor
