/- slices.SortFunc at structs by the shelf's contract: -/
import Derived.Test.YtfgbpngakkhdcaaGreatDoorAmSeat
import Derived.Lib.Small
import Derived.Lib.Walk
import Derived.StillTailTactics
import Derived.Test.YtfgbpngakkhdcaaGreatDoorShelf
import Derived.Test.YtfgbpngakkhdcaaGreatDoorStrM
import Derived.WalkKit
import Derived.Shelf.RegionOpenPlain
import Derived.Deep.LoopGhost
import Derived.Deep.RegionLaw
import Derived.Sort.WalkB12
import Derived.Lib.SliceRun
import Derived.Laws.IdiomCopy
import Derived.Deep.MidRow
open Array renaming getElem?_append_left->R,getElem?_eq_getElem->F,getElem?_modify->V,getElem?_push->Q
open Bool renaming true->θ
open Go renaming Calls->N,TypeId->ο,Value->O,World->I,rounds_succ->ν
open Go.Lib renaming compareInt->τ
open List renaming length->Ê,drop_succ_cons->γ,drop_zero->σ,getElem!_eq_getElem?_getD->M,getElem?_eq_getElem->B,getElem_mem->η,take_succ_cons->Z,take_zero->π
open Nat renaming add_mul->Y,add_zero->υ,mul_comm->ε,mul_le_mul_right->G,zero_add->ζ,zero_le->ι
open Option renaming none->H,some->C,map_some->U
open Option.some renaming injEq->J
open _root_ renaming Array->μ,List->χ,Nat->ξ,if_neg->δ,if_pos->T
set_option linter.all false
namespace Go.Am
open Go.Shelf Go.RowKit Go.Lib Go.Sort Go.Proofs
variable [Kn]
theorem oC.cell {g:Gh} {w:I} {sh:Hd} {sz:ξ} {es:χ AV} {b cap:ξ} (h:oC g w sh sz es b cap): ∃(c:μ O) (ty:ο) (fz:ξ×ξ),w.heap[b]?=C (.cells c ty fz)/\c.size=cap*sz/\max 1 (Ê es)<=cap/\(∀t,sh.ty=C t->t=ty/\jk (if sh.out then (Ê es)*sz else 0) c fz)/\
  (∀(i j:ξ) (e x:AV) (v:O),es[i]?=C e->e.cells[j]?=C x->c[i*sz+j]?=C v->Rd g w x v/\v.oneCell'=θ):=by
 obtain ⟨c,ty,fz,h1,h2,h3,h4,h5,_⟩:=h;exact ⟨c,ty,fz,h1,h2,h3,h4,h5⟩
section
variable {P:Program} {g:Gh} {bs:χ af} {w:I}
def rowOf (c:μ O) (sz i:ξ):χ O:=(List.range sz).map fun j=>(c[i*sz+j]?).getD (.int .i64 0)
omit [Kn] in
theorem vt {c:μ O} {sz i j:ξ} (hj:j<sz):(rowOf c sz i)[j]?=C ((c[i*sz+j]?).getD (.int .i64 0)):=by simp [rowOf,hj]
omit [Kn] in
theorem GD {α:Type} [Inhabited α] {enc:α->χ O} {k:ξ} {d:μ α} {i j:ξ} (hi:i<d.size) (hj:j<k) (he:(enc d[i]!).length=k):(flatK enc k d)[i*k+j]! =(enc d[i]!)[j]!:=by
 have hk:0<k:=by omega
 have h1:(i+1)*k<=d.size*k:=G _ hi;rw [Y] at h1;have h2:(i*k+j) / k=i:=by rw [ε,Nat.mul_add_div hk,Nat.div_eq_of_lt hj,υ]
 have h3:(i*k+j)%k=j:=by rw [ε,Nat.mul_add_mod,Nat.mod_eq_of_lt hj]
 rw [get_flatK _ _ _ _ (by omega),h2,h3]
theorem IL (hm:Mem g bs w) {k:ξ} {sh:Hd} {sz:ξ} {es:χ AV} (hb:af.at bs k= .sl sh sz es) (Ą:sh.out=false) {ty:ο} (Ď:sh.ty=C ty) (ĕ:0<sz) {bM cap:ξ} (ċ:g.e k= .sl (Ê es) sz (C (bM,cap))) (hr:mL g w sh sz es (C (bM,cap)))
  [Inhabited (Fin (Ê es))] {c:μ O} {ty':ο} {fz:ξ×ξ} (hc:w.heap[bM]?=C (.cells c ty' fz)) (d':μ (Fin (Ê es))) (hd:d'.size=Ê es) (m:ξ) (os:μ Obj):
  ∃g',Mem g' (bs.set k (.sl ⟨sh.out,sh.ty,H⟩ sz (d'.toList.map fun i=>es[i]))) (sortWorldK (fun i:Fin (Ê es)=>rowOf c sz i.val) sz w bM 0 m d' os)/\Le g w g' (sortWorldK (fun i:Fin (Ê es)=>rowOf c sz i.val) sz w bM 0 m d' os)/\Fr g w g' (sortWorldK (fun i:Fin (Ê es)=>rowOf c sz i.val) sz w bM 0 m d' os):=by
 generalize hW:sortWorldK (fun i:Fin (Ê es)=>rowOf c sz i.val) sz w bM 0 m d' os=W;obtain ⟨hok,Ę⟩:=hr;obtain ⟨c',ty2,fz2,ĩ,Ī,Č,ę,Ě⟩:=oC.cell Ę;rw [hc] at ĩ;cases ĩ;obtain ⟨rfl,hf⟩:=ę ty Ď;rw [Ą] at hf;have hk:k<Ê bs:=fA (by rw [hb];simp);have Ĉ:bM<w.heap.size:=bV hc;have ą:W.heap=w.heap.modify bM (onCells (putCells id 0 (flatK (fun i:Fin (Ê es)=>rowOf c sz i.val) sz d')))++os:=by subst hW;rfl
 have ď: ∀b2,b2<w.heap.size->b2≠bM->W.heap[b2]?=w.heap[b2]?:=fun b2 h1 h2=>by
  rw [ą,R (by simpa using h1),V,δ (Ne.symm h2)]
 have ě:W.heap[bM]?=C (.cells (putCells id 0 (flatK (fun i:Fin (Ê es)=>rowOf c sz i.val) sz d') c) ty fz):=by rw [ą,R (by simpa using Ĉ),V,T rfl,hc];rfl
 have Đ:w.heap.size<=W.heap.size:=by rw [ą];simp
 have į:W.os=w.os:=by subst hW;rfl
 have İ:W.tape=w.tape:=by subst hW;rfl
 have ı:W.output=w.output:=by subst hW;rfl
 have hS: ∀b2 o,g.S b2 o->b2≠bM:=fun b2 o hs e=>by
  obtain ⟨_,Ĵ,ĵ,h1,_⟩:=(hm.dh b2 o hs).2 k (by rw [ċ,e];rfl);rw [hb] at h1;cases h1;cases Ą
 have Ā: ∀b2 o,g.S b2 o->W.cell? ⟨b2,o,H⟩=w.cell? ⟨b2,o,H⟩:=fun b2 o hs=>cr (ď b2 (hm.dh b2 o hs).1 (hS b2 o hs)) o;have Ă:(d'.toList.map fun i=>es[i]).length=Ê es:=by simp [hd]
 have hle:Le g w (g.eQ k (.sl (Ê es) sz (C (bM,cap))) g.S) W:=⟨fun _ _ h=>h,Ā,fun l=>by
  by_cases e:k=l
  ·subst e;rw [Gh.bo,ċ];exact .same _
  ·rw [Gh.bj _ _ _ e];exact .same _⟩
 have Ĝ: ∀o,o<Ê es*sz->(putCells id 0 (flatK (fun i:Fin (Ê es)=>rowOf c sz i.val) sz d') c)[o]?=C ((flatK (fun i:Fin (Ê es)=>rowOf c sz i.val) sz d')[o]!):=fun o ho=>by
  have Ķ:o<c.size:=by have:Ê es*sz<=cap*sz:=G _ (by omega);omega
  simp only [putCells,Array.getElem?_mapIdx,F Ķ,U];rw [T ⟨ι _,by simp [hd];omega⟩];rfl
 have Ć: ∀(i:ξ) (e:AV),(d'.toList.map fun i=>es[i])[i]?=C e-> ∃h:i<d'.size,es[d'[i].val]?=C e:=fun i e he=>by
  rw [List.getElem?_map] at he;cases hx:d'.toList[i]? with
  | none=>rw [hx] at he;cases he
  | some q=>
   rw [hx] at he;simp only [U,J] at he;obtain ⟨h1,h2⟩:=List.getElem?_eq_some_iff.1 hx;have h3:i<d'.size:=by simpa using h1
   refine ⟨h3,?_⟩;have h4:d'[i]=q:=by rw [<-h2];simp
   rw [h4,<-he];simp
 obtain ⟨m',l',f'⟩:=Mem.upd (id:=k) (x:= .sl ⟨sh.out,sh.ty,H⟩ sz (d'.toList.map fun i=>es[i])) (ge:= .sl (Ê es) sz (C (bM,cap))) (S':=g.S) hm hk (fun _ _ h=>h) Ā (by rw [ċ];exact .same _)
  (fun b2 ķ hne=>ď b2 ķ (fun e=>hne (by rw [ċ,e];rfl))) Đ (fun b2 h=> .inl (by rw [ċ];exact h)) (by simp) (fun _ _ h=>by cases h)
  (fun sh' Ĵ ĵ ĝ=>by
   cases ĝ;refine ⟨C (bM,cap),by rw [Ă],fun i e he=> ?_,_,ty,fz,ě,by simpa [putCells] using Ī,by rw [Ă];exact Č,fun t ht=>⟨by have ht:sh.ty=C t:=ht;rw [Ď] at ht;cases ht;rfl,fun o _ ho=>hf o (ι _) (by simpa [putCells] using ho)⟩,fun i j e x q he hx hq=> ?_,fun h=>(by have h:sh.out=true:=h;rw [Ą] at h;cases h),fun _ _ _ _ h=>(by cases h)⟩
   ·obtain ⟨hi,h1⟩:=Ć i e he;exact hok _ _ h1
   ·obtain ⟨hi,h1⟩:=Ć i e he;have hj:=al hx;rw [(hok _ _ h1).2] at hj;have h2:(i+1)*sz<=Ê es*sz:=G _ (by omega);rw [Y] at h2;have Ğ:(d'[i]!)=d'[i]:=by simp [hi]
    rw [Ĝ _ (by omega),GD (by omega) hj (by simp [rowOf]),Ğ] at hq;have hlt:=d'[i].isLt;have h3:(d'[i].val+1)*sz<=cap*sz:=G _ (by omega);rw [Y] at h3;have h4:d'[i].val*sz+j<c.size:=by omega
    have ĉ:=vt (c:=c) (i:=d'[i].val) hj
    have ĸ:q=c[d'[i].val*sz+j]:=by
     have h5:(rowOf c sz d'[i].val)[j]! =(rowOf c sz d'[i].val)[j]?.getD default:=by simp [M]
     simp only [J] at hq;rw [<-hq,h5,ĉ,F h4];rfl
    have:=Ě _ j e x q h1 hx (by rw [ĸ];exact F h4);exact ⟨this.1.mono hle,this.2⟩)
  (fun b2 o h=> .inl h) (fun b2 o hs Ĉ=>by simp only [GE.bM,U,J] at Ĉ;exact absurd Ĉ.symm (hS b2 o hs)) į İ ı
 exact ⟨_,m',l',f'⟩
def uk (sz:ξ) (e:AV) (xs:χ O):Prop:=Ê xs=sz/\(∀v∈xs,v.oneCell'=θ)/\ ∀(j:ξ) (x:AV) (v:O),e.cells[j]?=C x->xs[j]?=C v-> ∃g w,Rd g w x v
theorem Ga {ρ:Ren} (L:SlLaysF0.n6 P ρ) (hm:Mem g bs w) {k:ξ} {sh:Hd} {sz:ξ} {κ:Type} {ks:χ κ} {φ:κ->AV} (hb:af.at bs k= .sl sh sz (ks.map φ)) (Ą:sh.out=false) {ty:ο} (Ď:sh.ty=C ty) (hne:ks≠ []) (ĕ:0<sz) (ğ:Ê ks<4611686018427387904)
  (aE: ∀w,(isAgg (ρ.t 24)).run P w= .ok θ w) (zE: ∀w,(Go.sizeOf (ρ.t 24)).run P w= .ok sz w) {v:O} (hv:Rd g w (.aC k (Ê ks)) v) (f:FuncId) (eg: ∀args w,(callFunc f args).run P w= .ok (.enter f args) w)
  (cmp:κ->κ->Int) (Ġ: ∀(x y:κ),x∈ks->y∈ks-> ∀(xs ys:χ O),uk sz (φ x) xs->uk sz (φ y) ys-> ∀W:I,N P f #[.agg xs.toArray,.agg ys.toArray] W fun e w'=>e= .returned (.int .i64 (cmp x y))/\ ∃q ć,w'=grow (W.drewN q) ć)
  (hO:SWO (ltOf cmp)) (hT: ∀x y,ltOf cmp x y=false->ltOf cmp y x=false->x=y) (Ĺ:ks.Nodup):
  N P (ρ.f 6) #[v,.func (.func f) #[] #[]] w (dT g w (bs.set k (.sl ⟨sh.out,sh.ty,H⟩ sz ((ks.mergeSort fun x y=> !ltOf cmp y x).map φ))) (.aK [])):=by
 obtain ⟨es,ġ⟩: ∃es,es=ks.map φ:=⟨_,rfl⟩;have đ:Ê es=Ê ks:=by rw [ġ,List.length_map]
 have č:0<Ê es:=by rw [đ];exact List.length_pos_iff.2 hne
 rw [<-ġ] at hb;rw [<-đ] at hv;obtain ⟨a,cap,rfl,_,loc,ċ,hr,hl⟩:=hv.kD hm hb rfl;rcases hl with ⟨bM,rfl,rfl⟩ | ⟨_,h0,_⟩
 case inr=>rw [h0] at č;simp at č
 letI:Inhabited (Fin (Ê es)):=⟨⟨0,č⟩⟩;obtain ⟨c,ty',fz,hc,Ī,Č,ę,Ě⟩:=oC.cell hr.2;obtain ⟨rfl,hf⟩:=ę ty Ď;rw [Ą] at hf;obtain ⟨d,hd⟩: ∃d:μ (Fin (Ê es)),d=(List.finRange (Ê es)).toArray:=⟨_,rfl⟩;have Ė:d.size=Ê es:=by rw [hd];simp
 have Ā: ∀i j,i<Ê es->j<sz-> ∃q,c[i*sz+j]?=C q/\i*sz+j<c.size/\ ∀x,(es[i]?).bind (fun e=>e.cells[j]?)=C x->Rd g w x q/\q.oneCell'=true:=fun i j hi hj=>by
  have h1:(i+1)*sz<=cap*sz:=G _ (by omega);rw [Y] at h1;have h2:i*sz+j<c.size:=by omega
  refine ⟨c[i*sz+j],F h2,h2,fun x hx=> ?_⟩;rw [B hi] at hx;exact Ě i j es[i] x _ (B hi) hx (F h2)
 have Ģ: ∀i (hi:i<Ê es),es[i].cells.length=sz:=fun i hi=>(hr.1 i es[i] (B hi)).2
 have ī: ∀(i:Fin (Ê es)),∀q∈rowOf c sz i.val,q.oneCell'=true:=fun i q hq=>by
  obtain ⟨j,hj,rfl⟩:=List.mem_map.1 hq;have hj:j<sz:=by simpa using hj
  obtain ⟨q,h1,h2,h3⟩:=Ā i.val j i.isLt hj;rw [h1];have hx:j<es[i.val].cells.length:=by rw [Ģ _ i.isLt];exact hj
  exact (h3 es[i.val].cells[j] (by rw [B i.isLt];exact B hx)).2
 have ā: ∀i:Fin (Ê es),i.val<Ê ks:=fun i=>by rw [<-đ];exact i.isLt
 have hφ: ∀i:Fin (Ê es),es[i.val]=φ (ks[i.val]'(ā i)):=fun i=>by simp [ġ]
 have Ē: ∀i:Fin (Ê es),uk sz (φ (ks[i.val]'(ā i))) (rowOf c sz i.val):=fun i=>by
  refine ⟨by simp [rowOf],ī i,fun j x q hx hq=> ?_⟩;rw [<-hφ i] at hx;have hj:=al hx;rw [Ģ _ i.isLt] at hj;obtain ⟨q',h1,h2,h3⟩:=Ā i.val j i.isLt hj;rw [vt hj,h1] at hq;simp only [Option.getD_some,J] at hq;subst hq;exact ⟨g,w,(h3 x (by rw [B i.isLt];exact hx)).1⟩
 have hH:HoldsK (fun i:Fin (Ê es)=>rowOf c sz i.val) sz w bM 0 d:=fun o ho=>by
  rw [size_flatK,Ė] at ho;have hi:o / sz<Ê es:=(Nat.div_lt_iff_lt_mul ĕ).2 ho;have hj:o%sz<sz:=Nat.mod_lt _ ĕ;have ģ:o / sz*sz+o%sz=o:=by rw [ε];exact Nat.div_add_mod o sz
  obtain ⟨q,h1,h2,_⟩:=Ā (o / sz) (o%sz) hi hj
  have Ğ:d[o / sz]! =⟨o / sz,hi⟩:=by rw [getElem!_pos d _ (by omega)];simp [hd]
  have Ĭ:=GD (enc:=fun i:Fin (Ê es)=>rowOf c sz i.val) (k:=sz) (d:=d) (i:=o / sz) (j:=o%sz) (by omega) hj (by simp [rowOf]);rw [ģ,Ğ] at Ĭ;rw [Ĭ,ζ,eT hc];rw [ģ] at h1 h2;refine ⟨?_,rN hc (fun o' h1 h2=>hf o' h1 h2) (ι _) h2⟩;have h5:(rowOf c sz (o / sz))[o%sz]! =(rowOf c sz (o / sz))[o%sz]?.getD default:=by simp [M]
  show c[o]?=C (id ((rowOf c sz (o / sz))[o%sz]!));rw [h5,vt hj,ģ,h1];rfl
 have ĺ:SWO (ltOf fun i j:Fin (Ê es)=>cmp (ks[i.val]'(ā i)) (ks[j.val]'(ā j))):=
  ⟨fun x=>hO.irrefl _,fun x y z=>hO.trans _ _ _,fun x y z=>hO.ntrans _ _ _⟩
 have K:=AnyQ.slices_SortFunc_total L sz aE zE (fun i:Fin (Ê es)=>rowOf c sz i.val) (fun _=>by simp [rowOf]) ī (fun i j=>cmp (ks[i.val]'(ā i)) (ks[j.val]'(ā j))) ĺ f #[] bM 0 cap d w eg
  (fun m os dk _ x y=>Ġ _ _ (η _) (η _) _ _ (Ē x) (Ē y) _) hH (bV hc) (by rw [Ė,đ];exact ğ)
  (fun x y h1 h2=>by
   have h3:=hT _ _ h1 h2;have hp:=List.pairwise_iff_getElem.1 Ĺ;rcases Nat.lt_trichotomy x.val y.val with h | h | h
   ·exact absurd h3 (hp _ _ (ā x) (ā y) h)
   ·exact Fin.ext h
   ·exact absurd h3.symm (hp _ _ (ā y) (ā x) h))
 rw [Ė] at K;refine K.mono ?_;rintro e w' ⟨rfl,nd,os,rfl⟩;have Ļ:(d.toList.mergeSort fun x y=> !(ltOf fun i j:Fin (Ê es)=>cmp (ks[i.val]'(ā i)) (ks[j.val]'(ā j))) y x).toArray.size=Ê es:=by simp [Ė]
 obtain ⟨g',m',l',f'⟩:=IL hm hb Ą Ď ĕ ċ hr hc _ Ļ nd os;refine ⟨_,g',rfl,?_,l',f',.aK _ _ rfl (fun i c v h=>by simp at h)⟩
 have Ĥ:((d.toList.mergeSort fun x y=> !(ltOf fun i j:Fin (Ê es)=>cmp (ks[i.val]'(ā i)) (ks[j.val]'(ā j))) y x).map fun i=>es[i])=(ks.mergeSort fun x y=> !ltOf cmp y x).map φ:=by
  have e1:(d.toList.map fun i:Fin (Ê es)=>ks[i.val]'(ā i))=ks:=by
   rw [hd];apply List.ext_getElem
   ·simp [đ]
   ·intro i h1 h2;simp
  have e2:=List.map_mergeSort (r:=fun x y:Fin (Ê es)=> !(ltOf fun i j:Fin (Ê es)=>cmp (ks[i.val]'(ā i)) (ks[j.val]'(ā j))) y x) (s:=fun x y=> !ltOf cmp y x) (f:=fun i:Fin (Ê es)=>ks[i.val]'(ā i)) (l:=d.toList) (fun a _ b _=>rfl);rw [e1] at e2;rw [<-e2,List.map_map];exact List.map_congr_left fun i _=>hφ i
 rw [<-Ĥ];exact m'
end
end Go.Am
namespace Go.Proofs.YtfgbpngakkhdcaaGreatDoor
open Go.Proofs Go.Lib Go.Sort
set_option maxHeartbeats 2000000
set_option maxRecDepth 100000
theorem Tw (a b r:Int) (h1:(a !=0)=true->r=a) (h2:(a !=0)=false->r=b) (bM cap:ξ) (W:I) (ha:W.cell? ⟨bM,0,H⟩=C (.int .i64 a)) (hb:W.cell? ⟨bM,1,H⟩=C (.int .i64 b)):
  N Tryz.prog 59 #[.slice (C ⟨bM,0,H⟩) 2 cap] W fun e w'=>e= .returned (.int .i64 r)/\w'=W:=by
 go_enter Tryz.func59,Tryz.ntmps59
 go_wp2
 refine wp_loop_rounds 3 ?_;rw [ν]
 go_wp2
 ·go_ret
  exact ⟨by rw [h1 (by assumption)];rfl,rfl⟩
 rw [ν]
 go_wp2
 ·go_ret
  exact ⟨by rw [h2 (by assumption)];rfl,rfl⟩
 rw [ν]
 go_wp2
 go_ret
 have e1:r=b:=h2 (by assumption);have e2:(b !=0)=false:=by assumption
 have e3:b=0:=by simpa using e2
 refine ⟨?_,rfl⟩;rw [e1,e3];rfl
theorem oq (W:I) (c:μ O) (ty:ο) (i:ξ) (v:O) (h:c[i]?=C v):(W.alloc (.cells c ty)).cell? ⟨W.heap.size,i,H⟩=C v:=by
 have h1:(W.alloc (.cells c ty)).heap[W.heap.size]?=C (.cells c ty):=by show (W.heap.push _)[W.heap.size]?=_;simp
 unfold World.cell?;rw [h1];exact h
theorem vu (W:I) (o1 o2:Obj):((W.alloc o1).alloc o2).heap[W.heap.size]?=C o1/\((W.alloc o1).alloc o2).heap[W.heap.size+1]?=C o2:=by
 constructor
 ·show ((W.heap.push o1).push o2)[W.heap.size]?=_;rw [Q,δ (by simp),Q,T rfl]
 ·show ((W.heap.push o1).push o2)[W.heap.size+1]?=_;rw [Q,T (by simp)]
def OnW (W W2:I):Prop:= ∃q os,W2=grow (W.drewN q) os
theorem abJ (r1 r2 r:Int) (h1:(r1 !=0)=true->r=r1) (h2:(r1 !=0)=false->r=r2) (a b c d:Int)
  (c1: ∀W,N Tryz.prog 60 #[.int .i64 a,.int .i64 c] W fun e w'=>e= .returned (.int .i64 r1)/\w'=W)
  (c2: ∀W,N Tryz.prog 60 #[.int .i64 b,.int .i64 d] W fun e w'=>e= .returned (.int .i64 r2)/\w'=W) (W:I):
  N Tryz.prog 116 #[.agg #[.int .i64 a,.int .i64 b],.agg #[.int .i64 c,.int .i64 d]] W fun e w'=>e= .returned (.int .i64 r)/\ ∃q ć,w'=grow (W.drewN q) ć:=by
 go_enter Tryz.func116,Tryz.ntmps116
 go_wp2
 obtain ⟨W2,Ċ⟩: ∃W2,W2=(W.alloc (Obj.cells #[.int .i64 a,.int .i64 b] 78)).alloc (Obj.cells #[.int .i64 c,.int .i64 d] 78):=⟨_,rfl⟩;change Code.wp _ _ _ _ ((W.alloc (Obj.cells #[.int .i64 a,.int .i64 b] 78)).alloc (Obj.cells #[.int .i64 c,.int .i64 d] 78));rw [<-Ċ];have hg:OnW W W2:=⟨0, #[Obj.cells #[.int .i64 a,.int .i64 b] 78,Obj.cells #[.int .i64 c,.int .i64 d] 78],by rw [Ċ,alloc_eq_grow,alloc_eq_grow,grow_grow];rfl⟩;obtain ⟨t1,t2⟩:=vu W (Obj.cells #[.int .i64 a,.int .i64 b] 78) (Obj.cells #[.int .i64 c,.int .i64 d] 78);rw [<-Ċ] at t1 t2;have x0:W2.cell? ⟨W.heap.size,0,H⟩=C (.int .i64 a):=by unfold World.cell?;rw [t1];rfl
 have x1:W2.cell? ⟨W.heap.size,1,H⟩=C (.int .i64 b):=by unfold World.cell?;rw [t1];rfl
 have y0:W2.cell? ⟨W.heap.size+1,0,H⟩=C (.int .i64 c):=by unfold World.cell?;rw [t2];rfl
 have y1:W2.cell? ⟨W.heap.size+1,1,H⟩=C (.int .i64 d):=by unfold World.cell?;rw [t2];rfl
 clear Ċ t1 t2;have ē:=c1 W2.drew;have Ĕ:=c2 W2.drew;refine wp_region_still_tail 10 (by kernel_rfl) (by kernel_rfl) ?_;simp only [Z,π,γ,σ]
 repeat still_step
 still_call ē
 repeat still_step
 still_call Ĕ
 refine wpStill_nil ?_;change wpList _ _ _ _ _ W2.drew
 have ĥ:OnW W W2.drew:=by obtain ⟨q,os,h⟩:=hg;exact ⟨q+1,os,by rw [h];rfl⟩
 clear hg ē Ĕ c1 c2;generalize W2.drew=W3 at*
 clear x0 x1 y0 y1
 go_wp2_with (go_at_call 59;refine (Tw r1 r2 r h1 h2 _ _ _ (oq _ _ _ _ _ rfl) (oq _ _ _ _ _ rfl)).mono ?_;rintro e w' ⟨rfl,rfl⟩)
 go_ret
 refine ⟨rfl,?_⟩;obtain ⟨q,os,h⟩:=ĥ;exact ⟨q,os.push (Obj.cells #[.int .i64 r1,.int .i64 r2] 3),by rw [h,alloc_eq_grow,grow_grow];rfl⟩
theorem abK (r1 r2 r:Int) (h1:(r1 !=0)=true->r=r1) (h2:(r1 !=0)=false->r=r2) (a b c d:Int) (u v:O) (hu:u.oneCell'=θ) (hv:v.oneCell'=θ)
  (c1: ∀W,N Tryz.prog 60 #[.int .i64 a,.int .i64 c] W fun e w'=>e= .returned (.int .i64 r1)/\w'=W)
  (c2: ∀W,N Tryz.prog 60 #[.int .i64 b,.int .i64 d] W fun e w'=>e= .returned (.int .i64 r2)/\w'=W) (W:I):
  N Tryz.prog 115 #[.agg #[.int .i64 a,.int .i64 b,u],.agg #[.int .i64 c,.int .i64 d,v]] W fun e w'=>e= .returned (.int .i64 r)/\ ∃q ć,w'=grow (W.drewN q) ć:=by
 have K:=fun W=>abJ r1 r2 r h1 h2 a b c d c1 c2 W;clear c1 c2;obtain ⟨t1,t2⟩:=vu W (Obj.cells #[.int .i64 a,.int .i64 b,u] 99) (Obj.cells #[.int .i64 c,.int .i64 d,v] 99)
 have x0:({heap:=(W.alloc (Obj.cells #[.int .i64 a,.int .i64 b,u] 99)).heap.push (Obj.cells #[.int .i64 c,.int .i64 d,v] 99),tape:=W.tape,drawn:=W.drawn,os:=(W.alloc (Obj.cells #[.int .i64 a,.int .i64 b,u] 99)).os,output:=(W.alloc (Obj.cells #[.int .i64 a,.int .i64 b,u] 99)).output}:I).cell? ⟨W.heap.size,0,H⟩=C (.int .i64 a):=by change ((W.alloc (Obj.cells #[.int .i64 a,.int .i64 b,u] 99)).alloc (Obj.cells #[.int .i64 c,.int .i64 d,v] 99)).cell? _=_;unfold World.cell?;rw [t1];rfl
 have x1:({heap:=(W.alloc (Obj.cells #[.int .i64 a,.int .i64 b,u] 99)).heap.push (Obj.cells #[.int .i64 c,.int .i64 d,v] 99),tape:=W.tape,drawn:=W.drawn,os:=(W.alloc (Obj.cells #[.int .i64 a,.int .i64 b,u] 99)).os,output:=(W.alloc (Obj.cells #[.int .i64 a,.int .i64 b,u] 99)).output}:I).cell? ⟨W.heap.size,1,H⟩=C (.int .i64 b):=by change ((W.alloc (Obj.cells #[.int .i64 a,.int .i64 b,u] 99)).alloc (Obj.cells #[.int .i64 c,.int .i64 d,v] 99)).cell? _=_;unfold World.cell?;rw [t1];rfl
 have y0:({heap:=(W.alloc (Obj.cells #[.int .i64 a,.int .i64 b,u] 99)).heap.push (Obj.cells #[.int .i64 c,.int .i64 d,v] 99),tape:=W.tape,drawn:=W.drawn,os:=(W.alloc (Obj.cells #[.int .i64 a,.int .i64 b,u] 99)).os,output:=(W.alloc (Obj.cells #[.int .i64 a,.int .i64 b,u] 99)).output}:I).cell? ⟨W.heap.size+1,0,H⟩=C (.int .i64 c):=by change ((W.alloc (Obj.cells #[.int .i64 a,.int .i64 b,u] 99)).alloc (Obj.cells #[.int .i64 c,.int .i64 d,v] 99)).cell? _=_;unfold World.cell?;rw [t2];rfl
 have y1:({heap:=(W.alloc (Obj.cells #[.int .i64 a,.int .i64 b,u] 99)).heap.push (Obj.cells #[.int .i64 c,.int .i64 d,v] 99),tape:=W.tape,drawn:=W.drawn,os:=(W.alloc (Obj.cells #[.int .i64 a,.int .i64 b,u] 99)).os,output:=(W.alloc (Obj.cells #[.int .i64 a,.int .i64 b,u] 99)).output}:I).cell? ⟨W.heap.size+1,1,H⟩=C (.int .i64 d):=by change ((W.alloc (Obj.cells #[.int .i64 a,.int .i64 b,u] 99)).alloc (Obj.cells #[.int .i64 c,.int .i64 d,v] 99)).cell? _=_;unfold World.cell?;rw [t2];rfl
 clear t1 t2
 have fin: ∀q os,grow ((({heap:=(W.alloc (Obj.cells #[.int .i64 a,.int .i64 b,u] 99)).heap.push (Obj.cells #[.int .i64 c,.int .i64 d,v] 99),tape:=W.tape,drawn:=W.drawn,os:=(W.alloc (Obj.cells #[.int .i64 a,.int .i64 b,u] 99)).os,output:=(W.alloc (Obj.cells #[.int .i64 a,.int .i64 b,u] 99)).output}:I)).drewN q) os=grow (W.drewN q) (#[(Obj.cells #[.int .i64 a,.int .i64 b,u] 99),(Obj.cells #[.int .i64 c,.int .i64 d,v] 99)]++os):=fun q os=>by
  change grow (((W.alloc (Obj.cells #[.int .i64 a,.int .i64 b,u] 99)).alloc (Obj.cells #[.int .i64 c,.int .i64 d,v] 99)).drewN q) os=_;rw [alloc_eq_grow,alloc_eq_grow,grow_grow];show grow ((grow W _).drewN q) os=_;unfold grow World.drewN;simp
 have K1:=K ({heap:=(W.alloc (Obj.cells #[.int .i64 a,.int .i64 b,u] 99)).heap.push (Obj.cells #[.int .i64 c,.int .i64 d,v] 99),tape:=W.tape,drawn:=W.drawn,os:=(W.alloc (Obj.cells #[.int .i64 a,.int .i64 b,u] 99)).os,output:=(W.alloc (Obj.cells #[.int .i64 a,.int .i64 b,u] 99)).output}:I);clear K
 go_enter Tryz.func115,Tryz.ntmps115
 go_wp2_with (go_at_call 116;refine K1.mono ?_;rintro e w' ⟨rfl,q,os,rfl⟩)
 go_ret
 exact ⟨rfl,q,_,rfl⟩
theorem GF (x y:Int):τ x y=lO x y:=by
 unfold τ lO;by_cases h1:x<y
 ·rw [T h1,T h1]
 ·rw [δ h1,δ h1];by_cases h2:x=y
  ·rw [T h2,δ (by omega)]
  ·rw [δ h2,T (by omega)]
theorem aaA (x y:Cell) (u v:O) (hu:u.oneCell'=θ) (hv:v.oneCell'=θ) (W:I):
  N Tryz.prog 115 #[.agg #[.int .i64 x.1,.int .i64 x.2,u],.agg #[.int .i64 y.1,.int .i64 y.2,v]] W fun e w'=>e= .returned (.int .i64 (gS x y))/\ ∃q ć,w'=grow (W.drewN q) ć:=by
 have c: ∀a b W,N Tryz.prog 60 #[.int .i64 a,.int .i64 b] W fun e w'=>e= .returned (.int .i64 (lO a b))/\w'=W:=fun a b W=>by
  have h:=AnyG.cmp_Compare_int Tryz.Pa a b W;rw [GF] at h;exact h
 refine abK (lO x.1 y.1) (lO x.2 y.2) _ ?_ ?_ _ _ _ _ u v hu hv (c _ _) (c _ _) W
 ·intro h;unfold gS;rw [δ (by simpa using h)]
 ·intro h;unfold gS;rw [T (by simpa using h)]
end Go.Proofs.YtfgbpngakkhdcaaGreatDoor
namespace Go.Proofs.YtfgbpngakkhdcaaGreatDoor
open Go.Proofs Go.Lib Go.Sort
set_option maxHeartbeats 2000000
set_option maxRecDepth 100000
theorem RT (r1 r2 r:Int) (h1:(r1 !=0)=true->r=r1) (h2:(r1 !=0)=false->r=r2) (a b c d:Int)
  (c1: ∀W,N Tryz.prog 60 #[.int .i64 a,.int .i64 c] W fun e w'=>e= .returned (.int .i64 r1)/\w'=W)
  (c2: ∀W,N Tryz.prog 60 #[.int .i64 b,.int .i64 d] W fun e w'=>e= .returned (.int .i64 r2)/\w'=W) (W:I):
  N Tryz.prog 58 #[.agg #[.int .i64 a,.int .i64 b],.agg #[.int .i64 c,.int .i64 d]] W fun e w'=>e= .returned (.int .i64 r)/\ ∃q ć,w'=grow (W.drewN q) ć:=by
 go_enter Tryz.func58,Tryz.ntmps58
 go_wp2
 obtain ⟨W2,Ċ⟩: ∃W2,W2=(W.alloc (Obj.cells #[.int .i64 a,.int .i64 b] 78)).alloc (Obj.cells #[.int .i64 c,.int .i64 d] 78):=⟨_,rfl⟩;change Code.wp _ _ _ _ ((W.alloc (Obj.cells #[.int .i64 a,.int .i64 b] 78)).alloc (Obj.cells #[.int .i64 c,.int .i64 d] 78));rw [<-Ċ];have hg:OnW W W2:=⟨0, #[Obj.cells #[.int .i64 a,.int .i64 b] 78,Obj.cells #[.int .i64 c,.int .i64 d] 78],by rw [Ċ,alloc_eq_grow,alloc_eq_grow,grow_grow];rfl⟩;obtain ⟨t1,t2⟩:=vu W (Obj.cells #[.int .i64 a,.int .i64 b] 78) (Obj.cells #[.int .i64 c,.int .i64 d] 78);rw [<-Ċ] at t1 t2;have x0:W2.cell? ⟨W.heap.size,0,H⟩=C (.int .i64 a):=by unfold World.cell?;rw [t1];rfl
 have x1:W2.cell? ⟨W.heap.size,1,H⟩=C (.int .i64 b):=by unfold World.cell?;rw [t1];rfl
 have y0:W2.cell? ⟨W.heap.size+1,0,H⟩=C (.int .i64 c):=by unfold World.cell?;rw [t2];rfl
 have y1:W2.cell? ⟨W.heap.size+1,1,H⟩=C (.int .i64 d):=by unfold World.cell?;rw [t2];rfl
 clear Ċ t1 t2;have ē:=c1 W2.drew;have Ĕ:=c2 W2.drew;refine wp_region_still_tail 10 (by kernel_rfl) (by kernel_rfl) ?_;simp only [Z,π,γ,σ]
 repeat still_step
 still_call ē
 repeat still_step
 still_call Ĕ
 refine wpStill_nil ?_;change wpList _ _ _ _ _ W2.drew
 have ĥ:OnW W W2.drew:=by obtain ⟨q,os,h⟩:=hg;exact ⟨q+1,os,by rw [h];rfl⟩
 clear hg ē Ĕ c1 c2;generalize W2.drew=W3 at*
 clear x0 x1 y0 y1
 go_wp2_with (go_at_call 59;refine (Tw r1 r2 r h1 h2 _ _ _ (oq _ _ _ _ _ rfl) (oq _ _ _ _ _ rfl)).mono ?_;rintro e w' ⟨rfl,rfl⟩)
 go_ret
 refine ⟨rfl,?_⟩;obtain ⟨q,os,h⟩:=ĥ;exact ⟨q,os.push (Obj.cells #[.int .i64 r1,.int .i64 r2] 3),by rw [h,alloc_eq_grow,grow_grow];rfl⟩
theorem aaB (x y:Cell) (W:I):
  N Tryz.prog 58 #[.agg #[.int .i64 x.1,.int .i64 x.2],.agg #[.int .i64 y.1,.int .i64 y.2]] W fun e w'=>e= .returned (.int .i64 (gS x y))/\ ∃q ć,w'=grow (W.drewN q) ć:=by
 have c: ∀a b W,N Tryz.prog 60 #[.int .i64 a,.int .i64 b] W fun e w'=>e= .returned (.int .i64 (lO a b))/\w'=W:=fun a b W=>by
  have h:=AnyG.cmp_Compare_int Tryz.Pa a b W;rw [GF] at h;exact h
 refine RT (lO x.1 y.1) (lO x.2 y.2) _ ?_ ?_ _ _ _ _ (c _ _) (c _ _) W
 ·intro h;unfold gS;rw [δ (by simpa using h)]
 ·intro h;unfold gS;rw [T (by simpa using h)]
end Go.Proofs.YtfgbpngakkhdcaaGreatDoor
namespace Go.Proofs.YtfgbpngakkhdcaaGreatDoor
open Go.Proofs Go.Lib Go.Sort Go.RowKit Go.Shelf
set_option maxHeartbeats 4000000
set_option maxRecDepth 1000000
def Rh:χ O:= [.int .i64 0,.int .i64 0,.string ⟨#[]⟩]
theorem RU (w:I):(zeroValue 99).run Tryz.prog w= .ok (.agg #[.int .i64 0,.int .i64 0,.string ⟨#[]⟩]) w:=by kernel_rfl
theorem Pd (w:I) (ty:ο) (b o c:ξ) (hc: ∀j,j<3->(w.cell? ⟨b,o+j,H⟩).isSome=θ) (hf: ∀j,j<3->w.frozen? ⟨b,o+j,H⟩=false):
  (Builtin.clear_ #[55] ty #[.slice (C ⟨b,o,H⟩) 1 c]).run Tryz.prog w= .ok (.tuple #[]) (w.setCells b o Rh):=by
 have ht:Tryz.prog.underlying 55=C (.slice 99):=by kernel_rfl
 have hst:=run_storeCells_cells (P:=Tryz.prog) b o Rh 0 w (by simpa [Rh] using hc) (by simpa [Rh] using hf) (by intro v ĭ;simp only [Rh,List.mem_cons,List.not_mem_nil,or_false] at ĭ;rcases ĭ with rfl | rfl | rfl <;> rfl);simp only [υ] at hst;have hz:(Builtin.zeroCells (Value.agg #[.int .i64 0,.int .i64 0,.string ⟨#[]⟩]).cells 1).toList=Rh:=by kernel_rfl
 simp [Builtin.clear_,run_underlying ht,RU,hz,hst]
theorem VU (w:I) (bM m cap i:ξ) (d:χ O) (hd:Ê d=(i+1+m)*3) (hH: ∀o,o<(i+1+m)*3->w.cell? ⟨bM,o,H⟩=C (d.getD o (.int .i64 0))/\w.frozen? ⟨bM,o,H⟩=false) (h1: ∀v∈d,v.oneCell'=θ) (Č:i+1+m<=cap):
  N Tryz.prog 78 #[.slice (C ⟨bM,0,H⟩) (i+1+m) cap,.int .i64 i,.int .i64 (i+1)] w fun e w'=>e= .returned (.slice (C ⟨bM,0,H⟩) (i+m) cap)/\ ∃q,w'=((Sort.ahead w q).setCells bM (i*3) (d.drop ((i+1)*3))).setCells bM ((i+m)*3) Rh:=by
 obtain ⟨news,ă⟩: ∃news,news=d.drop ((i+1)*3):=⟨_,rfl⟩;have Ă:Ê news=m*3:=by rw [ă,List.length_drop,hd];omega
 have ĉ: ∀t,t<m*3->news[t]?=C (d.getD ((i+1)*3+t) (.int .i64 0)):=by intro t ht;rw [ă,List.getElem?_drop,List.getD_eq_getElem?_getD,B (by omega)];rfl
 obtain ⟨A,hA,Ħ⟩: ∃A:Addr,(if cap=i+1 then (C (⟨bM,0,H⟩:Addr)) else C ⟨bM,(i+1)*3,H⟩)=C A/\Hid (∀t u,news[t]?=C u->w.drew.cell? (A.add t)=C u):=by
  by_cases h:cap=i+1
  ·refine ⟨⟨bM,0,H⟩,by simp [h],fun t u hu=> ?_⟩;have h0:Ê news=0:=by rw [Ă];omega
   rw [List.length_eq_zero_iff.1 h0] at hu;simp at hu
  ·refine ⟨⟨bM,(i+1)*3,H⟩,by simp [h],fun t u hu=> ?_⟩
   have ht:t<m*3:=by
    have:=(List.getElem?_eq_some_iff.1 hu).1
    rwa [Ă] at this
   rw [ĉ t ht] at hu;rw [Addr.add_lit];exact (hH _ (by omega)).1.trans hu
 have s1:Hid (Ê news=m*3):=Ă
 have s2:Hid (∀u∈news,u.oneCell'=θ):=by intro u hu;rw [ă] at hu;exact h1 u (List.mem_of_mem_drop hu)
 have s3:Hid (∀t,t<Ê news->(w.drew.cell? ⟨bM,0+i*3+t,H⟩).isSome=θ/\w.drew.frozen? ⟨bM,0+i*3+t,H⟩=false):=by intro t ht;rw [Ă] at ht;rw [ζ];exact ⟨by show (w.cell? _).isSome=θ;rw [(hH (i*3+t) (by omega)).1];rfl,(hH (i*3+t) (by omega)).2⟩
 obtain ⟨W1,ė⟩: ∃W1,W1=w.drew.setCells bM (0+i*3) news:=⟨_,rfl⟩
 have ħ: ∀o,o<(i+1+m)*3->(W1.cell? ⟨bM,o,H⟩).isSome=θ/\W1.frozen? ⟨bM,o,H⟩=false:=by
  intro o ho;obtain ⟨h2,h3⟩:=hH o ho;rw [ė];refine ⟨?_,?_⟩
  ·exact World.isSome_setCells bM news _ _ _ (by show (w.cell? _).isSome=θ;rw [h2];rfl)
  ·rw [World.frozen?_setCells];exact h3
 have Ģ: ∀ty,(Builtin.clear_ #[55] ty #[.slice (C ⟨bM,(i+m)*3,H⟩) (i+1+m-(i+m)) (cap-(i+m))]).run Tryz.prog W1= .ok (.tuple #[]) (W1.setCells bM ((i+m)*3) Rh):=
  fun ty=>by
   rw [show i+1+m-(i+m)=1 by omega];exact Pd W1 ty bM _ _ (fun j hj=>(ħ _ (by omega)).1) (fun j hj=>(ħ _ (by omega)).2)
 have X:Aside (W1=(Sort.ahead w 1).setCells bM (i*3) (d.drop ((i+1)*3))):=by rw [ė,ă,ζ];rfl
 have hW:Hid (W1=w.drew.setCells bM (0+i*3) news):=ė;have t0:Tryz.prog.underlying 55=C (.slice 99):=by kernel_rfl
 have Į:(Tryz.prog.info? 99).isSome=true:=by kernel_rfl
 have Ĩ:(Tryz.prog.info? 99).map (·.size)=C 3:=by kernel_rfl
 obtain ⟨i0,hi0⟩:=Option.isSome_iff_exists.1 Į;have ļ:i0.size=3:=by rw [hi0] at Ĩ;simpa using Ĩ
 clear Į Ĩ;have mixed:Tryz.prog.follows .mixedOrders=true:=by kernel_rfl
 have hb:0<=(i:Int)+1/\(i:Int)+1<=(i:Int)+1+(m:Int):=⟨by omega,by omega⟩;have hic:i<=cap:=by omega
 have hjc:i+1<=cap:=by omega
 clear ė ħ hH ĉ ă Ă
 go_enter Tryz.func78,Tryz.ntmps78
 go_wp2_with fail
 go_region_law_o (refine step_append_room rfl (.tmp 22) (.tmp 25) 55 rfl 99 i0 3 t0 hi0 ļ bM 0 i cap (by simp [Act.eval,Act.put]) A m (cap-(i+1)) news (by simp [Act.eval,Act.put]) s1.out Ħ.out s2.out (by omega) s3.out ?_;rw [<-hW.out])
 go_wp2
 go_ret
 refine ⟨rfl,1,?_⟩;rw [<-X.out]
