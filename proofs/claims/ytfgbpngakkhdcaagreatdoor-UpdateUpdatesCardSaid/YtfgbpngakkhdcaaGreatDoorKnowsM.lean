/- slices.Delete of one read of a slice of one's own: -/
import Derived.Test.YtfgbpngakkhdcaaGreatDoorSeatC
import Derived.Test.YtfgbpngakkhdcaaGreatDoorSortM
import Derived.Test.YtfgbpngakkhdcaaGreatDoorRows
import Derived.LaidLaws
import Derived.Stop.LaidErr
import Derived.MakeChecks
import Derived.Lib.LaidTab
import Derived.HandedShaped
import Derived.Shelf.Vars
open Array renaming eq_empty_of_size_eq_zero->F,getElem?_eq_getElem->B
open Bool renaming false->ν
open Go renaming Value->δ,World->U,run_callFunc_extern->R
open Go.Lib renaming asciiSpaceTab->ζ,pow10Tab->ρ,tabIs_of_head->θ
open List renaming length->Ê,getElem?_eq_getElem->A,getElem?_map->V,getElem?_take->ε,getElem_map->O,getElem_of_mem->Q,length_drop->ι,map_congr_left->γ,map_map->σ,mem_cons->ξ,not_mem_nil->μ
open Option renaming none->L,some->I,bind_some->Y
open Option.some renaming injEq->η
open Prod renaming fst->Z
open _root_ renaming List->M,Nat->τ,UInt8->ο,absurd->π,decide_eq_false_iff_not->J
set_option linter.all false
set_option linter.all false
namespace Go.Am
variable [Kn]
theorem Ip {g:Gh} {bs:M af} {w:U} (h:Mem g bs w) {bM:τ} {T:τ->Prop} (hlt:bM<w.heap.size) (Ġ: ∀k,(g.e k).bM≠I bM):
  Mem {S:=fun b o=>g.S b o\/(b=bM/\T o),e:=g.e} bs w/\Le g w {S:=fun b o=>g.S b o\/(b=bM/\T o),e:=g.e} w:=by
 have hl:Le g w {S:=fun b o=>g.S b o\/(b=bM/\T o),e:=g.e} w:=⟨fun _ _ x=> .inl x,fun _ _ _=>rfl,fun _=> .same _⟩;refine ⟨⟨h.no,fun k ty cs hk=> ?_,fun k sh sz es hk=> ?_,h.loop,fun k es clock hk=> ?_,h.gone,fun k o hk=> ?_,h.inj,fun b o hb=> ?_,h.kn⟩,hl⟩
 ·obtain ⟨b,he,hr⟩:=h.var k ty cs hk;exact ⟨b,he,hr.mono hl rfl⟩
 ·obtain ⟨loc,he,hr⟩:=h.sl k sh sz es hk;exact ⟨loc,he,hr.mono hl (fun _ _=>rfl)⟩
 ·obtain ⟨b,he,hr⟩:=h.mp k es clock hk;exact ⟨b,he,hr.mono hl rfl⟩
 ·obtain ⟨b,he,hr⟩:=h.it k o hk;exact ⟨b,he,hr.le hl rfl⟩
 ·rcases hb with hb | ⟨rfl,_⟩
  ·exact h.dh b o hb
  ·exact ⟨hlt,fun k hk=>π hk (Ġ k)⟩
omit [Kn] in
theorem mo (b:τ): ∀(vs:M δ) (o:τ) (w:U),(w.setCells b o vs).heap.size=w.heap.size/\(w.setCells b o vs).os=w.os/\(w.setCells b o vs).tape=w.tape/\(w.setCells b o vs).output=w.output/\ ∀b2,b2≠b->(w.setCells b o vs).heap[b2]?=w.heap[b2]?
 | [],_,_=>⟨rfl,rfl,rfl,rfl,fun _ _=>rfl⟩
 | v::r,o,w=>by
  obtain ⟨h1,h2,h3,h4,h5⟩:=mo b r (o+1) (w.setCell ⟨b,o,L⟩ v);refine ⟨h1.trans (by simp [World.setCell]),h2,h3,h4,fun b2 hb=>(h5 b2 hb).trans ?_⟩;simp [World.setCell,Array.getElem?_modify,Ne.symm hb]
end Go.Am
namespace Go.Proofs.YtfgbpngakkhdcaaGreatDoor
open Go.Proofs.Tryz
open Go.Am Go.RowKit Go.Sort Go.Proofs
theorem Rg [Kn] {g:Gh} {bs:M af} {w:U} (hm:Mem g bs w) {k:τ} {sh:Hd} {es:M AV} (hb:af.at bs k= .sl sh 3 es) (Ā:sh.out=ν) (ă:sh.ty=I 99) {i:τ} (hi:i<Ê es) {v:δ} (hv:Rd g w (.aC k (Ê es)) v):
  Calls prog 78 #[v,.int .i64 i,.int .i64 (i+1)] w (dT g w (bs.set k .gone) (.ah L 3 (es.take i++es.drop (i+1)))):=by
 obtain ⟨a,cap,rfl,_,loc,Ę,hr,hl⟩:=hv.kD hm hb rfl;rcases hl with ⟨bM,rfl,rfl⟩ | ⟨_,h0,_⟩
 case inr=>rw [h0] at hi;simp at hi
 obtain ⟨c,ty',fz,hc,hcs,hcap,ġ,Ď⟩:=oC.cell hr.2;obtain ⟨rfl,hf⟩:=ġ _ ă;rw [Ā] at hf;simp only [Bool.false_eq_true,if_false] at hf;obtain ⟨m,Ģ⟩: ∃m,Ê es=i+1+m:=⟨Ê es-(i+1),by omega⟩
 have Ĉ:(i+1+m)*3<=c.size:=by have:(i+1+m)*3<=cap*3:=Nat.mul_le_mul_right _ (by omega);omega
 obtain ⟨d,hd⟩: ∃d,d=c.toList.take ((i+1+m)*3):=⟨_,rfl⟩;have ď:Ê d=(i+1+m)*3:=by rw [hd];simp;omega
 have Đ: ∀o,o<(i+1+m)*3->d[o]?=c[o]?:=fun o ho=>by
  rw [hd,ε,if_pos ho];simp
 have č: ∀(a:τ) (e:AV),es[a]?=I e->e.plain=true/\e.cells.length=3:=hr.1
 have Ć: ∀o,o<(i+1+m)*3->w.cell? ⟨bM,o,L⟩=I (d.getD o (.int .i64 0))/\w.frozen? ⟨bM,o,L⟩=false:=fun o ho=>by
  refine ⟨?_,rN hc hf (Nat.zero_le _) (by omega)⟩;rw [eT hc,<-Đ o ho,List.getD_eq_getElem?_getD,A (by omega)];rfl
 have h1: ∀v∈d,v.oneCell'=true:=fun v hv=>by
  obtain ⟨o,ho,rfl⟩:=Q hv;have ę:o / 3<Ê es:=by omega
  have hj:o%3<3:=Nat.mod_lt _ (by decide);have he:=č (o / 3) es[o / 3] (A ę);refine (Ď (o / 3) (o%3) es[o / 3] es[o / 3].cells[o%3] d[o] (A ę) (A (by rw [he.2];exact hj)) ?_).2;rw [show o / 3*3+o%3=o by omega,<-Đ o (by omega)];exact A ho
 have K:=VU w bM m cap i d ď Ć h1 (by omega);rw [Ģ];refine K.mono ?_;rintro e w' ⟨rfl,q,Ě⟩;have Ą:(g.e k).bM=I bM:=by rw [Ę];rfl
 have hk:k<Ê bs:=fA (by rw [hb];simp);have hblt:bM<w.heap.size:=bV hc;obtain ⟨a1,a2,a3,a4,a5⟩:=mo bM (d.drop ((i+1)*3)) (i*3) (Sort.ahead w q);obtain ⟨b1,b2,b3,b4,b5⟩:=mo bM Rh ((i+m)*3) ((Sort.ahead w q).setCells bM (i*3) (d.drop ((i+1)*3)));rw [<-Ě] at b1 b2 b3 b4 b5;have ą: ∀b,b≠bM->w'.heap[b]?=w.heap[b]?:=fun b hb=>(b5 b hb).trans (a5 b hb);have hsize:w'.heap.size=w.heap.size:=b1.trans a1;have ě:w'.os=w.os:=b2.trans a2;have Ĝ:w'.tape=w.tape:=b3.trans a3;have ĝ:w'.output=w.output:=b4.trans a4
 have đ: ∀o,¬ g.S bM o:=fun o hs=>by
  obtain ⟨ty',sz',es',h3,_⟩:=(hm.dh bM o hs).2 k Ą;rw [hb] at h3;cases h3;cases Ā
 have ģ: ∀b2 o,g.S b2 o->w'.cell? ⟨b2,o,L⟩=w.cell? ⟨b2,o,L⟩:=fun b2 o hs=>
  cr (ą b2 (fun e=>by subst e;exact đ o hs)) o
 obtain ⟨m1,l1,f1⟩:=Mem.upd (w':=w') (id:=k) (x:= .gone) (ge:= .sl (Ê es+1) 3 L) (S':=g.S) hm hk (fun _ _ h=>h) ģ (by rw [Ę];exact .grown (by omega))
  (fun b2 _ hne=>ą b2 (fun e=>by subst e;exact hne Ą)) (by omega) (fun b2 h=>by cases h) (by simp) (fun _ _ h=>by cases h) (fun _ _ _ h=>by cases h)
  (fun _ _ h=> .inl h) (fun _ _ _ h=>by cases h) ě Ĝ ĝ (hgo:=fun _=>⟨_,_,rfl⟩)
 have Ē: ∀j,((g.eQ k (.sl (Ê es+1) 3 L) g.S).e j).bM≠I bM:=fun j hj=>by
  by_cases e:k=j
  ·subst e;rw [Gh.bo] at hj;cases hj
  ·rw [Gh.bj _ _ _ e] at hj;exact e (hm.inj j k bM hj Ą).symm
 obtain ⟨m2,l2⟩:=Ip (T:=fun o=>o<(i+m)*3) m1 (by omega:bM<w'.heap.size) Ē;have hle:=l1.trans l2;refine ⟨_,_,rfl,m2,hle,⟨by omega,fun b hb hne=> ?_,ě,Ĝ,ĝ⟩,?_⟩
 ·have Ĥ:b≠bM:=fun e=>by subst e;exact hne k Ą
  obtain ⟨q1,q2,q3⟩:=f1.frame b hb hne;refine ⟨q1,q2,fun o ho=> ?_⟩;rcases ho with ho | ⟨ho,_⟩
  ·exact q3 o ho
  ·exact π ho Ĥ
 ·have Ă:(es.take i++es.drop (i+1)).length=i+m:=by simp;omega
  have key: ∀(a:τ) (e:AV),(es.take i++es.drop (i+1))[a]?=I e->a<i+m/\es[if a<i then a else a+1]?=I e:=fun a e he=>by
   have ha:=al he;rw [Ă] at ha;refine ⟨ha,?_⟩;by_cases h:a<i
   ·rw [if_pos h];rw [List.getElem?_append_left (by simp;omega),ε,if_pos h] at he;exact he
   ·rw [if_neg h];rw [List.getElem?_append_right (by simp;omega),List.getElem?_drop,List.length_take] at he;rw [<-he];congr 1;omega
  have ē: ∀a j,a<i+m->j<3->w'.cell? ⟨bM,0+a*3+j,L⟩=c[(if a<i then a else a+1)*3+j]?:=fun a j ha hj=>by
   rw [Ě,World.cell?_setCells_out _ _ _ _ _ (fun _ _=>by simp only;left;omega)];by_cases h:a<i
   ·rw [if_pos h,World.cell?_setCells_out _ _ _ _ _ (fun _ _=>by simp only;left;omega),Nat.zero_add];exact eT hc _
   ·rw [if_neg h]
    have hin:=World.cell?_setCells_in bM (d.drop ((i+1)*3)) (i*3) (Sort.ahead w q) (fun j hj=>by
     rw [ι,ď] at hj;show (w.cell? _).isSome=true;rw [(Ć (i*3+j) (by omega)).1];rfl) ((a-i)*3+j) (by rw [ι,ď];omega)
    rw [show 0+a*3+j=i*3+((a-i)*3+j) by omega,hin,List.getElem_drop,<-A,Đ _ (by omega)];congr 1;omega
  suffices h:Am.Rd {S:=fun b o=>(g.eQ k (GE.sl (Ê es+1) 3 L) g.S).S b o\/(b=bM/\o<(i+m)*3),e:=(g.eQ k (GE.sl (Ê es+1) 3 L) g.S).e} w' (.ah L 3 (es.take i++es.drop (i+1))) (.slice (I ⟨bM,0,L⟩) (es.take i++es.drop (i+1)).length cap) by rw [Ă] at h;exact h
  refine Rd.ah L 3 (es.take i++es.drop (i+1)) (I ⟨bM,0,L⟩) cap bM 0 (fun a j=>(c[(if a<i then a else a+1)*3+j]?).getD (.int .i64 0)) (fun x h=>by cases h) (fun h=>by cases h) (by omega) (fun _=>rfl) (fun a e he=>č _ _ (key a e he).2) (fun a j e x he hx=> ?_) (fun a j e x he hx=> ?_)
  ·obtain ⟨ha,ċ⟩:=key a e he;have hj:=al hx;rw [(č _ _ ċ).2] at hj;have hlt:(if a<i then a else a+1)*3+j<c.size:=by split <;> omega
   refine ⟨.inr ⟨rfl,by omega⟩,?_,?_⟩
   ·rw [ē a j ha hj,B hlt];rfl
   ·rw [B hlt];exact (Ď _ j e x _ ċ hx (B hlt)).2
  ·obtain ⟨ha,ċ⟩:=key a e he;have hj:=al hx;rw [(č _ _ ċ).2] at hj;have hlt:(if a<i then a else a+1)*3+j<c.size:=by split <;> omega
   simp only [B hlt,Option.getD_some];exact (Ď _ j e x _ ċ hx (B hlt)).1.mono hle
end Go.Proofs.YtfgbpngakkhdcaaGreatDoor
set_option linter.all false
namespace Go.Proofs.YtfgbpngakkhdcaaGreatDoor
open Go.Proofs.Tryz
open Go.Am Go.RowKit
open Go.Sort Go.Proofs
noncomputable def Th:String:=(prog.globals[3]?).elim "" (·.name)
structure zo [Kn]:Prop where
 pow: ∃t z,(3,Obj.cells (Lib.pow10Tab.map fun z=>Value.int .u64 z).toArray t z)∈Kn.ks
 sp: ∃t z,(1,Obj.cells (Lib.asciiSpaceTab.map fun z=>Value.int .u8 z).toArray t z)∈Kn.ks
 syn: ∃tp p t z,(4,Obj.cells #[.iface tp p] t z)∈Kn.ks
 td: ∃tp p t z,(5,Obj.cells #[.iface tp p] t z)∈Kn.ks
 max: ∃m t z,(0,Obj.cells #[.int .i64 m] t z)∈Kn.ks
theorem VW [Kn] (hk:zo) {g:Gh} {w:U} (hm:Mem g [] w):Lib.TabIs prog w Th .u64 ρ:=by
 obtain ⟨t,z,h⟩:=hk.pow;have h1:=(hm.kn _ h).1;have h2:Tryz.prog.globalNamed Th=I 3:=by kernel_rfl
 unfold Lib.TabIs World.var?;rw [h2];simp only [Y];rw [h1]
noncomputable def aaw:String:=(prog.globals[1]?).elim "" (·.name)
theorem Ri:aaw= "strings.asciiSpace" :=by kernel_rfl
theorem aax [Kn] (hk:zo) {g:Gh} {bs:M af} {w:U} (hm:Mem g bs w):Lib.TabIs prog w "strings.asciiSpace" .u8 ζ:=by
 obtain ⟨t,z,h⟩:=hk.sp;have h1:=(hm.kn _ h).1;have h2:Tryz.prog.globalNamed aaw=I 1:=by kernel_rfl
 rw [Ri] at h2;unfold Lib.TabIs World.var?;rw [h2];simp only [Y];rw [h1]
theorem VX [Kn] (hk:zo):QK prog cfg:=by
 intro f G hf xs r hr hp;change L5 f=I G at hf;unfold L5 at hf;split at hf
 ·rename_i ā;subst ā;cases hf;unfold oL at hr;split at hr
  ·rename_i n;split at hr
   ·rename_i hn;cases hr;refine ⟨⟨f92,by kernel_rfl,by kernel_rfl,by kernel_rfl⟩,fun g w vs hm hx=> ?_⟩;obtain ⟨vs⟩:=vs;simp only at hx;cases hx with
    | cons h1 t=>cases t;obtain rfl:=h1.aU;refine (Tryz.strconv_Itoa n hn.1 hn.2 w (VW hk hm)).mono ?_;rintro e w' ⟨rfl,k,os,rfl⟩;exact dT.tW hm (Lib.below_grow _ _ (Nat.le_refl _) _ _) (.str _)
   ·cases hr
  ·cases hr
 split at hf
 ·rename_i ā;subst ā;cases hf;unfold FY at hr;split at hr
  ·rename_i s t;split at hr
   ·rename_i hn;cases hr;refine ⟨⟨f186,by kernel_rfl,by kernel_rfl,by kernel_rfl⟩,fun g w vs hm hx=> ?_⟩;obtain ⟨vs⟩:=vs;simp only at hx;cases hx with
    | cons h1 tl=>cases tl with
     | cons h2 tl=>
      cases tl;obtain rfl:=h1.cS;obtain rfl:=h2.cS;obtain ⟨m,ty,z,Č⟩:=hk.max;have hb:=(hm.kn _ Č).1;have hc:w.cell? ⟨0,0,L⟩=I (.int .i64 m):=by simp [World.cell?,hb]
      have Ĉ:(ByteArray.mk s.toArray).size=Ê s:=by show s.toArray.size=_;simp
      refine (Tryz.stringslite_Index ⟨s.toArray⟩ ⟨t.toArray⟩ m w (by rw [Ĉ];exact hn) hc).mono ?_;rintro e w' ⟨rfl,rfl⟩;exact dT.tW hm (RowKit.Below.refl _ _) (.int _ _)
   ·cases hr
  ·cases hr
 split at hf
 ·rename_i ā;subst ā;cases hf;unfold oN at hr;split at hr
  ·rename_i fn0 s base bits t n;split at hr
   ·rename_i hn;cases hr;obtain ⟨hs,rfl,hn⟩:=hn;refine ⟨⟨f197,by kernel_rfl,by kernel_rfl,by kernel_rfl⟩,fun g w vs hm hx=> ?_⟩;obtain ⟨vs⟩:=vs;simp only at hx;cases hx with
    | cons h1 t=>cases t with
     | cons h2 t=>cases t with
      | cons h3 t=>cases t with
       | cons h4 t=>cases t with
        | cons h5 t=>
         cases t;obtain rfl:=h1.cS;obtain rfl:=h2.cS;obtain rfl:=h3.aU;obtain rfl:=h4.aU;cases h5;have Ĉ:(ByteArray.mk s.toArray).size=Ê s:=by show s.toArray.size=_;simp
         rcases hn with rfl | rfl
         ·obtain ⟨tp,p,t,z,Č⟩:=hk.td;have hc:w.cell? ⟨5,0,L⟩=I (.iface tp p):=by simp [World.cell?,(hm.kn _ Č).1]
          refine (AnyPu.strconv_toError_range Tryz.F7 ⟨fn0.toArray⟩ ⟨s.toArray⟩ base bits _ w (by rw [Ĉ];exact hs) hc (.inr ⟨_,_,rfl⟩)).mono ?_;rintro e w' ⟨N,rfl,_,_,hb⟩;exact dT.tW hm hb (.il _ _ (.inr ⟨rfl,_,_,rfl⟩))
         ·obtain ⟨tp,p,t,z,Č⟩:=hk.syn;have hc:w.cell? ⟨4,0,L⟩=I (.iface tp p):=by simp [World.cell?,(hm.kn _ Č).1]
          refine (AnyPu.strconv_toError_syntax Tryz.F7 ⟨fn0.toArray⟩ ⟨s.toArray⟩ base bits _ w (by rw [Ĉ];exact hs) hc (.inr ⟨_,_,rfl⟩)).mono ?_;rintro e w' ⟨N,rfl,_,_,hb⟩;exact dT.tW hm hb (.il _ _ (.inr ⟨rfl,_,_,rfl⟩))
   ·cases hr
  ·cases hr
 ·cases hf
theorem Iq [Kn] {g:Gh} {bs:M af} {w:U} (hm:Mem g bs w) (x:M ο) (r:M (M ο)):
  dT g w (bs++ [.sl ⟨ν,I 9,L⟩ 1 ((x::r).map AV.str)]) (.aC (Ê bs) (Ê r+1)) (.returned (.slice (I ⟨w.heap.size,0,L⟩) (x::r).length (x::r).length)) (w.alloc (.cells ((x::r).map fun l=>Value.string ⟨l.toArray⟩).toArray 9)):=by
 have ĉ:Mem g (bs++ [.dead]) w:=hm.pad 1
 have he:(dy.new (.sl ⟨ν,I 9,L⟩ 1 ((x::r).map AV.str))).on (bs++ [.dead]) (Ê bs)=I (bs++ [.sl ⟨ν,I 9,L⟩ 1 ((x::r).map AV.str)]):=by simp [dy.on]
 have ą: ∀b,b<w.heap.size->(w.alloc (.cells ((x::r).map fun l=>Value.string ⟨l.toArray⟩).toArray 9)).heap[b]?=w.heap[b]?:=fun b hb=>cJ w _ hb
 have K:=xU (r:= .ok (.value (.slice (I ⟨w.heap.size,0,L⟩) ((x::r).map AV.str).length (x::r).length)) (w.alloc (.cells ((x::r).map fun l=>Value.string ⟨l.toArray⟩).toArray 9))) (fz:=(0,0)) (cap:=(x::r).length) (c:=((x::r).map fun l=>Value.string ⟨l.toArray⟩).toArray) (ty:=9) ĉ he rfl ą (by simp) (dH w _) rfl rfl rfl (by intro o h;simp) (by simp) (by simp) (by simp)
  (fun i e h=>by
   rw [V] at h;cases hx:(x::r)[i]? with
   | none=>rw [hx] at h;cases h
   | some s=>rw [hx] at h;cases h;exact ⟨rfl,rfl⟩)
  (fun i j e y v h1 h2 h3=>by
   rw [V] at h1;cases hx:(x::r)[i]? with
   | none=>rw [hx] at h1;cases h1
   | some s=>
    rw [hx] at h1;cases h1
    have hj:j=0:=by
     cases j with
     | zero=>rfl
     | succ j=>simp [AV.cells] at h2
    subst hj;simp only [AV.cells,List.getElem?_cons_zero,η] at h2;subst h2;simp only [Nat.mul_one,Nat.add_zero,List.getElem?_toArray,V,hx,Option.map_some,η] at h3;subst h3;exact ⟨.str _,rfl⟩)
 obtain ⟨nx,v,w',g',h1,h2,h3,h4,h5,h6⟩:=K;cases h1;rcases h2 with h2 | ⟨h2,_⟩
 ·cases h2;rw [List.length_map] at h6;exact ⟨_,g',rfl,h3,h4,h5,by simpa using h6⟩
 ·cases h2
theorem F8 [Kn] {g:Gh} {bs:M af} {w:U} (hm:Mem g bs w):
  dT g w (bs++ [.var 9 []]) (.cG (I ν)) (.returned (.slice (I ⟨w.heap.size,0,L⟩) 0 0)) (w.alloc (.cells #[] 9)):=by
 have ĉ:Mem g (bs++ [.dead]) w:=hm.pad 1
 have he:(dy.new (.var 9 [])).on (bs++ [.dead]) (Ê bs)=I (bs++ [.var 9 []]):=by simp [dy.on]
 have K:=CG (c:= #[]) (ty:=9) ĉ he rfl rfl (fun j x u h=>by simp at h);obtain ⟨nx,v,w',g',h1,h2,h3,h4,h5,h6⟩:=K;cases h1;exact ⟨_,g',rfl,h3,h4,h5,.cG _ _ (by rintro x ⟨⟩;rfl)⟩
theorem aay:Go.Sort.SWO (ltOf gS) where
 irrefl x:=by unfold ltOf;rw [J,gm];exact gN x
 trans x y z h1 h2:=by
  unfold ltOf at*
  simp only [decide_eq_true_eq,gm] at*
  exact gA h1 h2
 ntrans x y z h1 h2:=by
  unfold ltOf at*
  simp only [J,gm,gT] at*
  omega
theorem aaz (x y:Cell) (h1:ltOf gS x y=ν) (h2:ltOf gS y x=ν):x=y:=by
 unfold ltOf at*
 simp only [J,gm] at h1 h2;by_cases h:x=y
 ·exact h
 ·exact π (oe h1 h) h2
theorem zp: ∀{es:M AV} {l:M (Cell×M ο)},BG es=I l->es=l.map lR
 | [],l,h=>by cases h;rfl
 | e::r,l,h=>by
  unfold BG at h;split at h
  ·rename_i h0;cases h0
  ·rename_i a b s r' h0;cases h0;split at h
   ·rename_i l' hl;cases h;rw [zp hl];rfl
   ·cases h
  ·cases h
theorem F9 [Kn] (x:Cell) (t:M ο) {xs:M δ} (h:uk 3 (lR (x,t)) xs): ∃u,u.oneCell'=true/\xs= [.int .i64 x.1,.int .i64 x.2,u]:=by
 obtain ⟨h1,h2,h3⟩:=h
 match xs,h1 with
 | [a,b,c],_=>obtain ⟨g,w,ha⟩:=h3 0 _ a rfl rfl;obtain ⟨g',w',hb⟩:=h3 1 _ b rfl rfl;rw [ha.aU,hb.aU];exact ⟨c,h2 c (by simp),rfl⟩
theorem Rj [Kn] {g:Gh} {bs:M af} {w:U} (hm:Mem g bs w) {k:τ} {sh:Hd} {l:M (Cell×M ο)} (hb:af.at bs k= .sl sh 3 (l.map lR)) (hne:l≠ []) (Ă:Ê l<1000000) (Ā:sh.out=ν) (ă:sh.ty=I 99) (ć:(l.map Z).Nodup) {v:δ} (hv:Rd g w (.aC k (Ê l)) v):
  Calls prog 114 #[v,.func (.func 115) #[] #[]] w (dT g w (bs.set k (.sl ⟨sh.out,sh.ty,L⟩ 3 ((sJ l).map lR))) (.aK [])):=by
 obtain ⟨val,Ğ⟩: ∃val:Cell->M ο,val=fun z=>((l.find? fun x=>decide (x.1=z)).map (·.2)).getD []:=⟨_,rfl⟩
 have hval: ∀x∈l,val x.1=x.2:=fun x hx=>by
  rw [Ğ];simp only;cases hf:l.find? fun y=>decide (y.1=x.1) with
  | none=>have:=List.find?_eq_none.1 hf x hx;simp at this
  | some y=>
   have h1:y.1=x.1:=by simpa using List.find?_some hf
   have h2:=List.mem_of_find?_eq_some hf
   have:y=x:=by
    obtain ⟨i,hi,rfl⟩:=Q h2;obtain ⟨j,hj,rfl⟩:=Q hx;have hp:=List.pairwise_iff_getElem.1 ć;rcases Nat.lt_trichotomy i j with h | h | h
    ·exact π (by rw [O,O];exact h1) (hp i j (by simpa using hi) (by simpa using hj) h)
    ·subst h;rfl
    ·exact π (by rw [O,O];exact h1.symm) (hp j i (by simpa using hj) (by simpa using hi) h)
   rw [this];rfl
 clear Ğ
 have Ĕ:(l.map Z).map (fun z=>lR (z,val z))=l.map lR:=by rw [σ];exact γ fun x hx=>by show lR (x.1,val x.1)=lR x;rw [hval x hx]
 rw [<-Ĕ] at hb;rw [show (Ê l)=(l.map Z).length by simp] at hv;have eg: ∀args w,(callFunc 115 args).run prog w= .ok (.enter 115 args) w:=enters_of func115 (by kernel_rfl) rfl
 have K:=Ga (P:=Tryz.prog) Tryz.VY hm (κ:=Cell) (ks:=l.map Z) (φ:=fun z=>lR (z,val z)) hb Ā ă (by simpa using hne) (by decide) (by simp;omega) Tryz.isAgg99 Tryz.sizeOf99 hv 115 eg gS (fun x y _ _ xs ys hx hy W=>by
  obtain ⟨u,hu,rfl⟩:=F9 x _ hx;obtain ⟨t,ht,rfl⟩:=F9 y _ hy;exact aaA x y u t hu ht W) aay aaz ć
 have ĕ:(((l.map Z).mergeSort fun x y=> !ltOf gS y x).map fun z=>lR (z,val z))=(sJ l).map lR:=by
  unfold sJ;have e2:=List.map_mergeSort (r:=fun x y:Cell×M ο=> !decide (gS y.1 x.1<0)) (s:=fun x y=> !ltOf gS y x) (f:=Z) (l:=l) (fun a _ b _=>rfl);rw [<-e2,σ]
  exact γ fun x hx=>by
   show lR (x.1,val x.1)=lR x;rw [hval x (List.mem_mergeSort.1 hx)]
 rw [ĕ] at K;exact K
theorem zq: ∀{es:M AV} {l:M Cell},zr es=I l->es=l.map Rk
 | [],l,h=>by cases h;rfl
 | e::r,l,h=>by
  unfold zr at h;split at h
  ·rename_i h0;cases h0
  ·rename_i a b r' h0;cases h0;split at h
   ·rename_i l' hl;cases h;rw [zq hl];rfl
   ·cases h
  ·cases h
theorem Gb [Kn] (x:Cell) {xs:M δ} (h:uk 2 (Rk x) xs):xs= [.int .i64 x.1,.int .i64 x.2]:=by
 obtain ⟨h1,h2,h3⟩:=h
 match xs,h1 with
 | [a,b],_=>obtain ⟨g,w,ha⟩:=h3 0 _ a rfl rfl;obtain ⟨g',w',hb⟩:=h3 1 _ b rfl rfl;rw [ha.aU,hb.aU]
theorem Rm [Kn] {g:Gh} {bs:M af} {w:U} (hm:Mem g bs w) {k:τ} {sh:Hd} {l:M Cell} (hb:af.at bs k= .sl sh 2 (l.map Rk)) (hne:l≠ []) (Ă:Ê l<1000000) (Ā:sh.out=ν) (ă:sh.ty=I 78) (ć:l.Nodup) {v:δ} (hv:Rd g w (.aC k (Ê l)) v):
  Calls prog 57 #[v,.func (.func 58) #[] #[]] w (dT g w (bs.set k (.sl ⟨sh.out,sh.ty,L⟩ 2 ((zs l).map Rk))) (.aK [])):=by
 have eg: ∀args w,(callFunc 58 args).run prog w= .ok (.enter 58 args) w:=enters_of func58 (by kernel_rfl) rfl
 exact Ga (P:=Tryz.prog) Tryz.VZ hm (κ:=Cell) (ks:=l) (φ:=Rk) hb Ā ă hne (by decide) (by omega) Tryz.isAgg78 Tryz.sizeOf78 hv 58 eg gS (fun x y _ _ xs ys hx hy W=>by
  obtain rfl:=Gb x hx;obtain rfl:=Gb y hy;exact aaB x y W) aay aaz ć
theorem Rn [Kn] (hk:zo):Nq prog cfg:=by
 intro f G hf xs bs r bs' hr;change wL f=I G at hf;unfold wL at hf;split at hf
 ·rename_i ā;subst ā;cases hf;unfold ff at hr;split at hr
  ·rename_i s;split at hr
   ·rename_i hn;refine ⟨⟨f180,by kernel_rfl,by kernel_rfl,by kernel_rfl⟩,fun g w vs hm hx=> ?_⟩;obtain ⟨vs⟩:=vs;simp only at hx;cases hx with
    | cons h1 t=>
     cases t;obtain rfl:=h1.cS;have Ĉ:(ByteArray.mk s.toArray).size=Ê s:=by show s.toArray.size=_;simp
     have ĥ:(⟨s.toArray⟩:ByteArray).data.toList=s:=by simp
     have K:=Tryz.strings_Fields_laid ⟨s.toArray⟩ w (by rw [Ĉ];exact hn.1) (fun j b hj=>by
      have:=List.all_eq_true.1 hn.2 b (List.mem_of_getElem? hj);simpa using this) (aax hk hm)
     rw [ĥ] at K;cases ğ:Lib.fields s with
     | nil=>rw [ğ] at hr K;cases hr;refine K.mono ?_;rintro e w' ⟨rfl,rfl⟩;exact F8 hm
     | cons x r=>rw [ğ] at hr K;cases hr;refine K.mono ?_;rintro e w' ⟨rfl,rfl⟩;exact Iq hm x r
   ·cases hr
  ·cases hr
 split at hf
 ·rename_i ā;subst ā;cases hf;unfold xk at hr;split at hr
  ·rename_i k n f;split at hr
   ·rename_i Ė;subst Ė;split at hr
    ·rename_i sh sz es hb;split at hr
     ·rename_i l hl;split at hr
      ·rename_i hc;cases hr;obtain ⟨hn,hne,Ă,rfl,Ā,ă,ć⟩:=hc;refine ⟨⟨f114,by kernel_rfl,by kernel_rfl,by kernel_rfl⟩,fun g w vs hm hx=> ?_⟩;obtain ⟨vs⟩:=vs;simp only at hx;rw [zp hl] at hb;subst hn;cases hx with
       | cons h1 t=>cases t with
        | cons h2 t=>
         cases t;cases h2 with
         | fn _ _ _ Ħ ħ ha hc=>obtain rfl:=F ha;obtain rfl:=F hc;exact Rj hm hb hne Ă Ā ă ć h1
      ·cases hr
     ·cases hr
    ·cases hr
   ·cases hr
  ·cases hr
 split at hf
 ·rename_i ā;subst ā;cases hf;unfold Du at hr;split at hr
  ·rename_i k n f;split at hr
   ·rename_i Ė;subst Ė;split at hr
    ·rename_i sh sz es hb;split at hr
     ·rename_i l hl;split at hr
      ·rename_i hc;cases hr;obtain ⟨hn,hne,Ă,rfl,Ā,ă,ć⟩:=hc;refine ⟨⟨f57,by kernel_rfl,by kernel_rfl,by kernel_rfl⟩,fun g w vs hm hx=> ?_⟩;obtain ⟨vs⟩:=vs;simp only at hx;rw [zq hl] at hb;subst hn;cases hx with
       | cons h1 t=>cases t with
        | cons h2 t=>
         cases t;cases h2 with
         | fn _ _ _ Ħ ħ ha hc=>obtain rfl:=F ha;obtain rfl:=F hc;exact Rm hm hb hne Ă Ā ă ć h1
      ·cases hr
     ·cases hr
    ·cases hr
   ·cases hr
  ·cases hr
 ·cases hf
theorem Ro [Kn]:Jp prog cfg:=by
 intro f G hf xs bs r k hr;change Lz f=I G at hf;unfold Lz at hf;split at hf
 ·rename_i ā;subst ā;cases hf;unfold Ks at hr;split at hr
  ·rename_i kx n rs;split at hr
   ·rename_i sh sz es hb;split at hr
    ·rename_i v hv;cases hr;unfold Dv at hv;split at hv
     ·rename_i i j;split at hv
      ·rename_i hc;cases hv;obtain ⟨rfl,h0,hlt,rfl,rfl,Ā,ă,_⟩:=hc;refine ⟨⟨f78,by kernel_rfl,by kernel_rfl,by kernel_rfl⟩,fun g w vs hm hx=> ?_⟩;obtain ⟨vs⟩:=vs;simp only at hx;cases hx with
       | cons h1 t=>cases t with
        | cons h2 t=>cases t with
         | cons h3 t=>cases t;obtain rfl:=h2.aU;obtain rfl:=h3.aU;have K:=Rg hm hb Ā ă (i:=i.toNat) (by omega) h1;rw [show ((i.toNat:τ):Int)=i by omega] at K;exact K
      ·cases hv
     ·cases hv
    ·cases hr
   ·cases hr
  ·cases hr
 ·cases hf
theorem Rp [Kn]:Nr prog cfg:=by
 intro f G hf xs r hr g w vs hx;change exts f=I G at hf;obtain ⟨vs⟩:=vs;simp only at hx;unfold exts at hf;split at hf
 ·rename_i ā;subst ā;cases hf;unfold Cg at hr;split at hr
  ·cases hr;cases hx with
   | cons h1 t=>cases t with
    | cons h2 t=>cases t;rename_i s c _ _;obtain rfl:=h1.cS;obtain rfl:=h2.aU;refine ⟨.int .i64 (Lib.indexByte s c.toNat.toUInt8),?_,.int _ _⟩;rw [R (P:=Tryz.prog) (f:=224) (fn:=f224) (by kernel_rfl) (by kernel_rfl) (by kernel_rfl) (by kernel_rfl) (e:=Extern.BytealgIndexByte.indexByte) (by kernel_rfl)];have:=Lib.run_indexByteString (P:=Tryz.prog) ⟨s.toArray⟩ c w;rw [this];rfl
  ·cases hr
 split at hf
 ·rename_i ā;subst ā;cases hf;unfold Mk at hr;split at hr
  ·cases hr;cases hx with
   | cons h1 t=>cases t;refine ⟨_,?_,h1⟩;rw [R (P:=Tryz.prog) (f:=222) (fn:=f222) (by kernel_rfl) (by kernel_rfl) (by kernel_rfl) (by kernel_rfl) (e:=Extern.AbiNoEscape.same) (by kernel_rfl)];rfl
  ·cases hr
 split at hf
 ·rename_i ā;subst ā;cases hf;unfold Ci at hr;split at hr
  ·cases hr;cases hx with
   | cons h1 t=>cases t with
    | cons h2 t=>cases t;rename_i s c _ _;obtain rfl:=h1.cS;obtain rfl:=h2.aU;refine ⟨.int .i64 (Lib.countByte s c.toNat.toUInt8),?_,.int _ _⟩;rw [R (P:=Tryz.prog) (f:=144) (fn:=f144) (by kernel_rfl) (by kernel_rfl) (by kernel_rfl) (by kernel_rfl) (e:=Extern.BytealgCount.count) (by kernel_rfl)];have:=Lib.run_countString (P:=Tryz.prog) ⟨s.toArray⟩ c w;rw [this];rfl
  ·cases hr
 ·cases hf
theorem Oj [Kn] (hk:zo):qR cfg prog:=HV (by kernel_rfl) (by kernel_rfl) (VX hk) (Rn hk) Ro Rp
end Go.Proofs.YtfgbpngakkhdcaaGreatDoor
namespace Go.Proofs.YtfgbpngakkhdcaaGreatDoor
open Go.Proofs.Tryz
open Go.Am Go.RowKit
theorem ri {H:Type} {enc:TypeId×δ->H} {a:Assume} {C:Checked} {os:Os} {f:FuncId} {fn:Func} {s:ChangeSpec} {conds:M PathCond} {apart fresh handsOn again:Bool} {X:U->Array δ->Prop}
  (hX: ∀(w w':U) (args:Array δ),w.heap=w'.heap->X w args->X w' args)
  (own:ownKnob C.prog.godebug=L) (started:os.Started) (Ċ:C.prog.inits.idxOf? f=L) (Ĩ:C.prog.funcs[f]?=I fn)
  (witness: ∃(w:U) (tape:Tape) (i:Input),w.os=os/\(w.forCall tape i).Shaped C.prog/\i.vars= []/\Input.okWide C.prog (w.forCall tape i) .any w.heap.size f i/\
   ((s.pre enc C.prog fn conds apart (w.forCall tape i).memory i.args/\X (w.forCall tape i).memory i.args)/\sizedMet enc C.prog fn (OpenSpec.ofChange s) apart (w.forCall tape i).memory i.args)/\a.holds C.prog (lone (Frame.enter C.prog f i.args .normal) [] (w.forCall tape i)))
  (run: ∀(W:U) (base:τ) (args:Array δ) (ds gs:M (DataW H)) (before:M MemPlace),W.ShapedOpen C.prog->
   (∀(j:τ) t v,fn.params[j]?=I t->args[j]?=I v->Value.okWide C.prog W .any base t v)->
   DataW.Whole enc C.prog fn.params.toList s.vars apart W args.toList ds gs before->X W args->
   Calls C.prog f args W fun e W'=> ∃v,e= .returned v/\s.post enc C.prog fn apart fresh handsOn again W args v W'):
  ReturnsInHanded a C os f .any (fun w args=>(s.pre enc C.prog fn conds apart w args/\X w args)/\sizedMet enc C.prog fn (OpenSpec.ofChange s) apart w args) (s.post enc C.prog fn apart fresh handsOn again):=
 returnsInHanded_of_calls own started Ċ witness fun w tape i _ shape _ ok pre _=>by
  obtain ⟨⟨⟨ds,gs,before,whole,_⟩,hx⟩,_⟩:=pre;obtain ⟨_,_,_,fn2,ĩ,_,_,_,_,ė⟩:=ok;cases Option.some.inj (ĩ.symm.trans Ĩ);have goes:=run (w.forCall tape i) w.heap.size i.args ds gs before shape ė (DataW.Whole.of_heap (w':=w.forCall tape i) (by rfl) whole) (hX _ _ _ (by rfl) hx)
  exact goes.mono fun e W' h=>by
   obtain ⟨v,rfl,hp⟩:=h;exact ChangeSpec.post_blind hp
theorem qB {P:Program} {w:U} {n:String} {g:τ} {cs:Array δ} (hg:P.globalNamed n=I g) (h:w.var? P n=I cs): ∃t z,w.heap[g]?=I (.cells cs t z):=by
 unfold World.var? at h;rw [hg] at h;simp only [Y] at h;split at h
 ·rename_i c t z hc;cases h;exact ⟨t,z,hc⟩
 ·cases h
theorem aaC:Tryz.prog.globalNamed "internal/strconv.uint64pow10" =I 3:=by kernel_rfl
theorem LB {w:U} (h:w.ShapedOpen prog): ∃m t z,w.heap[0]?=I (.cells #[.int .i64 m] t z):=by
 have h0:((begin prog (fun _ _=>0) default).world.heap[0]?).bind Obj.row?=I (#[.int .i64 0],3):=by kernel_rfl
 have hg:0<Tryz.prog.globals.size:=by decide+kernel
 obtain ⟨m,hm⟩:=cell_of_shapedOpen_int (t:=3) h hg h0 rfl (by kernel_rfl) (by kernel_rfl) underlying3;obtain ⟨cs,hh,hs,_⟩:=h.1 _ _ _ hg h0;refine ⟨m,3,(0,0),?_⟩;rw [hh];have hs:cs.size=1:=hs
 obtain ⟨x,rfl⟩: ∃x,cs= #[x]:=by
  obtain ⟨l⟩:=cs
  match l,hs with
  | [x],_=>exact ⟨x,rfl⟩
 simp [World.cell?,hh] at hm;rw [hm]
theorem gSp:Tryz.prog.globalNamed "strings.asciiSpace" =I 1:=by kernel_rfl
theorem JU: "*" ++ "errors.errorString" = "*errors.errorString" :=by decide
theorem Ok (u:TypeId) (h:Tryz.prog.typeName? 3 u=I "*errors.errorString"):u=283:=
 typeName_ptr_named (nm:= "errors.errorString") (by rw [JU];kernel_rfl) (by kernel_rfl) (by decide) u (by rw [JU];exact h)
theorem aaD:Tryz.prog.globalNamed "strconv.ErrSyntax" =I 4:=by kernel_rfl
theorem aaE:Tryz.prog.globalNamed "strconv.ErrRange" =I 5:=by kernel_rfl
set_option maxRecDepth 100000 in
theorem Ti {w:U} (h:laidMetH prog [("math/bits.deBruijn32tab",Rows.laid_math_bits_deBruijn32tab),("math/bits.deBruijn64tab",Rows.laid_math_bits_deBruijn64tab),("internal/strconv.uint64pow10",Rows.laid_internal_strconv_uint64pow10),("unicode/utf8.acceptRanges",Rows.laid_unicode_utf8_acceptRanges),("strconv.ErrRange",Rows.laid_strconv_ErrRange),("strconv.ErrSyntax",Rows.laid_strconv_ErrSyntax),("unicode.White_Space",Rows.laid_unicode_White_Space),("strings.asciiSpace",Rows.laid_strings_asciiSpace),("unicode/utf8.first",Rows.laid_unicode_utf8_first)] w) (hs:w.ShapedOpen prog):
  ∃K:Kn, @zo K/\ ∀p∈K.ks,w.heap[p.1]?=I p.2:=by
 rw [MakeChecks.laidMetH_plain _ _ _ (by kernel_rfl)] at h;have h2:=h.tail.tail;have h4:=h2.tail.tail;have h5:=h4.tail;have h7:=h5.tail.tail;have hp:Lib.TabIs prog w "internal/strconv.uint64pow10" .u64 ρ:=θ (t:=262) (e:=197) (n:=20) aaC (by kernel_rfl) (by kernel_rfl) (by kernel_rfl) (by kernel_rfl) (by kernel_rfl) h2;have Ī:Lib.TabIs prog w "strings.asciiSpace" .u8 ζ:=θ (t:=234) (e:=5) (n:=256) gSp (by kernel_rfl) (by kernel_rfl) (by kernel_rfl) (by kernel_rfl) (by kernel_rfl) h7;obtain ⟨a1,s1,v1,_⟩:=laid_sentinel (tp:=283) (te:=285) (ts:=9) h4 aaE (ti:=180) (by kernel_rfl) underlying180 Ok underlying283 underlying285 rfl rfl underlying9 (by kernel_rfl) (by kernel_rfl);obtain ⟨a2,s2,v2,_⟩:=laid_sentinel (tp:=283) (te:=285) (ts:=9) h5 aaD (ti:=180) (by kernel_rfl) underlying180 Ok underlying283 underlying285 rfl rfl underlying9 (by kernel_rfl) (by kernel_rfl);obtain ⟨t0,z0,b0⟩:=qB aaC hp;obtain ⟨t3,z3,b3⟩:=qB gSp Ī;obtain ⟨t4,z4,b4⟩:=qB aaE v1;obtain ⟨t5,z5,b5⟩:=qB aaD v2;obtain ⟨m,t1,z1,b1⟩:=LB hs
 let K:Kn:=⟨[(3,Obj.cells (Lib.pow10Tab.map fun z=>Value.int .u64 z).toArray t0 z0),(0,Obj.cells #[.int .i64 m] t1 z1),(1,Obj.cells (Lib.asciiSpaceTab.map fun z=>Value.int .u8 z).toArray t3 z3),(5,Obj.cells #[.iface 283 (.pointer (I a1))] t4 z4),(4,Obj.cells #[.iface 283 (.pointer (I a2))] t5 z5)],fun p hp=>by
  simp only [ξ,μ,or_false] at hp;rcases hp with rfl | rfl | rfl | rfl | rfl
  ·exact ⟨_,_,_,rfl⟩
  ·exact ⟨_,_,_,rfl⟩
  ·exact ⟨_,_,_,rfl⟩
  ·exact ⟨_,_,_,rfl⟩
  ·exact ⟨_,_,_,rfl⟩⟩
 refine ⟨K, @zo.mk K ⟨_,_,.head _⟩ ⟨_,_,.tail _ (.tail _ (.head _))⟩ ⟨_,_,_,_,.tail _ (.tail _ (.tail _ (.tail _ (.head _))))⟩ ⟨_,_,_,_,.tail _ (.tail _ (.tail _ (.head _)))⟩ ⟨_,_,_,.tail _ (.head _)⟩,?_⟩;intro p hp;have hp:p∈ [(3,Obj.cells (Lib.pow10Tab.map fun z=>Value.int .u64 z).toArray t0 z0),(0,Obj.cells #[.int .i64 m] t1 z1),(1,Obj.cells (Lib.asciiSpaceTab.map fun z=>Value.int .u8 z).toArray t3 z3),(5,Obj.cells #[.iface 283 (.pointer (I a1))] t4 z4),(4,Obj.cells #[.iface 283 (.pointer (I a2))] t5 z5)]:=hp;simp only [ξ,μ,or_false] at hp;rcases hp with rfl | rfl | rfl | rfl | rfl
 ·exact b0
 ·exact b1
 ·exact b3
 ·exact b4
 ·exact b5
