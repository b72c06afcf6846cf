/- slices.Delete of one read of a slice of one's own: -/
import Derived.Test.YtfgbpngakkhdcaaGreatDoorSeatC
import Derived.Test.YtfgbpngakkhdcaaGreatDoorSortM
import Derived.Test.YtfgbpngakkhdcaaGreatDoorRows
import Derived.LaidLaws
import Derived.Stop.LaidErr
import Derived.MakeChecks
import Derived.Lib.LaidTab
import Derived.HandedShaped
import Derived.Shelf.Vars
open Array renaming eq_empty_of_size_eq_zero->adA,getElem?_eq_getElem->adB
open List renaming getElem?_eq_getElem->aaF,getElem?_map->abo,getElem?_take->acD,getElem_map->adC,getElem_of_mem->acA,length_drop->abb,map_congr_left->ab9,map_map->ab2,mem_cons->aaQ,not_mem_nil->acf
open Option renaming bind_some->adD
set_option linter.all false
set_option linter.all false
namespace Go.Am
variable [Kn]
theorem Gi {g:Gh} {bs:List ad} {w:World} (h:Mem g bs w) {bw:Nat} {T:Nat->Prop} (hlt:bw<w.heap.size) (hno: ∀k,(g.e k).bw≠some bw):
  Mem {S:=fun b o=>g.S b o∨(b=bw∧T o),e:=g.e} bs w∧Le g w {S:=fun b o=>g.S b o∨(b=bw∧T o),e:=g.e} w:=by
 have hl:Le g w {S:=fun b o=>g.S b o∨(b=bw∧T o),e:=g.e} w:=⟨fun _ _ x=> .inl x,fun _ _ _=>rfl,fun _=> .same _⟩;refine ⟨⟨h.no,fun k ty cs hk=> ?_,fun k sh sz es hk=> ?_,h.loop,fun k es clock hk=> ?_,h.gone,fun k o hk=> ?_,h.inj,fun b o hb=> ?_,h.kn⟩,hl⟩
 ·obtain ⟨b,he,hr⟩:=h.var k ty cs hk;exact ⟨b,he,hr.mono hl rfl⟩
 ·obtain ⟨loc,he,hr⟩:=h.sl k sh sz es hk;exact ⟨loc,he,hr.mono hl (fun _ _=>rfl)⟩
 ·obtain ⟨b,he,hr⟩:=h.mp k es clock hk;exact ⟨b,he,hr.mono hl rfl⟩
 ·obtain ⟨b,he,hr⟩:=h.it k o hk;exact ⟨b,he,hr.le hl rfl⟩
 ·rcases hb with hb | ⟨rfl,_⟩
  ·exact h.cR b o hb
  ·exact ⟨hlt,fun k hk=>absurd hk (hno k)⟩
omit [Kn] in
theorem lu (b:Nat): ∀(vs:List Value) (o:Nat) (w:World),(w.setCells b o vs).heap.size=w.heap.size∧(w.setCells b o vs).os=w.os∧(w.setCells b o vs).tape=w.tape∧(w.setCells b o vs).output=w.output∧ ∀b2,b2≠b->(w.setCells b o vs).heap[b2]?=w.heap[b2]?
 | [],_,_=>⟨rfl,rfl,rfl,rfl,fun _ _=>rfl⟩
 | v::r,o,w=>by
  obtain ⟨h1,h2,h3,h4,h5⟩:=lu b r (o+1) (w.setCell ⟨b,o,none⟩ v);refine ⟨h1.trans (by simp [World.setCell]),h2,h3,h4,fun b2 hb=>(h5 b2 hb).trans ?_⟩;simp [World.setCell,Array.getElem?_modify,Ne.symm hb]
end Go.Am
namespace Go.Proofs.YtfgbpngakkhdcaaGreatDoor
open Go.Am Go.RowKit Go.Sort Go.Proofs
theorem Ox [Kn] {g:Gh} {bs:List ad} {w:World} (hm:Mem g bs w) {k:Nat} {sh:Hd} {es:List AV} (hb:ad.at bs k= .sl sh 3 es) (hout:sh.out=false) (hty:sh.ty=some 99) {i:Nat} (hi:i<es.length) {v:Value} (hv:Rd g w (.ax k es.length) v):
  Calls Tryz.prog 78 #[v,.int .i64 i,.int .i64 (i+1)] w (dE g w (bs.set k .gone) (.ag none 3 (es.take i++es.drop (i+1)))):=by
 obtain ⟨a,cap,rfl,_,loc,hge,hr,hl⟩:=hv.jN hm hb rfl;rcases hl with ⟨bw,rfl,rfl⟩ | ⟨_,h0,_⟩
 case inr=>rw [h0] at hi;simp at hi
 obtain ⟨c,ty',fz,hc,hcs,hcap,hf',hrd⟩:=nv.cell hr.2;obtain ⟨rfl,hf⟩:=hf' _ hty;rw [hout] at hf;simp only [Bool.false_eq_true,if_false] at hf;obtain ⟨m,hm'⟩: ∃m,es.length=i+1+m:=⟨es.length-(i+1),by omega⟩
 have hsz:(i+1+m)*3<=c.size:=by have:(i+1+m)*3<=cap*3:=Nat.mul_le_mul_right _ (by omega);omega
 obtain ⟨d,hd⟩: ∃d,d=c.toList.take ((i+1+m)*3):=⟨_,rfl⟩;have hdl:d.length=(i+1+m)*3:=by rw [hd];simp;omega
 have hdg: ∀o,o<(i+1+m)*3->d[o]?=c[o]?:=fun o ho=>by
  rw [hd,acD,if_pos ho];simp
 have hel: ∀(a:Nat) (e:AV),es[a]?=some e->e.plain=true∧e.cells.length=3:=hr.1
 have hcell: ∀o,o<(i+1+m)*3->w.cell? ⟨bw,o,none⟩=some (d.getD o (.int .i64 0))∧w.frozen? ⟨bw,o,none⟩=false:=fun o ho=>by
  refine ⟨?_,qJ hc hf (Nat.zero_le _) (by omega)⟩;rw [eJ hc,<-hdg o ho,List.getD_eq_getElem?_getD,aaF (by omega)];rfl
 have h1: ∀v∈d,v.oneCell'=true:=fun v hv=>by
  obtain ⟨o,ho,rfl⟩:=acA hv;have ho3:o / 3<es.length:=by omega
  have hj:o%3<3:=Nat.mod_lt _ (by decide);have he:=hel (o / 3) es[o / 3] (aaF ho3);refine (hrd (o / 3) (o%3) es[o / 3] es[o / 3].cells[o%3] d[o] (aaF ho3) (aaF (by rw [he.2];exact hj)) ?_).2;rw [show o / 3*3+o%3=o by omega,<-hdg o (by omega)];exact aaF ho
 have K:=Sw w bw m cap i d hdl hcell h1 (by omega);rw [hm'];refine K.mono ?_;rintro e w' ⟨rfl,q,hw'⟩;have hblk:(g.e k).bw=some bw:=by rw [hge];rfl
 have hk:k<bs.length:=ff (by rw [hb];simp);have hblt:bw<w.heap.size:=bI hc;obtain ⟨a1,a2,a3,a4,a5⟩:=lu bw (d.drop ((i+1)*3)) (i*3) (Sort.ahead w q);obtain ⟨b1,b2,b3,b4,b5⟩:=lu bw Oy ((i+m)*3) ((Sort.ahead w q).setCells bw (i*3) (d.drop ((i+1)*3)));rw [<-hw'] at b1 b2 b3 b4 b5;have hold: ∀b,b≠bw->w'.heap[b]?=w.heap[b]?:=fun b hb=>(b5 b hb).trans (a5 b hb);have hsize:w'.heap.size=w.heap.size:=b1.trans a1;have hos:w'.os=w.os:=b2.trans a2;have htp:w'.tape=w.tape:=b3.trans a3;have hou:w'.output=w.output:=b4.trans a4
 have hnoS: ∀o,¬ g.S bw o:=fun o hs=>by
  obtain ⟨ty',sz',es',h3,_⟩:=(hm.cR bw o hs).2 k hblk;rw [hb] at h3;cases h3;cases hout
 have hcl: ∀b2 o,g.S b2 o->w'.cell? ⟨b2,o,none⟩=w.cell? ⟨b2,o,none⟩:=fun b2 o hs=>
  bS (hold b2 (fun e=>by subst e;exact hnoS o hs)) o
 obtain ⟨m1,l1,f1⟩:=Mem.gQ (w':=w') (id:=k) (x:= .gone) (ge:= .sl (es.length+1) 3 none) (S':=g.S) hm hk (fun _ _ h=>h) hcl (by rw [hge];exact .grown (by omega))
  (fun b2 _ hne=>hold b2 (fun e=>by subst e;exact hne hblk)) (by omega) (fun b2 h=>by cases h) (by simp) (fun _ _ h=>by cases h) (fun _ _ _ h=>by cases h)
  (fun _ _ h=> .inl h) (fun _ _ _ h=>by cases h) hos htp hou (hgo:=fun _=>⟨_,_,rfl⟩)
 have hno1: ∀j,((g.eE k (.sl (es.length+1) 3 none) g.S).e j).bw≠some bw:=fun j hj=>by
  by_cases e:k=j
  ·subst e;rw [Gh.aZ] at hj;cases hj
  ·rw [Gh.aX _ _ _ e] at hj;exact e (hm.inj j k bw hj hblk).symm
 obtain ⟨m2,l2⟩:=Gi (T:=fun o=>o<(i+m)*3) m1 (by omega:bw<w'.heap.size) hno1;have hle:=l1.trans l2;refine ⟨_,_,rfl,m2,hle,⟨by omega,fun b hb hne=> ?_,hos,htp,hou⟩,?_⟩
 ·have hbb:b≠bw:=fun e=>by subst e;exact hne k hblk
  obtain ⟨q1,q2,q3⟩:=f1.frame b hb hne;refine ⟨q1,q2,fun o ho=> ?_⟩;rcases ho with ho | ⟨ho,_⟩
  ·exact q3 o ho
  ·exact absurd ho hbb
 ·have hlen:(es.take i++es.drop (i+1)).length=i+m:=by simp;omega
  have key: ∀(a:Nat) (e:AV),(es.take i++es.drop (i+1))[a]?=some e->a<i+m∧es[if a<i then a else a+1]?=some e:=fun a e he=>by
   have ha:=ah he;rw [hlen] at ha;refine ⟨ha,?_⟩;by_cases h:a<i
   ·rw [if_pos h];rw [List.getElem?_append_left (by simp;omega),acD,if_pos h] at he;exact he
   ·rw [if_neg h];rw [List.getElem?_append_right (by simp;omega),List.getElem?_drop,List.length_take] at he;rw [<-he];congr 1;omega
  have hget: ∀a j,a<i+m->j<3->w'.cell? ⟨bw,0+a*3+j,none⟩=c[(if a<i then a else a+1)*3+j]?:=fun a j ha hj=>by
   rw [hw',World.cell?_setCells_out _ _ _ _ _ (fun _ _=>by simp only;left;omega)];by_cases h:a<i
   ·rw [if_pos h,World.cell?_setCells_out _ _ _ _ _ (fun _ _=>by simp only;left;omega),Nat.zero_add];exact eJ hc _
   ·rw [if_neg h]
    have hin:=World.cell?_setCells_in bw (d.drop ((i+1)*3)) (i*3) (Sort.ahead w q) (fun j hj=>by
     rw [abb,hdl] at hj;show (w.cell? _).isSome=true;rw [(hcell (i*3+j) (by omega)).1];rfl) ((a-i)*3+j) (by rw [abb,hdl];omega)
    rw [show 0+a*3+j=i*3+((a-i)*3+j) by omega,hin,List.getElem_drop,<-aaF,hdg _ (by omega)];congr 1;omega
  suffices h:Am.Rd {S:=fun b o=>(g.eE k (GE.sl (es.length+1) 3 none) g.S).S b o∨(b=bw∧o<(i+m)*3),e:=(g.eE k (GE.sl (es.length+1) 3 none) g.S).e} w' (.ag none 3 (es.take i++es.drop (i+1))) (.slice (some ⟨bw,0,none⟩) (es.take i++es.drop (i+1)).length cap) by rw [hlen] at h;exact h
  refine Rd.ag none 3 (es.take i++es.drop (i+1)) (some ⟨bw,0,none⟩) cap bw 0 (fun a j=>(c[(if a<i then a else a+1)*3+j]?).getD (.int .i64 0)) (fun x h=>by cases h) (fun h=>by cases h) (by omega) (fun _=>rfl) (fun a e he=>hel _ _ (key a e he).2) (fun a j e x he hx=> ?_) (fun a j e x he hx=> ?_)
  ·obtain ⟨ha,he2⟩:=key a e he;have hj:=ah hx;rw [(hel _ _ he2).2] at hj;have hlt:(if a<i then a else a+1)*3+j<c.size:=by split <;> omega
   refine ⟨.inr ⟨rfl,by omega⟩,?_,?_⟩
   ·rw [hget a j ha hj,adB hlt];rfl
   ·rw [adB hlt];exact (hrd _ j e x _ he2 hx (adB hlt)).2
  ·obtain ⟨ha,he2⟩:=key a e he;have hj:=ah hx;rw [(hel _ _ he2).2] at hj;have hlt:(if a<i then a else a+1)*3+j<c.size:=by split <;> omega
   simp only [adB hlt,Option.getD_some];exact (hrd _ j e x _ he2 hx (adB hlt)).1.mono hle
end Go.Proofs.YtfgbpngakkhdcaaGreatDoor
set_option linter.all false
namespace Go.Proofs.YtfgbpngakkhdcaaGreatDoor
open Go.Am Go.RowKit
open Go.Sort Go.Proofs
noncomputable def P4:String:=(Tryz.prog.globals[3]?).elim "" (·.name)
structure xY [Kn]:Prop where
 pow: ∃t z,(3,Obj.cells (Lib.pow10Tab.map fun z=>Value.int .u64 z).toArray t z)∈Kn.ks
 sp: ∃t z,(1,Obj.cells (Lib.asciiSpaceTab.map fun z=>Value.int .u8 z).toArray t z)∈Kn.ks
 syn: ∃tp p t z,(4,Obj.cells #[.iface tp p] t z)∈Kn.ks
 sP: ∃tp p t z,(5,Obj.cells #[.iface tp p] t z)∈Kn.ks
 max: ∃m t z,(0,Obj.cells #[.int .i64 m] t z)∈Kn.ks
theorem Sx [Kn] (hk:xY) {g:Gh} {w:World} (hm:Mem g [] w):Lib.TabIs Tryz.prog w P4 .u64 Lib.pow10Tab:=by
 obtain ⟨t,z,h⟩:=hk.pow;have h1:=(hm.kn _ h).1;have h2:Tryz.prog.globalNamed P4=some 3:=by kernel_rfl
 unfold Lib.TabIs World.var?;rw [h2];simp only [adD];rw [h1]
noncomputable def WY:String:=(Tryz.prog.globals[1]?).elim "" (·.name)
theorem Oz:WY= "strings.asciiSpace" :=by kernel_rfl
theorem WZ [Kn] (hk:xY) {g:Gh} {bs:List ad} {w:World} (hm:Mem g bs w):Lib.TabIs Tryz.prog w "strings.asciiSpace" .u8 Lib.asciiSpaceTab:=by
 obtain ⟨t,z,h⟩:=hk.sp;have h1:=(hm.kn _ h).1;have h2:Tryz.prog.globalNamed WY=some 1:=by kernel_rfl
 rw [Oz] at h2;unfold Lib.TabIs World.var?;rw [h2];simp only [adD];rw [h1]
theorem Sy [Kn] (hk:xY):Nf Tryz.prog cfg:=by
 intro f G hf xs r hr hp;change GF f=some G at hf;unfold GF at hf;split at hf
 ·rename_i hf0;subst hf0;cases hf;unfold BO at hr;split at hr
  ·rename_i n;split at hr
   ·rename_i hn;cases hr;refine ⟨⟨Tryz.f92,by kernel_rfl,by kernel_rfl,by kernel_rfl⟩,fun g w vs hm hx=> ?_⟩;obtain ⟨vs⟩:=vs;simp only at hx;cases hx with
    | cons h1 t=>cases t;obtain rfl:=h1.aJ;refine (Tryz.strconv_Itoa n hn.1 hn.2 w (Sx hk hm)).mono ?_;rintro e w' ⟨rfl,k,os,rfl⟩;exact dE.sx hm (Lib.below_grow _ _ (Nat.le_refl _) _ _) (.str _)
   ·cases hr
  ·cases hr
 split at hf
 ·rename_i hf0;subst hf0;cases hf;unfold D9 at hr;split at hr
  ·rename_i s t;split at hr
   ·rename_i hn;cases hr;refine ⟨⟨Tryz.f186,by kernel_rfl,by kernel_rfl,by kernel_rfl⟩,fun g w vs hm hx=> ?_⟩;obtain ⟨vs⟩:=vs;simp only at hx;cases hx with
    | cons h1 tl=>cases tl with
     | cons h2 tl=>
      cases tl;obtain rfl:=h1.cE;obtain rfl:=h2.cE;obtain ⟨m,ty,z,hk1⟩:=hk.max;have hb:=(hm.kn _ hk1).1;have hc:w.cell? ⟨0,0,none⟩=some (.int .i64 m):=by simp [World.cell?,hb]
      have hsz:(ByteArray.mk s.toArray).size=s.length:=by show s.toArray.size=_;simp
      refine (Tryz.stringslite_Index ⟨s.toArray⟩ ⟨t.toArray⟩ m w (by rw [hsz];exact hn) hc).mono ?_;rintro e w' ⟨rfl,rfl⟩;exact dE.sx hm (RowKit.Below.refl _ _) (.int _ _)
   ·cases hr
  ·cases hr
 split at hf
 ·rename_i hf0;subst hf0;cases hf;unfold nH at hr;split at hr
  ·rename_i Zv s base bits t n;split at hr
   ·rename_i hn;cases hr;obtain ⟨hs,rfl,hn⟩:=hn;refine ⟨⟨Tryz.f197,by kernel_rfl,by kernel_rfl,by kernel_rfl⟩,fun g w vs hm hx=> ?_⟩;obtain ⟨vs⟩:=vs;simp only at hx;cases hx with
    | cons h1 t=>cases t with
     | cons h2 t=>cases t with
      | cons h3 t=>cases t with
       | cons h4 t=>cases t with
        | cons h5 t=>
         cases t;obtain rfl:=h1.cE;obtain rfl:=h2.cE;obtain rfl:=h3.aJ;obtain rfl:=h4.aJ;cases h5;have hsz:(ByteArray.mk s.toArray).size=s.length:=by show s.toArray.size=_;simp
         rcases hn with rfl | rfl
         ·obtain ⟨tp,p,t,z,hk1⟩:=hk.sP;have hc:w.cell? ⟨5,0,none⟩=some (.iface tp p):=by simp [World.cell?,(hm.kn _ hk1).1]
          refine (AnyPu.strconv_toError_range Tryz.Ef ⟨Zv.toArray⟩ ⟨s.toArray⟩ base bits _ w (by rw [hsz];exact hs) hc (.inr ⟨_,_,rfl⟩)).mono ?_;rintro e w' ⟨N,rfl,_,_,hb⟩;exact dE.sx hm hb (.gR _ _ (.inr ⟨rfl,_,_,rfl⟩))
         ·obtain ⟨tp,p,t,z,hk1⟩:=hk.syn;have hc:w.cell? ⟨4,0,none⟩=some (.iface tp p):=by simp [World.cell?,(hm.kn _ hk1).1]
          refine (AnyPu.strconv_toError_syntax Tryz.Ef ⟨Zv.toArray⟩ ⟨s.toArray⟩ base bits _ w (by rw [hsz];exact hs) hc (.inr ⟨_,_,rfl⟩)).mono ?_;rintro e w' ⟨N,rfl,_,_,hb⟩;exact dE.sx hm hb (.gR _ _ (.inr ⟨rfl,_,_,rfl⟩))
   ·cases hr
  ·cases hr
 ·cases hf
theorem Gj [Kn] {g:Gh} {bs:List ad} {w:World} (hm:Mem g bs w) (x:List UInt8) (r:List (List UInt8)):
  dE g w (bs++ [.sl ⟨false,some 9,none⟩ 1 ((x::r).map AV.str)]) (.ax bs.length (r.length+1)) (.returned (.slice (some ⟨w.heap.size,0,none⟩) (x::r).length (x::r).length)) (w.alloc (.cells ((x::r).map fun l=>Value.string ⟨l.toArray⟩).toArray 9)):=by
 have hpad:Mem g (bs++ [.dead]) w:=hm.pad 1
 have he:(c9.new (.sl ⟨false,some 9,none⟩ 1 ((x::r).map AV.str))).on (bs++ [.dead]) bs.length=some (bs++ [.sl ⟨false,some 9,none⟩ 1 ((x::r).map AV.str)]):=by simp [c9.on]
 have hold: ∀b,b<w.heap.size->(w.alloc (.cells ((x::r).map fun l=>Value.string ⟨l.toArray⟩).toArray 9)).heap[b]?=w.heap[b]?:=fun b hb=>cr w _ hb
 have K:=xE (r:= .ok (.value (.slice (some ⟨w.heap.size,0,none⟩) ((x::r).map AV.str).length (x::r).length)) (w.alloc (.cells ((x::r).map fun l=>Value.string ⟨l.toArray⟩).toArray 9))) (fz:=(0,0)) (cap:=(x::r).length) (c:=((x::r).map fun l=>Value.string ⟨l.toArray⟩).toArray) (ty:=9) hpad he rfl hold (by simp) (dp w _) rfl rfl rfl (by intro o h;simp) (by simp) (by simp) (by simp)
  (fun i e h=>by
   rw [abo] at h;cases hx:(x::r)[i]? with
   | none=>rw [hx] at h;cases h
   | some s=>rw [hx] at h;cases h;exact ⟨rfl,rfl⟩)
  (fun i j e y v h1 h2 h3=>by
   rw [abo] at h1;cases hx:(x::r)[i]? with
   | none=>rw [hx] at h1;cases h1
   | some s=>
    rw [hx] at h1;cases h1
    have hj:j=0:=by
     cases j with
     | zero=>rfl
     | succ j=>simp [AV.cells] at h2
    subst hj;simp only [AV.cells,List.getElem?_cons_zero,Option.some.injEq] at h2;subst h2;simp only [Nat.mul_one,Nat.add_zero,List.getElem?_toArray,abo,hx,Option.map_some,Option.some.injEq] at h3;subst h3;exact ⟨.str _,rfl⟩)
 obtain ⟨nx,v,w',g',h1,h2,h3,h4,h5,h6⟩:=K;cases h1;rcases h2 with h2 | ⟨h2,_⟩
 ·cases h2;rw [List.length_map] at h6;exact ⟨_,g',rfl,h3,h4,h5,by simpa using h6⟩
 ·cases h2
theorem Eg [Kn] {g:Gh} {bs:List ad} {w:World} (hm:Mem g bs w):
  dE g w (bs++ [.var 9 []]) (.cv (some false)) (.returned (.slice (some ⟨w.heap.size,0,none⟩) 0 0)) (w.alloc (.cells #[] 9)):=by
 have hpad:Mem g (bs++ [.dead]) w:=hm.pad 1
 have he:(c9.new (.var 9 [])).on (bs++ [.dead]) bs.length=some (bs++ [.var 9 []]):=by simp [c9.on]
 have K:=Be (c:= #[]) (ty:=9) hpad he rfl rfl (fun j x u h=>by simp at h);obtain ⟨nx,v,w',g',h1,h2,h3,h4,h5,h6⟩:=K;cases h1;exact ⟨_,g',rfl,h3,h4,h5,.cv _ _ (by rintro x ⟨⟩;rfl)⟩
theorem W0:Go.Sort.SWO (ltOf gr) where
 irrefl x:=by unfold ltOf;rw [decide_eq_false_iff_not,fQ];exact fj x
 trans x y z h1 h2:=by
  unfold ltOf at*
  simp only [decide_eq_true_eq,fQ] at*
  exact fk h1 h2
 ntrans x y z h1 h2:=by
  unfold ltOf at*
  simp only [decide_eq_false_iff_not,fQ,gu] at*
  omega
theorem W4 (x y:Cell) (h1:ltOf gr x y=false) (h2:ltOf gr y x=false):x=y:=by
 unfold ltOf at*
 simp only [decide_eq_false_iff_not,fQ] at h1 h2;by_cases h:x=y
 ·exact h
 ·exact absurd (mZ h1 h) h2
theorem xZ: ∀{es:List AV} {l:List (Cell×List UInt8)},zV es=some l->es=l.map nf
 | [],l,h=>by cases h;rfl
 | e::r,l,h=>by
  unfold zV at h;split at h
  ·rename_i h0;cases h0
  ·rename_i a b s r' h0;cases h0;split at h
   ·rename_i l' hl;cases h;rw [xZ hl];rfl
   ·cases h
  ·cases h
theorem Eh [Kn] (x:Cell) (t:List UInt8) {xs:List Value} (h:sM 3 (nf (x,t)) xs): ∃u,u.oneCell'=true∧xs= [.int .i64 x.1,.int .i64 x.2,u]:=by
 obtain ⟨h1,h2,h3⟩:=h
 match xs,h1 with
 | [a,b,c],_=>obtain ⟨g,w,ha⟩:=h3 0 _ a rfl rfl;obtain ⟨g',w',hb⟩:=h3 1 _ b rfl rfl;rw [ha.aJ,hb.aJ];exact ⟨c,h2 c (by simp),rfl⟩
theorem OB [Kn] {g:Gh} {bs:List ad} {w:World} (hm:Mem g bs w) {k:Nat} {sh:Hd} {l:List (Cell×List UInt8)} (hb:ad.at bs k= .sl sh 3 (l.map nf)) (hne:l≠ []) (hlen:l.length<1000000) (hout:sh.out=false) (hty:sh.ty=some 99) (hnd:(l.map Prod.fst).Nodup) {v:Value} (hv:Rd g w (.ax k l.length) v):
  Calls Tryz.prog 114 #[v,.func (.func 115) #[] #[]] w (dE g w (bs.set k (.sl ⟨sh.out,sh.ty,none⟩ 3 ((q8 l).map nf))) (.aL [])):=by
 obtain ⟨val,hvd⟩: ∃val:Cell->List UInt8,val=fun z=>((l.find? fun x=>decide (x.1=z)).map (·.2)).getD []:=⟨_,rfl⟩
 have hval: ∀x∈l,val x.1=x.2:=fun x hx=>by
  rw [hvd];simp only;cases hf:l.find? fun y=>decide (y.1=x.1) with
  | none=>have:=List.find?_eq_none.1 hf x hx;simp at this
  | some y=>
   have h1:y.1=x.1:=by simpa using List.find?_some hf
   have h2:=List.mem_of_find?_eq_some hf
   have:y=x:=by
    obtain ⟨i,hi,rfl⟩:=acA h2;obtain ⟨j,hj,rfl⟩:=acA hx;have hp:=List.pairwise_iff_getElem.1 hnd;rcases Nat.lt_trichotomy i j with h | h | h
    ·exact absurd (by rw [adC,adC];exact h1) (hp i j (by simpa using hi) (by simpa using hj) h)
    ·subst h;rfl
    ·exact absurd (by rw [adC,adC];exact h1.symm) (hp j i (by simpa using hj) (by simpa using hi) h)
   rw [this];rfl
 clear hvd
 have hmap:(l.map Prod.fst).map (fun z=>nf (z,val z))=l.map nf:=by rw [ab2];exact ab9 fun x hx=>by show nf (x.1,val x.1)=nf x;rw [hval x hx]
 rw [<-hmap] at hb;rw [show l.length=(l.map Prod.fst).length by simp] at hv;have eg: ∀args w,(callFunc 115 args).run Tryz.prog w= .ok (.enter 115 args) w:=enters_of Tryz.func115 (by kernel_rfl) rfl
 have K:=Ei (P:=Tryz.prog) Tryz.Sz hm (κ:=Cell) (ks:=l.map Prod.fst) (φ:=fun z=>nf (z,val z)) hb hout hty (by simpa using hne) (by decide) (by simp;omega) Tryz.isAgg99 Tryz.sizeOf99 hv 115 eg gr (fun x y _ _ xs ys hx hy W=>by
  obtain ⟨u,hu,rfl⟩:=Eh x _ hx;obtain ⟨t,ht,rfl⟩:=Eh y _ hy;exact W5 x y u t hu ht W) W0 W4 hnd
 have hfin:(((l.map Prod.fst).mergeSort fun x y=> !ltOf gr y x).map fun z=>nf (z,val z))=(q8 l).map nf:=by
  unfold q8;have e2:=List.map_mergeSort (r:=fun x y:Cell×List UInt8=> !decide (gr y.1 x.1<0)) (s:=fun x y=> !ltOf gr y x) (f:=Prod.fst) (l:=l) (fun a _ b _=>rfl);rw [<-e2,ab2]
  exact ab9 fun x hx=>by
   show nf (x.1,val x.1)=nf x;rw [hval x (List.mem_mergeSort.1 hx)]
 rw [hfin] at K;exact K
theorem x3: ∀{es:List AV} {l:List Cell},x4 es=some l->es=l.map OC
 | [],l,h=>by cases h;rfl
 | e::r,l,h=>by
  unfold x4 at h;split at h
  ·rename_i h0;cases h0
  ·rename_i a b r' h0;cases h0;split at h
   ·rename_i l' hl;cases h;rw [x3 hl];rfl
   ·cases h
  ·cases h
theorem Ej [Kn] (x:Cell) {xs:List Value} (h:sM 2 (OC x) xs):xs= [.int .i64 x.1,.int .i64 x.2]:=by
 obtain ⟨h1,h2,h3⟩:=h
 match xs,h1 with
 | [a,b],_=>obtain ⟨g,w,ha⟩:=h3 0 _ a rfl rfl;obtain ⟨g',w',hb⟩:=h3 1 _ b rfl rfl;rw [ha.aJ,hb.aJ]
theorem OD [Kn] {g:Gh} {bs:List ad} {w:World} (hm:Mem g bs w) {k:Nat} {sh:Hd} {l:List Cell} (hb:ad.at bs k= .sl sh 2 (l.map OC)) (hne:l≠ []) (hlen:l.length<1000000) (hout:sh.out=false) (hty:sh.ty=some 78) (hnd:l.Nodup) {v:Value} (hv:Rd g w (.ax k l.length) v):
  Calls Tryz.prog 57 #[v,.func (.func 58) #[] #[]] w (dE g w (bs.set k (.sl ⟨sh.out,sh.ty,none⟩ 2 ((x5 l).map OC))) (.aL [])):=by
 have eg: ∀args w,(callFunc 58 args).run Tryz.prog w= .ok (.enter 58 args) w:=enters_of Tryz.func58 (by kernel_rfl) rfl
 exact Ei (P:=Tryz.prog) Tryz.SA hm (κ:=Cell) (ks:=l) (φ:=OC) hb hout hty hne (by decide) (by omega) Tryz.isAgg78 Tryz.sizeOf78 hv 58 eg gr (fun x y _ _ xs ys hx hy W=>by
  obtain rfl:=Ej x hx;obtain rfl:=Ej y hy;exact W6 x y W) W0 W4 hnd
theorem OE [Kn] (hk:xY):Kc Tryz.prog cfg:=by
 intro f G hf xs bs r bs' hr;change qV f=some G at hf;unfold qV at hf;split at hf
 ·rename_i hf0;subst hf0;cases hf;unfold eR at hr;split at hr
  ·rename_i s;split at hr
   ·rename_i hn;refine ⟨⟨Tryz.f180,by kernel_rfl,by kernel_rfl,by kernel_rfl⟩,fun g w vs hm hx=> ?_⟩;obtain ⟨vs⟩:=vs;simp only at hx;cases hx with
    | cons h1 t=>
     cases t;obtain rfl:=h1.cE;have hsz:(ByteArray.mk s.toArray).size=s.length:=by show s.toArray.size=_;simp
     have hsp:(⟨s.toArray⟩:ByteArray).data.toList=s:=by simp
     have K:=Tryz.strings_Fields_laid ⟨s.toArray⟩ w (by rw [hsz];exact hn.1) (fun j b hj=>by
      have:=List.all_eq_true.1 hn.2 b (List.mem_of_getElem? hj);simpa using this) (WZ hk hm)
     rw [hsp] at K;cases hfl:Lib.fields s with
     | nil=>rw [hfl] at hr K;cases hr;refine K.mono ?_;rintro e w' ⟨rfl,rfl⟩;exact Eg hm
     | cons x r=>rw [hfl] at hr K;cases hr;refine K.mono ?_;rintro e w' ⟨rfl,rfl⟩;exact Gj hm x r
   ·cases hr
  ·cases hr
 split at hf
 ·rename_i hf0;subst hf0;cases hf;unfold vL at hr;split at hr
  ·rename_i k n f;split at hr
   ·rename_i hf1;subst hf1;split at hr
    ·rename_i sh sz es hb;split at hr
     ·rename_i l hl;split at hr
      ·rename_i hc;cases hr;obtain ⟨hn,hne,hlen,rfl,hout,hty,hnd⟩:=hc;refine ⟨⟨Tryz.f114,by kernel_rfl,by kernel_rfl,by kernel_rfl⟩,fun g w vs hm hx=> ?_⟩;obtain ⟨vs⟩:=vs;simp only at hx;rw [xZ hl] at hb;subst hn;cases hx with
       | cons h1 t=>cases t with
        | cons h2 t=>
         cases t;cases h2 with
         | fn _ _ _ us1 us2 ha hc=>obtain rfl:=adA ha;obtain rfl:=adA hc;exact OB hm hb hne hlen hout hty hnd h1
      ·cases hr
     ·cases hr
    ·cases hr
   ·cases hr
  ·cases hr
 split at hf
 ·rename_i hf0;subst hf0;cases hf;unfold Bt at hr;split at hr
  ·rename_i k n f;split at hr
   ·rename_i hf1;subst hf1;split at hr
    ·rename_i sh sz es hb;split at hr
     ·rename_i l hl;split at hr
      ·rename_i hc;cases hr;obtain ⟨hn,hne,hlen,rfl,hout,hty,hnd⟩:=hc;refine ⟨⟨Tryz.f57,by kernel_rfl,by kernel_rfl,by kernel_rfl⟩,fun g w vs hm hx=> ?_⟩;obtain ⟨vs⟩:=vs;simp only at hx;rw [x3 hl] at hb;subst hn;cases hx with
       | cons h1 t=>cases t with
        | cons h2 t=>
         cases t;cases h2 with
         | fn _ _ _ us1 us2 ha hc=>obtain rfl:=adA ha;obtain rfl:=adA hc;exact OD hm hb hne hlen hout hty hnd h1
      ·cases hr
     ·cases hr
    ·cases hr
   ·cases hr
  ·cases hr
 ·cases hf
theorem OF [Kn]:GO Tryz.prog cfg:=by
 intro f G hf xs bs r k hr;change I8 f=some G at hf;unfold I8 at hf;split at hf
 ·rename_i hf0;subst hf0;cases hf;unfold HT at hr;split at hr
  ·rename_i kx n rs;split at hr
   ·rename_i sh sz es hb;split at hr
    ·rename_i v hv;cases hr;unfold Bu at hv;split at hv
     ·rename_i i j;split at hv
      ·rename_i hc;cases hv;obtain ⟨rfl,h0,hlt,rfl,rfl,hout,hty,_⟩:=hc;refine ⟨⟨Tryz.f78,by kernel_rfl,by kernel_rfl,by kernel_rfl⟩,fun g w vs hm hx=> ?_⟩;obtain ⟨vs⟩:=vs;simp only at hx;cases hx with
       | cons h1 t=>cases t with
        | cons h2 t=>cases t with
         | cons h3 t=>cases t;obtain rfl:=h2.aJ;obtain rfl:=h3.aJ;have K:=Ox hm hb hout hty (i:=i.toNat) (by omega) h1;rw [show ((i.toNat:Nat):Int)=i by omega] at K;exact K
      ·cases hv
     ·cases hv
    ·cases hr
   ·cases hr
  ·cases hr
 ·cases hf
theorem OG [Kn]:Kd Tryz.prog cfg:=by
 intro f G hf xs r hr g w vs hx;change exts f=some G at hf;obtain ⟨vs⟩:=vs;simp only at hx;unfold exts at hf;split at hf
 ·rename_i hf0;subst hf0;cases hf;unfold Ak at hr;split at hr
  ·cases hr;cases hx with
   | cons h1 t=>cases t with
    | cons h2 t=>cases t;rename_i s c _ _;obtain rfl:=h1.cE;obtain rfl:=h2.aJ;refine ⟨.int .i64 (Lib.indexByte s c.toNat.toUInt8),?_,.int _ _⟩;rw [run_callFunc_extern (P:=Tryz.prog) (f:=224) (fn:=Tryz.f224) (by kernel_rfl) (by kernel_rfl) (by kernel_rfl) (by kernel_rfl) (e:=Extern.BytealgIndexByte.indexByte) (by kernel_rfl)];have:=Lib.run_indexByteString (P:=Tryz.prog) ⟨s.toArray⟩ c w;rw [this];rfl
  ·cases hr
 split at hf
 ·rename_i hf0;subst hf0;cases hf;unfold JF at hr;split at hr
  ·cases hr;cases hx with
   | cons h1 t=>cases t;refine ⟨_,?_,h1⟩;rw [run_callFunc_extern (P:=Tryz.prog) (f:=222) (fn:=Tryz.f222) (by kernel_rfl) (by kernel_rfl) (by kernel_rfl) (by kernel_rfl) (e:=Extern.AbiNoEscape.same) (by kernel_rfl)];rfl
  ·cases hr
 split at hf
 ·rename_i hf0;subst hf0;cases hf;unfold Ao at hr;split at hr
  ·cases hr;cases hx with
   | cons h1 t=>cases t with
    | cons h2 t=>cases t;rename_i s c _ _;obtain rfl:=h1.cE;obtain rfl:=h2.aJ;refine ⟨.int .i64 (Lib.countByte s c.toNat.toUInt8),?_,.int _ _⟩;rw [run_callFunc_extern (P:=Tryz.prog) (f:=144) (fn:=Tryz.f144) (by kernel_rfl) (by kernel_rfl) (by kernel_rfl) (by kernel_rfl) (e:=Extern.BytealgCount.count) (by kernel_rfl)];have:=Lib.run_countString (P:=Tryz.prog) ⟨s.toArray⟩ c w;rw [this];rfl
  ·cases hr
 ·cases hf
theorem Bv [Kn] (hk:xY):pL cfg Tryz.prog:=FP (by kernel_rfl) (by kernel_rfl) (Sy hk) (OE hk) OF OG
end Go.Proofs.YtfgbpngakkhdcaaGreatDoor
namespace Go.Proofs.YtfgbpngakkhdcaaGreatDoor
open Go.Am Go.RowKit
theorem iz {H:Type} {enc:TypeId×Value->H} {a:Assume} {C:Checked} {os:Os} {f:FuncId} {fn:Func} {s:ChangeSpec} {conds:List PathCond} {apart fresh handsOn again:Bool} {X:World->Array Value->Prop}
  (hX: ∀(w w':World) (args:Array Value),w.heap=w'.heap->X w args->X w' args)
  (own:ownKnob C.prog.godebug=none) (started:os.Started) (noInit:C.prog.inits.idxOf? f=none) (hfn:C.prog.funcs[f]?=some fn)
  (witness: ∃(w:World) (tape:Tape) (i:Input),w.os=os∧(w.forCall tape i).Shaped C.prog∧i.vars= []∧Input.okWide C.prog (w.forCall tape i) .any w.heap.size f i∧
   ((s.pre enc C.prog fn conds apart (w.forCall tape i).memory i.args∧X (w.forCall tape i).memory i.args)∧sizedMet enc C.prog fn (OpenSpec.ofChange s) apart (w.forCall tape i).memory i.args)∧a.holds C.prog (lone (Frame.enter C.prog f i.args .normal) [] (w.forCall tape i)))
  (run: ∀(W:World) (base:Nat) (args:Array Value) (ds gs:List (DataW H)) (before:List MemPlace),W.ShapedOpen C.prog->
   (∀(j:Nat) t v,fn.params[j]?=some t->args[j]?=some v->Value.okWide C.prog W .any base t v)->
   DataW.Whole enc C.prog fn.params.toList s.vars apart W args.toList ds gs before->X W args->
   Calls C.prog f args W fun e W'=> ∃v,e= .returned v∧s.post enc C.prog fn apart fresh handsOn again W args v W'):
  ReturnsInHanded a C os f .any (fun w args=>(s.pre enc C.prog fn conds apart w args∧X w args)∧sizedMet enc C.prog fn (OpenSpec.ofChange s) apart w args) (s.post enc C.prog fn apart fresh handsOn again):=
 returnsInHanded_of_calls own started noInit witness fun w tape i _ shape _ ok pre _=>by
  obtain ⟨⟨⟨ds,gs,before,whole,_⟩,hx⟩,_⟩:=pre;obtain ⟨_,_,_,fn2,hf2,_,_,_,_,vals⟩:=ok;cases Option.some.inj (hf2.symm.trans hfn);have goes:=run (w.forCall tape i) w.heap.size i.args ds gs before shape vals (DataW.Whole.of_heap (w':=w.forCall tape i) (by rfl) whole) (hX _ _ _ (by rfl) hx)
  exact goes.mono fun e W' h=>by
   obtain ⟨v,rfl,hp⟩:=h;exact ChangeSpec.post_blind hp
theorem pB {P:Program} {w:World} {n:String} {g:Nat} {cs:Array Value} (hg:P.globalNamed n=some g) (h:w.var? P n=some cs): ∃t z,w.heap[g]?=some (.cells cs t z):=by
 unfold World.var? at h;rw [hg] at h;simp only [adD] at h;split at h
 ·rename_i c t z hc;cases h;exact ⟨t,z,hc⟩
 ·cases h
theorem W7:Tryz.prog.globalNamed "internal/strconv.uint64pow10" =some 3:=by kernel_rfl
theorem I9 {w:World} (h:w.ShapedOpen Tryz.prog): ∃m t z,w.heap[0]?=some (.cells #[.int .i64 m] t z):=by
 have h0:((begin Tryz.prog (fun _ _=>0) default).world.heap[0]?).bind Obj.row?=some (#[.int .i64 0],3):=by kernel_rfl
 have hg:0<Tryz.prog.globals.size:=by decide+kernel
 obtain ⟨m,hm⟩:=cell_of_shapedOpen_int (t:=3) h hg h0 rfl (by kernel_rfl) (by kernel_rfl) Tryz.underlying3;obtain ⟨cs,hh,hs,_⟩:=h.1 _ _ _ hg h0;refine ⟨m,3,(0,0),?_⟩;rw [hh];have hs:cs.size=1:=hs
 obtain ⟨x,rfl⟩: ∃x,cs= #[x]:=by
  obtain ⟨l⟩:=cs
  match l,hs with
  | [x],_=>exact ⟨x,rfl⟩
 simp [World.cell?,hh] at hm;rw [hm]
theorem gSp:Tryz.prog.globalNamed "strings.asciiSpace" =some 1:=by kernel_rfl
theorem Hy: "*" ++ "errors.errorString" = "*errors.errorString" :=by decide
theorem LI (u:TypeId) (h:Tryz.prog.typeName? 3 u=some "*errors.errorString"):u=283:=
 typeName_ptr_named (nm:= "errors.errorString") (by rw [Hy];kernel_rfl) (by kernel_rfl) (by decide) u (by rw [Hy];exact h)
theorem W8:Tryz.prog.globalNamed "strconv.ErrSyntax" =some 4:=by kernel_rfl
theorem W9:Tryz.prog.globalNamed "strconv.ErrRange" =some 5:=by kernel_rfl
set_option maxRecDepth 100000 in
theorem Hz {w:World} (h:laidMetH Tryz.prog [("math/bits.deBruijn32tab",Rows.laid_math_bits_deBruijn32tab),("math/bits.deBruijn64tab",Rows.laid_math_bits_deBruijn64tab),("internal/strconv.uint64pow10",Rows.laid_internal_strconv_uint64pow10),("unicode/utf8.acceptRanges",Rows.laid_unicode_utf8_acceptRanges),("strconv.ErrRange",Rows.laid_strconv_ErrRange),("strconv.ErrSyntax",Rows.laid_strconv_ErrSyntax),("unicode.White_Space",Rows.laid_unicode_White_Space),("strings.asciiSpace",Rows.laid_strings_asciiSpace),("unicode/utf8.first",Rows.laid_unicode_utf8_first)] w) (hs:w.ShapedOpen Tryz.prog):
  ∃K:Kn, @xY K∧ ∀p∈K.ks,w.heap[p.1]?=some p.2:=by
 rw [MakeChecks.laidMetH_plain _ _ _ (by kernel_rfl)] at h;have h2:=h.tail.tail;have h4:=h2.tail.tail;have h5:=h4.tail;have h7:=h5.tail.tail;have hp:Lib.TabIs Tryz.prog w "internal/strconv.uint64pow10" .u64 Lib.pow10Tab:=Lib.tabIs_of_head (t:=262) (e:=197) (n:=20) W7 (by kernel_rfl) (by kernel_rfl) (by kernel_rfl) (by kernel_rfl) (by kernel_rfl) h2;have hp3:Lib.TabIs Tryz.prog w "strings.asciiSpace" .u8 Lib.asciiSpaceTab:=Lib.tabIs_of_head (t:=234) (e:=5) (n:=256) gSp (by kernel_rfl) (by kernel_rfl) (by kernel_rfl) (by kernel_rfl) (by kernel_rfl) h7;obtain ⟨a1,s1,v1,_⟩:=laid_sentinel (tp:=283) (te:=285) (ts:=9) h4 W9 (ti:=180) (by kernel_rfl) Tryz.underlying180 LI Tryz.underlying283 Tryz.underlying285 rfl rfl Tryz.underlying9 (by kernel_rfl) (by kernel_rfl);obtain ⟨a2,s2,v2,_⟩:=laid_sentinel (tp:=283) (te:=285) (ts:=9) h5 W8 (ti:=180) (by kernel_rfl) Tryz.underlying180 LI Tryz.underlying283 Tryz.underlying285 rfl rfl Tryz.underlying9 (by kernel_rfl) (by kernel_rfl);obtain ⟨t0,z0,b0⟩:=pB W7 hp;obtain ⟨t3,z3,b3⟩:=pB gSp hp3;obtain ⟨t4,z4,b4⟩:=pB W9 v1;obtain ⟨t5,z5,b5⟩:=pB W8 v2;obtain ⟨m,t1,z1,b1⟩:=I9 hs
 let K:Kn:=⟨[(3,Obj.cells (Lib.pow10Tab.map fun z=>Value.int .u64 z).toArray t0 z0),(0,Obj.cells #[.int .i64 m] t1 z1),(1,Obj.cells (Lib.asciiSpaceTab.map fun z=>Value.int .u8 z).toArray t3 z3),(5,Obj.cells #[.iface 283 (.pointer (some a1))] t4 z4),(4,Obj.cells #[.iface 283 (.pointer (some a2))] t5 z5)],fun p hp=>by
  simp only [aaQ,acf,or_false] at hp;rcases hp with rfl | rfl | rfl | rfl | rfl
  ·exact ⟨_,_,_,rfl⟩
  ·exact ⟨_,_,_,rfl⟩
  ·exact ⟨_,_,_,rfl⟩
  ·exact ⟨_,_,_,rfl⟩
  ·exact ⟨_,_,_,rfl⟩⟩
 refine ⟨K, @xY.mk K ⟨_,_,.head _⟩ ⟨_,_,.tail _ (.tail _ (.head _))⟩ ⟨_,_,_,_,.tail _ (.tail _ (.tail _ (.tail _ (.head _))))⟩ ⟨_,_,_,_,.tail _ (.tail _ (.tail _ (.head _)))⟩ ⟨_,_,_,.tail _ (.head _)⟩,?_⟩;intro p hp;have hp:p∈ [(3,Obj.cells (Lib.pow10Tab.map fun z=>Value.int .u64 z).toArray t0 z0),(0,Obj.cells #[.int .i64 m] t1 z1),(1,Obj.cells (Lib.asciiSpaceTab.map fun z=>Value.int .u8 z).toArray t3 z3),(5,Obj.cells #[.iface 283 (.pointer (some a1))] t4 z4),(4,Obj.cells #[.iface 283 (.pointer (some a2))] t5 z5)]:=hp;simp only [aaQ,acf,or_false] at hp;rcases hp with rfl | rfl | rfl | rfl | rfl
 ·exact b0
 ·exact b1
 ·exact b3
 ·exact b4
 ·exact b5
end Go.Proofs.YtfgbpngakkhdcaaGreatDoor
