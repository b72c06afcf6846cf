/-
 The abstract machine's tables are the program's: so far as some variables hold what their initialisers lay (Known).
-/
import Derived.Test.YtfnkchadeaedlaaGreatDoorSeatC
import Derived.Test.YtfnkchadeaedlaaGreatDoorAmSeat
import Derived.Test.YtfnkchadeaedlaaGreatDoorShelf
import Derived.Lib.AppendIntMem
import Derived.Lib.Bytealg
import Derived.Test.YtfnkchadeaedlaaGreatDoorSortM
set_option linter.all false
set_option linter.all false
namespace Go.Proofs.YtfnkchadeaedlaaGreatDoor
open Go.Am Go.RowKit
open Go.Sort Go.Proofs
noncomputable def KI:String:=(Tryz.prog.globals[5]?).elim "" (·.name)
structure vd [Kn]:Prop where
 pow: ∃t z,(5,Obj.cells (Lib.pow10Tab.map fun z=>Value.int .u64 z).toArray t z)∈Kn.ks
 sp: ∃t z,(0,Obj.cells (Lib.asciiSpaceTab.map fun z=>Value.int .u8 z).toArray t z)∈Kn.ks
 U1: ∃tp p t z,(3,Obj.cells #[.iface tp p] t z)∈Kn.ks
 qo: ∃tp p t z,(4,Obj.cells #[.iface tp p] t z)∈Kn.ks
 max: ∃m t z,(1,Obj.cells #[.int .i64 m] t z)∈Kn.ks
theorem Nx [Kn] (hk:vd) {g:Gh} {w:World} (hm:Mem g [] w):Lib.TabIs Tryz.prog w KI .u64 Lib.pow10Tab:=by
 obtain ⟨t,z,h⟩:=hk.pow;have h1:=(hm.kn _ h).1;have h2:Tryz.prog.globalNamed KI=some 5:=by kernel_rfl
 unfold Lib.TabIs World.var?;rw [h2];simp only [Option.bind_some];rw [h1]
noncomputable def R5:String:=(Tryz.prog.globals[0]?).elim "" (·.name)
theorem Jx:R5= "strings.asciiSpace" :=by kernel_rfl
theorem R6 [Kn] (hk:vd) {g:Gh} {bs:List ad} {w:World} (hm:Mem g bs w):Lib.TabIs Tryz.prog w "strings.asciiSpace" .u8 Lib.asciiSpaceTab:=by
 obtain ⟨t,z,h⟩:=hk.sp;have h1:=(hm.kn _ h).1;have h2:Tryz.prog.globalNamed R5=some 0:=by kernel_rfl
 rw [Jx] at h2;unfold Lib.TabIs World.var?;rw [h2];simp only [Option.bind_some];rw [h1]
theorem Ny [Kn] (hk:vd):Ic Tryz.prog cfg:=by
 intro f G hf xs r hr hp;change D8 f=some G at hf;unfold D8 at hf;split at hf
 ·rename_i hf0;subst hf0;cases hf;unfold rj at hr;split at hr
  ·rename_i n;split at hr
   ·rename_i hn;cases hr;refine ⟨⟨Tryz.f101,by kernel_rfl,by kernel_rfl,by kernel_rfl⟩,fun g w vs hm hx=> ?_⟩;obtain ⟨vs⟩:=vs;simp only at hx;cases hx with
    | cons h1 t=>cases t;obtain rfl:=h1.aL;refine (Tryz.strconv_Itoa n hn.1 hn.2 w (Nx hk hm)).mono ?_;rintro e w' ⟨rfl,k,os,rfl⟩;exact du.qc hm (Lib.below_grow _ _ (Nat.le_refl _) _ _) (.str _)
   ·cases hr
  ·cases hr
 split at hf
 ·rename_i hf0;subst hf0;cases hf;unfold A5 at hr;split at hr
  ·rename_i s t;split at hr
   ·rename_i hn;cases hr;refine ⟨⟨Tryz.f166,by kernel_rfl,by kernel_rfl,by kernel_rfl⟩,fun g w vs hm hx=> ?_⟩;obtain ⟨vs⟩:=vs;simp only at hx;cases hx with
    | cons h1 tl=>cases tl with
     | cons h2 tl=>
      cases tl;obtain rfl:=h1.bT;obtain rfl:=h2.bT;obtain ⟨m,ty,z,hk1⟩:=hk.max;have hb:=(hm.kn _ hk1).1;have hc:w.cell? ⟨1,0,none⟩=some (.int .i64 m):=by simp [World.cell?,hb]
      have hsz:(ByteArray.mk s.toArray).size=s.length:=by show s.toArray.size=_;simp
      refine (Tryz.stringslite_Index ⟨s.toArray⟩ ⟨t.toArray⟩ m w (by rw [hsz];exact hn) hc).mono ?_;rintro e w' ⟨rfl,rfl⟩;exact du.qc hm (RowKit.Below.refl _ _) (.int _ _)
   ·cases hr
  ·cases hr
 split at hf
 ·rename_i hf0;subst hf0;cases hf;unfold lK at hr;split at hr
  ·rename_i TZ s base bits t n;split at hr
   ·rename_i hn;cases hr;obtain ⟨hs,rfl,hn⟩:=hn;refine ⟨⟨Tryz.f133,by kernel_rfl,by kernel_rfl,by kernel_rfl⟩,fun g w vs hm hx=> ?_⟩;obtain ⟨vs⟩:=vs;simp only at hx;cases hx with
    | cons h1 t=>cases t with
     | cons h2 t=>cases t with
      | cons h3 t=>cases t with
       | cons h4 t=>cases t with
        | cons h5 t=>
         cases t;obtain rfl:=h1.bT;obtain rfl:=h2.bT;obtain rfl:=h3.aL;obtain rfl:=h4.aL;cases h5;have hsz:(ByteArray.mk s.toArray).size=s.length:=by show s.toArray.size=_;simp
         rcases hn with rfl | rfl
         ·obtain ⟨tp,p,t,z,hk1⟩:=hk.qo;have hc:w.cell? ⟨4,0,none⟩=some (.iface tp p):=by simp [World.cell?,(hm.kn _ hk1).1]
          refine (AnyPu.strconv_toError_range Tryz.Bs ⟨TZ.toArray⟩ ⟨s.toArray⟩ base bits _ w (by rw [hsz];exact hs) hc (.inr ⟨_,_,rfl⟩)).mono ?_;rintro e w' ⟨N,rfl,_,_,hb⟩;exact du.qc hm hb (.fG _ _ (.inr ⟨rfl,_,_,rfl⟩))
         ·obtain ⟨tp,p,t,z,hk1⟩:=hk.U1;have hc:w.cell? ⟨3,0,none⟩=some (.iface tp p):=by simp [World.cell?,(hm.kn _ hk1).1]
          refine (AnyPu.strconv_toError_syntax Tryz.Bs ⟨TZ.toArray⟩ ⟨s.toArray⟩ base bits _ w (by rw [hsz];exact hs) hc (.inr ⟨_,_,rfl⟩)).mono ?_;rintro e w' ⟨N,rfl,_,_,hb⟩;exact du.qc hm hb (.fG _ _ (.inr ⟨rfl,_,_,rfl⟩))
   ·cases hr
  ·cases hr
 ·cases hf
theorem C1 [Kn] {g:Gh} {bs:List ad} {w:World} (hm:Mem g bs w) (x:List UInt8) (r:List (List UInt8)):
  du g w (bs++ [.sl ⟨false,some 9,none⟩ 1 ((x::r).map AV.str)]) (.az bs.length (r.length+1)) (.returned (.slice (some ⟨w.heap.size,0,none⟩) (x::r).length (x::r).length)) (w.alloc (.cells ((x::r).map fun l=>Value.string ⟨l.toArray⟩).toArray 9)):=by
 have hpad:Mem g (bs++ [.dead]) w:=hm.pad 1
 have he:(cJ.new (.sl ⟨false,some 9,none⟩ 1 ((x::r).map AV.str))).on (bs++ [.dead]) bs.length=some (bs++ [.sl ⟨false,some 9,none⟩ 1 ((x::r).map AV.str)]):=by simp [cJ.on]
 have hold: ∀b,b<w.heap.size→(w.alloc (.cells ((x::r).map fun l=>Value.string ⟨l.toArray⟩).toArray 9)).heap[b]?=w.heap[b]?:=fun b hb=>alloc_old w _ hb
 have K:=uH (r:= .ok (.value (.slice (some ⟨w.heap.size,0,none⟩) ((x::r).map AV.str).length (x::r).length)) (w.alloc (.cells ((x::r).map fun l=>Value.string ⟨l.toArray⟩).toArray 9))) (fz:=(0,0)) (cap:=(x::r).length) (c:=((x::r).map fun l=>Value.string ⟨l.toArray⟩).toArray) (ty:=9) hpad he rfl hold (by simp) (cQ w _) rfl rfl rfl (by intro o h;simp) (by simp) (by simp) (by simp)
  (fun i e h=>by
   rw [List.getElem?_map] at h;cases hx:(x::r)[i]? with
   | none=>rw [hx] at h;cases h
   | some s=>rw [hx] at h;cases h;exact ⟨rfl,rfl⟩)
  (fun i j e y v h1 h2 h3=>by
   rw [List.getElem?_map] at h1;cases hx:(x::r)[i]? with
   | none=>rw [hx] at h1;cases h1
   | some s=>
    rw [hx] at h1;cases h1
    have hj:j=0:=by
     cases j with
     | zero=>rfl
     | succ j=>simp [AV.cells] at h2
    subst hj;simp only [AV.cells,List.getElem?_cons_zero,Option.some.injEq] at h2;subst h2;simp only [Nat.mul_one,Nat.add_zero,List.getElem?_toArray,List.getElem?_map,hx,Option.map_some,Option.some.injEq] at h3;subst h3;exact ⟨.str _,rfl⟩)
 obtain ⟨nx,v,w',g',h1,h2,h3,h4,h5,h6⟩:=K;cases h1;rcases h2 with h2 | ⟨h2,_⟩
 ·cases h2;rw [List.length_map] at h6;exact ⟨_,g',rfl,h3,h4,h5,by simpa using h6⟩
 ·cases h2
theorem Bt [Kn] {g:Gh} {bs:List ad} {w:World} (hm:Mem g bs w):
  du g w (bs++ [.var 9 []]) (.bW (some false)) (.returned (.slice (some ⟨w.heap.size,0,none⟩) 0 0)) (w.alloc (.cells #[] 9)):=by
 have hpad:Mem g (bs++ [.dead]) w:=hm.pad 1
 have he:(cJ.new (.var 9 [])).on (bs++ [.dead]) bs.length=some (bs++ [.var 9 []]):=by simp [cJ.on]
 have K:=yh (c:= #[]) (ty:=9) hpad he rfl rfl (fun j x u h=>by simp at h);obtain ⟨nx,v,w',g',h1,h2,h3,h4,h5,h6⟩:=K;cases h1;exact ⟨_,g',rfl,h3,h4,h5,.bW _ _ (by rintro x ⟨⟩;rfl)⟩
theorem T0:Go.Sort.SWO (ltOf iW) where
 irrefl x:=by unfold ltOf;rw [decide_eq_false_iff_not,gT];exact fc x
 trans x y z h1 h2:=by
  unfold ltOf at*
  simp only [decide_eq_true_eq,gT] at*
  exact ew h1 h2
 ntrans x y z h1 h2:=by
  unfold ltOf at*
  simp only [decide_eq_false_iff_not,gT,gU] at*
  omega
theorem T1 (x y:Cell) (h1:ltOf iW x y=false) (h2:ltOf iW y x=false):x=y:=by
 unfold ltOf at*
 simp only [decide_eq_false_iff_not,gT] at h1 h2;by_cases h:x=y
 ·exact h
 ·exact absurd (lu h1 h) h2
theorem vw: ∀{es:List AV} {l:List (Cell×List UInt8)},xu es=some l→es=l.map ky
 | [],l,h=>by cases h;rfl
 | e::r,l,h=>by
  unfold xu at h;split at h
  ·rename_i h0;cases h0
  ·rename_i a b s r' h0;cases h0;split at h
   ·rename_i l' hl;cases h;rw [vw hl];rfl
   ·cases h
  ·cases h
theorem Bu [Kn] (x:Cell) (t:List UInt8) {xs:List Value} (h:sV 3 (ky (x,t)) xs): ∃u,u.oneCell'=true∧xs= [.int .i64 x.1,.int .i64 x.2,u]:=by
 obtain ⟨h1,h2,h3⟩:=h
 match xs,h1 with
 | [a,b,c],_=>obtain ⟨g,w,ha⟩:=h3 0 _ a rfl rfl;obtain ⟨g',w',hb⟩:=h3 1 _ b rfl rfl;rw [ha.aL,hb.aL];exact ⟨c,h2 c (by simp),rfl⟩
theorem Jy [Kn] {g:Gh} {bs:List ad} {w:World} (hm:Mem g bs w) {k:Nat} {sh:Hd} {l:List (Cell×List UInt8)} (hb:ad.at bs k= .sl sh 3 (l.map ky)) (hne:l≠ []) (hlen:l.length<1000000) (hout:sh.out=false) (hty:sh.ty=some 57) (hnd:(l.map Prod.fst).Nodup) {v:Value} (hv:Rd g w (.az k l.length) v):
  Calls Tryz.prog 42 #[v,.func (.func 43) #[] #[]] w (du g w (bs.set k (.sl ⟨sh.out,sh.ty,none⟩ 3 ((qi l).map ky))) (.aI [])):=by
 obtain ⟨val,hvd⟩: ∃val:Cell→List UInt8,val=fun z=>((l.find? fun x=>decide (x.1=z)).map (·.2)).getD []:=⟨_,rfl⟩
 have hval: ∀x∈l,val x.1=x.2:=fun x hx=>by
  rw [hvd];simp only;cases hf:l.find? fun y=>decide (y.1=x.1) with
  | none=>have:=List.find?_eq_none.1 hf x hx;simp at this
  | some y=>
   have h1:y.1=x.1:=by simpa using List.find?_some hf
   have h2:=List.mem_of_find?_eq_some hf
   have:y=x:=by
    obtain ⟨i,hi,rfl⟩:=List.getElem_of_mem h2;obtain ⟨j,hj,rfl⟩:=List.getElem_of_mem hx;have hp:=List.pairwise_iff_getElem.1 hnd;rcases Nat.lt_trichotomy i j with h | h | h
    ·exact absurd (by rw [List.getElem_map,List.getElem_map];exact h1) (hp i j (by simpa using hi) (by simpa using hj) h)
    ·subst h;rfl
    ·exact absurd (by rw [List.getElem_map,List.getElem_map];exact h1.symm) (hp j i (by simpa using hj) (by simpa using hi) h)
   rw [this];rfl
 clear hvd
 have hmap:(l.map Prod.fst).map (fun z=>ky (z,val z))=l.map ky:=by rw [List.map_map];exact List.map_congr_left fun x hx=>by show ky (x.1,val x.1)=ky x;rw [hval x hx]
 rw [←hmap] at hb;rw [show l.length=(l.map Prod.fst).length by simp] at hv;have eg: ∀args w,(callFunc 43 args).run Tryz.prog w= .ok (.enter 43 args) w:=enters_of Tryz.func43 (by kernel_rfl) rfl
 have K:=HD (P:=Tryz.prog) Tryz.Nz hm (κ:=Cell) (ks:=l.map Prod.fst) (φ:=fun z=>ky (z,val z)) hb hout hty (by simpa using hne) (by decide) (by simp;omega) Tryz.isAgg57 Tryz.sizeOf57 hv 43 eg iW (fun x y _ _ xs ys hx hy W=>by
  obtain ⟨u,hu,rfl⟩:=Bu x _ hx;obtain ⟨t,ht,rfl⟩:=Bu y _ hy;exact R7 x y u t hu ht W) T0 T1 hnd
 have hfin:(((l.map Prod.fst).mergeSort fun x y=> !ltOf iW y x).map fun z=>ky (z,val z))=(qi l).map ky:=by
  unfold qi;have e2:=List.map_mergeSort (r:=fun x y:Cell×List UInt8=> !decide (iW y.1 x.1<0)) (s:=fun x y=> !ltOf iW y x) (f:=Prod.fst) (l:=l) (fun a _ b _=>rfl);rw [←e2,List.map_map]
  exact List.map_congr_left fun x hx=>by
   show ky (x.1,val x.1)=ky x;rw [hval x (List.mem_mergeSort.1 hx)]
 rw [hfin] at K;exact K
theorem Jz [Kn] (hk:vd):Gc Tryz.prog cfg:=by
 intro f G hf xs bs r bs' hr;change qq f=some G at hf;unfold qq at hf;split at hf
 ·rename_i hf0;subst hf0;cases hf;unfold dZ at hr;split at hr
  ·rename_i s;split at hr
   ·rename_i hn;refine ⟨⟨Tryz.f120,by kernel_rfl,by kernel_rfl,by kernel_rfl⟩,fun g w vs hm hx=> ?_⟩;obtain ⟨vs⟩:=vs;simp only at hx;cases hx with
    | cons h1 t=>
     cases t;obtain rfl:=h1.bT;have hsz:(ByteArray.mk s.toArray).size=s.length:=by show s.toArray.size=_;simp
     have hsp:(⟨s.toArray⟩:ByteArray).data.toList=s:=by simp
     have K:=Tryz.strings_Fields_laid ⟨s.toArray⟩ w (by rw [hsz];exact hn.1) (fun j b hj=>by
      have:=List.all_eq_true.1 hn.2 b (List.mem_of_getElem? hj);simpa using this) (R6 hk hm)
     rw [hsp] at K;cases hfl:Lib.fields s with
     | nil=>rw [hfl] at hr K;cases hr;refine K.mono ?_;rintro e w' ⟨rfl,rfl⟩;exact Bt hm
     | cons x r=>rw [hfl] at hr K;cases hr;refine K.mono ?_;rintro e w' ⟨rfl,rfl⟩;exact C1 hm x r
   ·cases hr
  ·cases hr
 split at hf
 ·rename_i hf0;subst hf0;cases hf;unfold sU at hr;split at hr
  ·rename_i k n f;split at hr
   ·rename_i hf1;subst hf1;split at hr
    ·rename_i sh sz es hb;split at hr
     ·rename_i l hl;split at hr
      ·rename_i hc;cases hr;obtain ⟨hn,hne,hlen,rfl,hout,hty,hnd⟩:=hc;refine ⟨⟨Tryz.f42,by kernel_rfl,by kernel_rfl,by kernel_rfl⟩,fun g w vs hm hx=> ?_⟩;obtain ⟨vs⟩:=vs;simp only at hx;rw [vw hl] at hb;subst hn;cases hx with
       | cons h1 t=>cases t with
        | cons h2 t=>
         cases t;cases h2 with
         | fn _ _ _ us1 us2 ha hc=>obtain rfl:=Array.eq_empty_of_size_eq_zero ha;obtain rfl:=Array.eq_empty_of_size_eq_zero hc;exact Jy hm hb hne hlen hout hty hnd h1
      ·cases hr
     ·cases hr
    ·cases hr
   ·cases hr
  ·cases hr
 ·cases hf
theorem JA [Kn]:Gd Tryz.prog cfg:=by
 intro f G hf xs r hr g w vs hx;change exts f=some G at hf;obtain ⟨vs⟩:=vs;simp only at hx;unfold exts at hf;split at hf
 ·rename_i hf0;subst hf0;cases hf;unfold xy at hr;split at hr
  ·cases hr;cases hx with
   | cons h1 t=>cases t with
    | cons h2 t=>cases t;rename_i s c _ _;obtain rfl:=h1.bT;obtain rfl:=h2.aL;refine ⟨.int .i64 (Lib.indexByte s c.toNat.toUInt8),?_,.int _ _⟩;rw [run_callFunc_extern (P:=Tryz.prog) (f:=169) (fn:=Tryz.f169) (by kernel_rfl) (by kernel_rfl) (by kernel_rfl) (by kernel_rfl) (e:=Extern.BytealgIndexByte.indexByte) (by kernel_rfl)];have:=Lib.run_indexByteString (P:=Tryz.prog) ⟨s.toArray⟩ c w;rw [this];rfl
  ·cases hr
 split at hf
 ·rename_i hf0;subst hf0;cases hf;unfold FH at hr;split at hr
  ·cases hr;cases hx with
   | cons h1 t=>cases t;refine ⟨_,?_,h1⟩;rw [run_callFunc_extern (P:=Tryz.prog) (f:=191) (fn:=Tryz.f191) (by kernel_rfl) (by kernel_rfl) (by kernel_rfl) (by kernel_rfl) (e:=Extern.AbiNoEscape.same) (by kernel_rfl)];rfl
  ·cases hr
 split at hf
 ·rename_i hf0;subst hf0;cases hf;unfold xA at hr;split at hr
  ·cases hr;cases hx with
   | cons h1 t=>cases t with
    | cons h2 t=>cases t;rename_i s c _ _;obtain rfl:=h1.bT;obtain rfl:=h2.aL;refine ⟨.int .i64 (Lib.countByte s c.toNat.toUInt8),?_,.int _ _⟩;rw [run_callFunc_extern (P:=Tryz.prog) (f:=124) (fn:=Tryz.f124) (by kernel_rfl) (by kernel_rfl) (by kernel_rfl) (by kernel_rfl) (e:=Extern.BytealgCount.count) (by kernel_rfl)];have:=Lib.run_countString (P:=Tryz.prog) ⟨s.toArray⟩ c w;rw [this];rfl
  ·cases hr
 ·cases hf
theorem Nw [Kn] (hk:vd):nE cfg Tryz.prog:=CD (by kernel_rfl) (by kernel_rfl) (Ny hk) (Jz hk) JA
end Go.Proofs.YtfnkchadeaedlaaGreatDoor
