/- The abstract machine's tables for this program, and that they are the program's: -/
import Derived.Test.YtnlndhjfmghajaaGreatDoorSeatC
import Derived.Test.YtnlndhjfmghajaaGreatDoorShelf
import Derived.Test.YtnlndhjfmghajaaGreatDoorRows
import Derived.LaidLaws
import Derived.Stop.LaidErr
import Derived.MakeChecks
import Derived.Lib.LaidTab
import Derived.HandedShaped
import Derived.Shelf.Vars
set_option linter.all false
set_option linter.all false
namespace Go.Proofs.YtnlndhjfmghajaaGreatDoor
open Go.Am Go.RowKit
noncomputable def nmPow:String:=(Tryz.prog.globals[3]?).elim "" (·.name)
structure Known [Kn]:Prop where
 pow: ∃t z,(3,Obj.cells (Lib.pow10Tab.map fun z=>Value.int .u64 z).toArray t z)∈Kn.ks
 syn: ∃tp p t z,(4,Obj.cells #[.iface tp p] t z)∈Kn.ks
 rng: ∃tp p t z,(5,Obj.cells #[.iface tp p] t z)∈Kn.ks
 max: ∃m t z,(0,Obj.cells #[.int .i64 m] t z)∈Kn.ks
theorem pow_is [Kn] (hk:Known) {g:Gh} {w:World} (hm:Mem g [] w):Lib.TabIs Tryz.prog w nmPow .u64 Lib.pow10Tab:=by
 obtain ⟨t,z,h⟩:=hk.pow
 have h1:=(hm.kn _ h).1
 have h2:Tryz.prog.globalNamed nmPow=some 3:=by kernel_rfl
 unfold Lib.TabIs World.var?
 rw [h2]
 simp only [Option.bind_some]
 rw [h1]
theorem strsOf_get: ∀{es:List AV} {l:List (List UInt8)},strsOf es=some l→es.length=l.length∧ ∀(i:Nat) x,l[i]?=some x→es[i]?=some (.str x)
 | [],l,h=>by cases h;exact ⟨rfl,fun i x hx=>by simp at hx⟩
 | .str s::r,l,h=>by
  simp only [strsOf] at h
  cases hr:strsOf r with
  | none=>rw [hr] at h;cases h
  | some l'=>
   rw [hr] at h;cases h
   obtain ⟨h1,h2⟩:=strsOf_get hr
   refine ⟨by simp [h1],fun i x hx=> ?_⟩
   cases i with
   | zero=>simp at hx;simp [hx]
   | succ i=>simp at hx⊢;exact h2 i x hx
 | .any::r,l,h=>by simp [strsOf] at h
 | .unk::r,l,h=>by simp [strsOf] at h
 | .int _ _::r,l,h=>by simp [strsOf] at h
 | .bool _::r,l,h=>by simp [strsOf] at h
 | .agg _::r,l,h=>by simp [strsOf] at h
 | .tup _::r,l,h=>by simp [strsOf] at h
 | .nilp::r,l,h=>by simp [strsOf] at h
 | .ptr _ _::r,l,h=>by simp [strsOf] at h
 | .sptr _ _ _ _::r,l,h=>by simp [strsOf] at h
 | .eptr _::r,l,h=>by simp [strsOf] at h
 | .lst _ _ _::r,l,h=>by simp [strsOf] at h
 | .cap0 _::r,l,h=>by simp [strsOf] at h
 | .osl _ _::r,l,h=>by simp [strsOf] at h
 | .osv _ _ _ _::r,l,h=>by simp [strsOf] at h
 | .fn _ _ _::r,l,h=>by simp [strsOf] at h
 | .nilf::r,l,h=>by simp [strsOf] at h
 | .ifc _::r,l,h=>by simp [strsOf] at h
 | .ifi _ _ _::r,l,h=>by simp [strsOf] at h
 | .yld _ _ _::r,l,h=>by simp [strsOf] at h
theorem join_ok [Kn] {g:Gh} {w:World} (hm:Mem g [] w) {nl:Option Bool} {z:Nat} {es:List AV} {v:Value} (h1:Rd g w (.lst nl z es) v) {l:List (List UInt8)} (sep:List UInt8) (hl:strsOf es=some l) (hz:z=1∨es= [])
  (hN:l.length≤140737488355328) (hJ:(Lib.join l sep).length≤140737488355328):Calls Tryz.prog 48 #[v,.string ⟨sep.toArray⟩] w (CPost g w [] (.str (Lib.join l sep))):=by
 obtain ⟨e1,e2⟩:=strsOf_get hl
 cases h1 with
 | lst _ _ _ a cap b off vals hnl hnil hcap ha hp hc h=>
  by_cases h0:es= []
  ·subst h0
   obtain rfl:l= []:=List.length_eq_zero_iff.1 (by simpa using e1.symm)
   refine (Tryz.strings_Join_none a cap ⟨sep.toArray⟩ w).mono ?_
   rintro e w' ⟨rfl,rfl⟩
   exact CPost.of_below hm (RowKit.Below.refl _ _) (.str _)
  ·obtain rfl:z=1:=hz.resolve_right h0
   obtain rfl:=ha h0
   have hcell: ∀(i:Nat) s,l[i]?=some s→w.cell? ⟨b,off+i,none⟩=some (.string ⟨s.toArray⟩)∧g.S b (off+i):=fun i s hs=>by
    have k:=e2 i s hs
    have c1:=hc i 0 _ (.str s) k rfl
    have r1:=h i 0 _ (.str s) k rfl
    simp only [Nat.mul_one,Nat.add_zero] at c1
    rw [r1.str_inv] at c1
    exact ⟨c1.2.1,c1.1⟩
   have hpos:0<l.length:=by
    rw [←e1];exact List.length_pos_iff.2 h0
   have hbk:b<w.heap.size:=(hm.stab _ _ (hcell 0 l[0] (List.getElem?_eq_getElem hpos)).2).1
   have hmap:((l.map fun s=>(⟨s.toArray⟩:ByteArray)).map (·.data.toList))=l:=by
    rw [List.map_map]
    have:((fun s:ByteArray=>s.data.toList)∘fun s:List UInt8=>(⟨s.toArray⟩:ByteArray))=id:=by funext s;simp
    rw [this,List.map_id]
   have hsp:(⟨sep.toArray⟩:ByteArray).data.toList=sep:=by simp
   have K:=Tryz.strings_Join b off cap (l.map fun s=>⟨s.toArray⟩) ⟨sep.toArray⟩ w (fun j x hx=>by
     simp only [List.getElem?_map,Option.map_eq_some_iff] at hx
     obtain ⟨s,hs,rfl⟩:=hx
     exact (hcell j s hs).1) hbk (by simpa using hN) (by rw [List.length_map,←e1];exact hcap) (by rw [hmap,hsp];exact hJ)
   rw [hmap,hsp,List.length_map,←e1] at K
   refine K.mono ?_
   rintro e w' ⟨rfl,hb⟩
   exact CPost.of_below hm hb (.str _)
theorem ovs_ok [Kn] (hk:Known):OvOk Tryz.prog cfg:=by
 intro f G hf xs r hr hp
 change ovs f=some G at hf
 unfold ovs at hf
 split at hf
 ·rename_i hf0;subst hf0
  cases hf
  unfold itoaG at hr
  split at hr
  ·rename_i n
   split at hr
   ·rename_i hn
    cases hr
    refine ⟨⟨Tryz.f116,by kernel_rfl,by kernel_rfl,by kernel_rfl⟩,fun g w vs hm hx=> ?_⟩
    obtain ⟨vs⟩:=vs
    simp only at hx
    cases hx with
    | cons h1 t=>
     cases t
     obtain rfl:=h1.int_inv
     refine (Tryz.strconv_Itoa n hn.1 hn.2 w (pow_is hk hm)).mono ?_
     rintro e w' ⟨rfl,k,os,rfl⟩
     exact CPost.of_below hm (Lib.below_grow _ _ (Nat.le_refl _) _ _) (.str _)
   ·cases hr
  ·cases hr
 split at hf
 ·rename_i hf0;subst hf0
  cases hf
  unfold joinG at hr
  split at hr
  ·rename_i nl z es sep
   split at hr
   ·rename_i hz
    split at hr
    ·rename_i l hl
     split at hr
     ·rename_i hn
      cases hr
      refine ⟨⟨Tryz.f48,by kernel_rfl,by kernel_rfl,by kernel_rfl⟩,fun g w vs hm hx=> ?_⟩
      obtain ⟨vs⟩:=vs
      simp only at hx
      cases hx with
      | cons h1 t=>cases t with
       | cons h2 t=>
        cases t
        obtain rfl:=h2.str_inv
        exact join_ok hm h1 sep hl hz hn.1 hn.2
     ·cases hr
    ·cases hr
   ·cases hr
  ·cases hr
 split at hf
 ·rename_i hf0;subst hf0
  cases hf
  unfold findG at hr
  split at hr
  ·rename_i s t
   split at hr
   ·rename_i hn
    cases hr
    refine ⟨⟨Tryz.f124,by kernel_rfl,by kernel_rfl,by kernel_rfl⟩,fun g w vs hm hx=> ?_⟩
    obtain ⟨vs⟩:=vs
    simp only at hx
    cases hx with
    | cons h1 tl=>cases tl with
     | cons h2 tl=>
      cases tl
      obtain rfl:=h1.str_inv
      obtain rfl:=h2.str_inv
      obtain ⟨m,ty,z,hk1⟩:=hk.max
      have hb:=(hm.kn _ hk1).1
      have hc:w.cell? ⟨0,0,none⟩=some (.int .i64 m):=by simp [World.cell?,hb]
      have hsz:(ByteArray.mk s.toArray).size=s.length:=by show s.toArray.size=_;simp
      refine (Tryz.stringslite_Index ⟨s.toArray⟩ ⟨t.toArray⟩ m w (by rw [hsz];exact hn) hc).mono ?_
      rintro e w' ⟨rfl,rfl⟩
      exact CPost.of_below hm (RowKit.Below.refl _ _) (.int _ _)
   ·cases hr
  ·cases hr
 split at hf
 ·rename_i hf0;subst hf0
  cases hf
  unfold toErrorG at hr
  split at hr
  ·rename_i fn0 s base bits t n
   split at hr
   ·rename_i hn
    cases hr
    obtain ⟨hs,rfl,hn⟩:=hn
    refine ⟨⟨Tryz.f189,by kernel_rfl,by kernel_rfl,by kernel_rfl⟩,fun g w vs hm hx=> ?_⟩
    obtain ⟨vs⟩:=vs
    simp only at hx
    cases hx with
    | cons h1 t=>cases t with
     | cons h2 t=>cases t with
      | cons h3 t=>cases t with
       | cons h4 t=>cases t with
        | cons h5 t=>
         cases t
         obtain rfl:=h1.str_inv
         obtain rfl:=h2.str_inv
         obtain rfl:=h3.int_inv
         obtain rfl:=h4.int_inv
         cases h5
         have hsz:(ByteArray.mk s.toArray).size=s.length:=by show s.toArray.size=_;simp
         rcases hn with rfl | rfl
         ·obtain ⟨tp,p,t,z,hk1⟩:=hk.rng
          have hc:w.cell? ⟨5,0,none⟩=some (.iface tp p):=by simp [World.cell?,(hm.kn _ hk1).1]
          refine (AnyPu.strconv_toError_range Tryz.laysPu17 ⟨fn0.toArray⟩ ⟨s.toArray⟩ base bits _ w (by rw [hsz];exact hs) hc (.inr ⟨_,_,rfl⟩)).mono ?_
          rintro e w' ⟨N,rfl,_,_,hb⟩
          exact CPost.of_below hm hb (.ifc _ _ (.inr ⟨rfl,_,_,rfl⟩))
         ·obtain ⟨tp,p,t,z,hk1⟩:=hk.syn
          have hc:w.cell? ⟨4,0,none⟩=some (.iface tp p):=by simp [World.cell?,(hm.kn _ hk1).1]
          refine (AnyPu.strconv_toError_syntax Tryz.laysPu17 ⟨fn0.toArray⟩ ⟨s.toArray⟩ base bits _ w (by rw [hsz];exact hs) hc (.inr ⟨_,_,rfl⟩)).mono ?_
          rintro e w' ⟨N,rfl,_,_,hb⟩
          exact CPost.of_below hm hb (.ifc _ _ (.inr ⟨rfl,_,_,rfl⟩))
   ·cases hr
  ·cases hr
 ·cases hf
theorem ovbs_ok [Kn] (hk:Known):OvbOk Tryz.prog cfg:=by
 intro f G hf xs bs r bs' hr
 change ovbs f=some G at hf
 unfold ovbs at hf
 ·cases hf
theorem exts_ok [Kn]:ExtOk Tryz.prog cfg:=by
 intro f G hf xs r hr g w vs hx
 change exts f=some G at hf
 obtain ⟨vs⟩:=vs
 simp only at hx
 unfold exts at hf
 split at hf
 ·rename_i hf0;subst hf0
  cases hf
  unfold indexG at hr
  split at hr
  ·cases hr
   cases hx with
   | cons h1 t=>cases t with
    | cons h2 t=>
     cases t
     rename_i s c _ _
     obtain rfl:=h1.str_inv
     obtain rfl:=h2.int_inv
     refine ⟨.int .i64 (Lib.indexByte s c.toNat.toUInt8),?_,.int _ _⟩
     rw [run_callFunc_extern (P:=Tryz.prog) (f:=176) (fn:=Tryz.f176) (by kernel_rfl) (by kernel_rfl) (by kernel_rfl) (by kernel_rfl) (e:=Extern.BytealgIndexByte.indexByte) (by kernel_rfl)]
     have:=Lib.run_indexByteString (P:=Tryz.prog) ⟨s.toArray⟩ c w
     rw [this]
     rfl
  ·cases hr
 split at hf
 ·rename_i hf0;subst hf0
  cases hf
  unfold sameG at hr
  split at hr
  ·cases hr
   cases hx with
   | cons h1 t=>
    cases t
    refine ⟨_,?_,h1⟩
    rw [run_callFunc_extern (P:=Tryz.prog) (f:=156) (fn:=Tryz.f156) (by kernel_rfl) (by kernel_rfl) (by kernel_rfl) (by kernel_rfl) (e:=Extern.AbiNoEscape.same) (by kernel_rfl)]
    rfl
  ·cases hr
 split at hf
 ·rename_i hf0;subst hf0
  cases hf
  unfold countG at hr
  split at hr
  ·cases hr
   cases hx with
   | cons h1 t=>cases t with
    | cons h2 t=>
     cases t
     rename_i s c _ _
     obtain rfl:=h1.str_inv
     obtain rfl:=h2.int_inv
     refine ⟨.int .i64 (Lib.countByte s c.toNat.toUInt8),?_,.int _ _⟩
     rw [run_callFunc_extern (P:=Tryz.prog) (f:=149) (fn:=Tryz.f149) (by kernel_rfl) (by kernel_rfl) (by kernel_rfl) (by kernel_rfl) (e:=Extern.BytealgCount.count) (by kernel_rfl)]
     have:=Lib.run_countString (P:=Tryz.prog) ⟨s.toArray⟩ c w
     rw [this]
     rfl
  ·cases hr
 ·cases hf
theorem cfg_ok [Kn] (hk:Known):CfgOk cfg Tryz.prog:=tablesB_ok (by kernel_rfl) (by kernel_rfl) (ovs_ok hk) (ovbs_ok hk) exts_ok
theorem returnsShaped {H:Type} {enc:TypeId×Value→H} {a:Assume} {C:Checked} {os:Os} {f:FuncId} {fn:Func} {s:ChangeSpec} {conds:List PathCond} {apart fresh handsOn again:Bool} {X:World→Array Value→Prop}
  (hX: ∀(w w':World) (args:Array Value),w.heap=w'.heap→X w args→X w' args)
  (own:ownKnob C.prog.godebug=none) (started:os.Started) (noInit:C.prog.inits.idxOf? f=none) (hfn:C.prog.funcs[f]?=some fn)
  (witness: ∃(w:World) (tape:Tape) (i:Input),w.os=os∧(w.forCall tape i).Shaped C.prog∧i.vars= []∧Input.okWide C.prog (w.forCall tape i) .any w.heap.size f i∧
   ((s.pre enc C.prog fn conds apart (w.forCall tape i).memory i.args∧X (w.forCall tape i).memory i.args)∧sizedMet enc C.prog fn (OpenSpec.ofChange s) apart (w.forCall tape i).memory i.args)∧a.holds C.prog (lone (Frame.enter C.prog f i.args .normal) [] (w.forCall tape i)))
  (run: ∀(W:World) (base:Nat) (args:Array Value) (ds gs:List (DataW H)) (before:List MemPlace),W.ShapedOpen C.prog→
   (∀(j:Nat) t v,fn.params[j]?=some t→args[j]?=some v→Value.okWide C.prog W .any base t v)→
   DataW.Whole enc C.prog fn.params.toList s.vars apart W args.toList ds gs before→X W args→
   Calls C.prog f args W fun e W'=> ∃v,e= .returned v∧s.post enc C.prog fn apart fresh handsOn again W args v W'):
  ReturnsInHanded a C os f .any (fun w args=>(s.pre enc C.prog fn conds apart w args∧X w args)∧sizedMet enc C.prog fn (OpenSpec.ofChange s) apart w args) (s.post enc C.prog fn apart fresh handsOn again):=
 returnsInHanded_of_calls own started noInit witness fun w tape i _ shape _ ok pre _=>by
  obtain ⟨⟨⟨ds,gs,before,whole,_⟩,hx⟩,_⟩:=pre
  obtain ⟨_,_,_,fn2,hf2,_,_,_,_,vals⟩:=ok
  cases Option.some.inj (hf2.symm.trans hfn)
  have goes:=run (w.forCall tape i) w.heap.size i.args ds gs before shape vals (DataW.Whole.of_heap (w':=w.forCall tape i) (by rfl) whole) (hX _ _ _ (by rfl) hx)
  exact goes.mono fun e W' h=>by
   obtain ⟨v,rfl,hp⟩:=h
   exact ChangeSpec.post_blind hp
theorem var_block {P:Program} {w:World} {n:String} {g:Nat} {cs:Array Value} (hg:P.globalNamed n=some g) (h:w.var? P n=some cs): ∃t z,w.heap[g]?=some (.cells cs t z):=by
 unfold World.var? at h
 rw [hg] at h
 simp only [Option.bind_some] at h
 split at h
 ·rename_i c t z hc
  cases h
  exact ⟨t,z,hc⟩
 ·cases h
theorem gPow:Tryz.prog.globalNamed "internal/strconv.uint64pow10" =some 3:=by kernel_rfl
theorem max_block {w:World} (h:w.ShapedOpen Tryz.prog): ∃m t z,w.heap[0]?=some (.cells #[.int .i64 m] t z):=by
 have h0:((begin Tryz.prog (fun _ _=>0) default).world.heap[0]?).bind Obj.row?=some (#[.int .i64 0],3):=by kernel_rfl
 have hg:0<Tryz.prog.globals.size:=by decide+kernel
 obtain ⟨m,hm⟩:=cell_of_shapedOpen_int (t:=3) h hg h0 rfl (by kernel_rfl) (by kernel_rfl) Tryz.underlying3
 obtain ⟨cs,hh,hs,_⟩:=h.1 _ _ _ hg h0
 refine ⟨m,3,(0,0),?_⟩
 rw [hh]
 have hs:cs.size=1:=hs
 obtain ⟨x,rfl⟩: ∃x,cs= #[x]:=by
  obtain ⟨l⟩:=cs
  match l,hs with
  | [x],_=>exact ⟨x,rfl⟩
 simp [World.cell?,hh] at hm
 rw [hm]
theorem starErr: "*" ++ "errors.errorString" = "*errors.errorString" :=by decide
theorem ptrErr (u:TypeId) (h:Tryz.prog.typeName? 3 u=some "*errors.errorString"):u=222:=
 typeName_ptr_named (nm:= "errors.errorString") (by rw [starErr];kernel_rfl) (by kernel_rfl) (by decide) u (by rw [starErr];exact h)
theorem gSyn:Tryz.prog.globalNamed "strconv.ErrSyntax" =some 4:=by kernel_rfl
theorem gRng:Tryz.prog.globalNamed "strconv.ErrRange" =some 5:=by kernel_rfl
set_option maxRecDepth 100000 in
theorem knows {w:World} (h:laidMetH Tryz.prog [("math/bits.deBruijn32tab",Rows.laid_math_bits_deBruijn32tab),("math/bits.deBruijn64tab",Rows.laid_math_bits_deBruijn64tab),("internal/strconv.uint64pow10",Rows.laid_internal_strconv_uint64pow10),("unicode/utf8.acceptRanges",Rows.laid_unicode_utf8_acceptRanges),("strconv.ErrRange",Rows.laid_strconv_ErrRange),("strconv.ErrSyntax",Rows.laid_strconv_ErrSyntax),("unicode/utf8.first",Rows.laid_unicode_utf8_first)] w) (hs:w.ShapedOpen Tryz.prog):
  ∃K:Kn, @Known K∧ ∀p∈K.ks,w.heap[p.1]?=some p.2:=by
 rw [MakeChecks.laidMetH_plain _ _ _ (by kernel_rfl)] at h
 have h2:=h.tail.tail
 have h4:=h2.tail.tail
 have h5:=h4.tail
 have hp:Lib.TabIs Tryz.prog w "internal/strconv.uint64pow10" .u64 Lib.pow10Tab:=Lib.tabIs_of_head (t:=210) (e:=186) (n:=20) gPow (by kernel_rfl) (by kernel_rfl) (by kernel_rfl) (by kernel_rfl) (by kernel_rfl) h2
 obtain ⟨a1,s1,v1,_⟩:=laid_sentinel (tp:=222) (te:=224) (ts:=9) h4 gRng (ti:=115) (by kernel_rfl) Tryz.underlying115 ptrErr Tryz.underlying222 Tryz.underlying224 rfl rfl Tryz.underlying9 (by kernel_rfl) (by kernel_rfl)
 obtain ⟨a2,s2,v2,_⟩:=laid_sentinel (tp:=222) (te:=224) (ts:=9) h5 gSyn (ti:=115) (by kernel_rfl) Tryz.underlying115 ptrErr Tryz.underlying222 Tryz.underlying224 rfl rfl Tryz.underlying9 (by kernel_rfl) (by kernel_rfl)
 obtain ⟨t0,z0,b0⟩:=var_block gPow hp
 obtain ⟨t4,z4,b4⟩:=var_block gRng v1
 obtain ⟨t5,z5,b5⟩:=var_block gSyn v2
 obtain ⟨m,t1,z1,b1⟩:=max_block hs
 let K:Kn:=⟨[(3,Obj.cells (Lib.pow10Tab.map fun z=>Value.int .u64 z).toArray t0 z0),(0,Obj.cells #[.int .i64 m] t1 z1),(5,Obj.cells #[.iface 222 (.pointer (some a1))] t4 z4),(4,Obj.cells #[.iface 222 (.pointer (some a2))] t5 z5)],fun p hp=>by
  simp only [List.mem_cons,List.not_mem_nil,or_false] at hp
  rcases hp with rfl | rfl | rfl | rfl
  ·exact ⟨_,_,_,rfl⟩
  ·exact ⟨_,_,_,rfl⟩
  ·exact ⟨_,_,_,rfl⟩
  ·exact ⟨_,_,_,rfl⟩⟩
 refine ⟨K, @Known.mk K ⟨_,_,.head _⟩ ⟨_,_,_,_,.tail _ (.tail _ (.tail _ (.head _)))⟩ ⟨_,_,_,_,.tail _ (.tail _ (.head _))⟩ ⟨_,_,_,.tail _ (.head _)⟩,?_⟩
 intro p hp
 have hp:p∈ [(3,Obj.cells (Lib.pow10Tab.map fun z=>Value.int .u64 z).toArray t0 z0),(0,Obj.cells #[.int .i64 m] t1 z1),(5,Obj.cells #[.iface 222 (.pointer (some a1))] t4 z4),(4,Obj.cells #[.iface 222 (.pointer (some a2))] t5 z5)]:=hp
 simp only [List.mem_cons,List.not_mem_nil,or_false] at hp
 rcases hp with rfl | rfl | rfl | rfl
 ·exact b0
 ·exact b1
 ·exact b4
 ·exact b5
end Go.Proofs.YtnlndhjfmghajaaGreatDoor
