/-
 What a row's condition, and the shape of its world, say about Go's own variables, as the abstract machine's blocks that are known.
-/
import Derived.Test.YtfnkchadeaedlaaGreatDoorSeat
import Derived.Test.YtfnkchadeaedlaaGreatDoorRows
import Derived.LaidLaws
import Derived.Stop.LaidErr
import Derived.MakeChecks
import Derived.Lib.LaidTab
import Derived.HandedShaped
import Derived.Shelf.Vars
set_option linter.all false
namespace Go.Proofs.YtfnkchadeaedlaaGreatDoor
open Go.Am Go.RowKit
theorem vM {H:Type} {enc:TypeId×Value→H} {a:Assume} {C:Checked} {os:Os} {f:FuncId} {fn:Func} {s:ChangeSpec} {conds:List PathCond} {apart fresh handsOn again:Bool} {X:World→Array Value→Prop}
  (hX: ∀(w w':World) (args:Array Value),w.heap=w'.heap→X w args→X w' args)
  (own:ownKnob C.prog.godebug=none) (started:os.Started) (noInit:C.prog.inits.idxOf? f=none) (hfn:C.prog.funcs[f]?=some fn)
  (witness: ∃(w:World) (tape:Tape) (i:Input),w.os=os∧(w.forCall tape i).Shaped C.prog∧i.vars= []∧Input.okWide C.prog (w.forCall tape i) .any w.heap.size f i∧
   ((s.pre enc C.prog fn conds apart (w.forCall tape i).memory i.args∧X (w.forCall tape i).memory i.args)∧sizedMet enc C.prog fn (OpenSpec.ofChange s) apart (w.forCall tape i).memory i.args)∧a.holds C.prog (lone (Frame.enter C.prog f i.args .normal) [] (w.forCall tape i)))
  (run: ∀(W:World) (base:Nat) (args:Array Value) (ds gs:List (DataW H)) (before:List MemPlace),W.ShapedOpen C.prog→
   (∀(j:Nat) t v,fn.params[j]?=some t→args[j]?=some v→Value.okWide C.prog W .any base t v)→
   DataW.Whole enc C.prog fn.params.toList s.vars apart W args.toList ds gs before→X W args→
   Calls C.prog f args W fun e W'=> ∃v,e= .returned v∧s.post enc C.prog fn apart fresh handsOn again W args v W'):
  ReturnsInHanded a C os f .any (fun w args=>(s.pre enc C.prog fn conds apart w args∧X w args)∧sizedMet enc C.prog fn (OpenSpec.ofChange s) apart w args) (s.post enc C.prog fn apart fresh handsOn again):=
 returnsInHanded_of_calls own started noInit witness fun w tape i _ shape _ ok pre _=>by
  obtain ⟨⟨⟨ds,gs,before,whole,_⟩,hx⟩,_⟩:=pre;obtain ⟨_,_,_,UF,hf2,_,_,_,_,vals⟩:=ok;cases Option.some.inj (hf2.symm.trans hfn);have goes:=run (w.forCall tape i) w.heap.size i.args ds gs before shape vals (DataW.Whole.of_heap (w':=w.forCall tape i) (by rfl) whole) (hX _ _ _ (by rfl) hx)
  exact goes.mono fun e W' h=>by
   obtain ⟨v,rfl,hp⟩:=h;exact ChangeSpec.post_blind hp
theorem nq {P:Program} {w:World} {n:String} {g:Nat} {cs:Array Value} (hg:P.globalNamed n=some g) (h:w.var? P n=some cs): ∃t z,w.heap[g]?=some (.cells cs t z):=by
 unfold World.var? at h;rw [hg] at h;simp only [Option.bind_some] at h;split at h
 ·rename_i c t z hc;cases h;exact ⟨t,z,hc⟩
 ·cases h
theorem Ru:Tryz.prog.globalNamed "internal/strconv.uint64pow10" =some 5:=by kernel_rfl
theorem Fk {w:World} (h:w.ShapedOpen Tryz.prog): ∃m t z,w.heap[1]?=some (.cells #[.int .i64 m] t z):=by
 have h0:((begin Tryz.prog (fun _ _=>0) default).world.heap[1]?).bind Obj.row?=some (#[.int .i64 0],3):=by kernel_rfl
 have hg:1<Tryz.prog.globals.size:=by decide+kernel
 obtain ⟨m,hm⟩:=cell_of_shapedOpen_int (t:=3) h hg h0 rfl (by kernel_rfl) (by kernel_rfl) Tryz.underlying3;obtain ⟨cs,hh,hs,_⟩:=h.1 _ _ _ hg h0;refine ⟨m,3,(0,0),?_⟩;rw [hh];have hs:cs.size=1:=hs
 obtain ⟨x,rfl⟩: ∃x,cs= #[x]:=by
  obtain ⟨l⟩:=cs
  match l,hs with
  | [x],_=>exact ⟨x,rfl⟩
 simp [World.cell?,hh] at hm;rw [hm]
theorem Ur:Tryz.prog.globalNamed "strings.asciiSpace" =some 0:=by kernel_rfl
theorem D1: "*" ++ "errors.errorString" = "*errors.errorString" :=by decide
theorem Hn (u:TypeId) (h:Tryz.prog.typeName? 3 u=some "*errors.errorString"):u=242:=
 typeName_ptr_named (nm:= "errors.errorString") (by rw [D1];kernel_rfl) (by kernel_rfl) (by decide) u (by rw [D1];exact h)
theorem Rv:Tryz.prog.globalNamed "strconv.ErrSyntax" =some 3:=by kernel_rfl
theorem Rw:Tryz.prog.globalNamed "strconv.ErrRange" =some 4:=by kernel_rfl
set_option maxRecDepth 100000 in
theorem Rx {w:World} (h:laidMetH Tryz.prog [("math/bits.deBruijn32tab",Rows.laid_math_bits_deBruijn32tab),("math/bits.deBruijn64tab",Rows.laid_math_bits_deBruijn64tab),("internal/strconv.uint64pow10",Rows.laid_internal_strconv_uint64pow10),("unicode/utf8.acceptRanges",Rows.laid_unicode_utf8_acceptRanges),("strconv.ErrRange",Rows.laid_strconv_ErrRange),("strconv.ErrSyntax",Rows.laid_strconv_ErrSyntax),("unicode.White_Space",Rows.laid_unicode_White_Space),("strings.asciiSpace",Rows.laid_strings_asciiSpace),("unicode/utf8.first",Rows.laid_unicode_utf8_first)] w) (hs:w.ShapedOpen Tryz.prog):
  ∃K:Kn, @vd K∧ ∀p∈K.ks,w.heap[p.1]?=some p.2:=by
 rw [MakeChecks.laidMetH_plain _ _ _ (by kernel_rfl)] at h;have h2:=h.tail.tail;have h4:=h2.tail.tail;have h5:=h4.tail;have h7:=h5.tail.tail;have hp:Lib.TabIs Tryz.prog w "internal/strconv.uint64pow10" .u64 Lib.pow10Tab:=Lib.tabIs_of_head (t:=246) (e:=118) (n:=20) Ru (by kernel_rfl) (by kernel_rfl) (by kernel_rfl) (by kernel_rfl) (by kernel_rfl) h2;have hp3:Lib.TabIs Tryz.prog w "strings.asciiSpace" .u8 Lib.asciiSpaceTab:=Lib.tabIs_of_head (t:=187) (e:=5) (n:=256) Ur (by kernel_rfl) (by kernel_rfl) (by kernel_rfl) (by kernel_rfl) (by kernel_rfl) h7;obtain ⟨a1,s1,v1,_⟩:=laid_sentinel (tp:=242) (te:=244) (ts:=9) h4 Rw (ti:=120) (by kernel_rfl) Tryz.underlying120 Hn Tryz.underlying242 Tryz.underlying244 rfl rfl Tryz.underlying9 (by kernel_rfl) (by kernel_rfl);obtain ⟨a2,s2,v2,_⟩:=laid_sentinel (tp:=242) (te:=244) (ts:=9) h5 Rv (ti:=120) (by kernel_rfl) Tryz.underlying120 Hn Tryz.underlying242 Tryz.underlying244 rfl rfl Tryz.underlying9 (by kernel_rfl) (by kernel_rfl);obtain ⟨t0,z0,b0⟩:=nq Ru hp;obtain ⟨t3,z3,b3⟩:=nq Ur hp3;obtain ⟨t4,z4,b4⟩:=nq Rw v1;obtain ⟨t5,z5,b5⟩:=nq Rv v2;obtain ⟨m,t1,z1,b1⟩:=Fk hs
 let K:Kn:=⟨[(5,Obj.cells (Lib.pow10Tab.map fun z=>Value.int .u64 z).toArray t0 z0),(1,Obj.cells #[.int .i64 m] t1 z1),(0,Obj.cells (Lib.asciiSpaceTab.map fun z=>Value.int .u8 z).toArray t3 z3),(4,Obj.cells #[.iface 242 (.pointer (some a1))] t4 z4),(3,Obj.cells #[.iface 242 (.pointer (some a2))] t5 z5)],fun p hp=>by
  simp only [List.mem_cons,List.not_mem_nil,or_false] at hp;rcases hp with rfl | rfl | rfl | rfl | rfl
  ·exact ⟨_,_,_,rfl⟩
  ·exact ⟨_,_,_,rfl⟩
  ·exact ⟨_,_,_,rfl⟩
  ·exact ⟨_,_,_,rfl⟩
  ·exact ⟨_,_,_,rfl⟩⟩
 refine ⟨K, @vd.mk K ⟨_,_,.head _⟩ ⟨_,_,.tail _ (.tail _ (.head _))⟩ ⟨_,_,_,_,.tail _ (.tail _ (.tail _ (.tail _ (.head _))))⟩ ⟨_,_,_,_,.tail _ (.tail _ (.tail _ (.head _)))⟩ ⟨_,_,_,.tail _ (.head _)⟩,?_⟩;intro p hp;have hp:p∈ [(5,Obj.cells (Lib.pow10Tab.map fun z=>Value.int .u64 z).toArray t0 z0),(1,Obj.cells #[.int .i64 m] t1 z1),(0,Obj.cells (Lib.asciiSpaceTab.map fun z=>Value.int .u8 z).toArray t3 z3),(4,Obj.cells #[.iface 242 (.pointer (some a1))] t4 z4),(3,Obj.cells #[.iface 242 (.pointer (some a2))] t5 z5)]:=hp;simp only [List.mem_cons,List.not_mem_nil,or_false] at hp;rcases hp with rfl | rfl | rfl | rfl | rfl
 ·exact b0
 ·exact b1
 ·exact b3
 ·exact b4
 ·exact b5
end Go.Proofs.YtfnkchadeaedlaaGreatDoor
