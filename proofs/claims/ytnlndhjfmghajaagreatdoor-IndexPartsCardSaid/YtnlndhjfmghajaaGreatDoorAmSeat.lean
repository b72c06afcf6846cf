/- From a program to the abstract machine's tables, and from the machine's answer to a .. -/
import Derived.Test.YtnlndhjfmghajaaGreatDoorAmIr6a
import Derived.Laws.Externs
import Derived.Lib.Bytealg
import Derived.Below
set_option linter.all false
namespace Go.Am
variable [Kn]
theorem Tr.of_get {α:Type} (f:Nat→Option α): ∀(d:Nat) (g:Nat→Nat) (i:Nat) (x:α),(Tr.of f d g).get none i=some x→f (g i)=some x
 | 0,_,_,_,h=>by cases h
 | d+1,g,i,x,h=>by
  cases i with
  | zero=>exact h
  | succ j=>
   rcases Nat.mod_two_eq_zero_or_one j with hj | hj <;> simp only [Tr.of,Tr.get,hj] at h
   ·have:=Tr.of_get f d _ _ x h
    rwa [show 2*(j / 2)+1=j+1 by omega] at this
   ·have:=Tr.of_get f d _ _ x h
    rwa [show 2*(j / 2)+2=j+1 by omega] at this
def fieldsAt (P:Program) (t:TypeId):Array Field:=match P.underlying t with
 | some (.struct fs)=>fs
 | _=> #[]
def tables (P:Program) (d:Nat) (ov:FuncId→Option (List AV→Option AV)) (ext:FuncId→Option (List AV→Option AV)) (own:FuncId→Bool) (cut:Bool:=false) (muts:FuncId→Bool:=fun _=>false):Cfg:=
 {ty:=Tr.of (tiOf P) d id,fn:=Tr.of (fun f=>P.funcs[f]?) d id,ov:=ov,ovb:=fun _=>none,ext:=ext,own:=own,cut:=cut,muts:=muts}
theorem tables_ok {P:Program} {d:Nat} {ov ext:FuncId→Option (List AV→Option AV)} {own:FuncId→Bool} {cut:Bool} {muts:FuncId→Bool} (hm:P.follows .mixedOrders=true) (hn:P.funcs.all (fun fn=> !(fn.name== "runtime.NumGoroutine"))=true)
  (ho:OvOk P (tables P d ov ext own cut muts)) (he:ExtOk P (tables P d ov ext own cut muts)):CfgOk (tables P d ov ext own cut muts) P where
 ty:=⟨fun t i h=>Tr.of_get _ d id t i h⟩
 fn:=fun f fn h=>by
  have h1:P.funcs[f]?=some fn:=Tr.of_get _ d id f fn h
  refine ⟨h1,?_⟩
  rw [Array.all_eq_true] at hn
  obtain ⟨hlt,rfl⟩:=Array.getElem?_eq_some_iff.1 h1
  simpa using hn f hlt
 mixed:=hm
 ov:={ov:=ho,ovb:=fun f G h=>(by cases h),eat:=fun f G h=>(by cases h),ext:=he}
def tablesB (P:Program) (d:Nat) (ov:FuncId→Option (List AV→Option AV)) (ovb:FuncId→Option (List AV→List Box→Option (AV×List Box))) (ext:FuncId→Option (List AV→Option AV)) (own:FuncId→Bool) (cut:Bool:=false) (muts:FuncId→Bool:=fun _=>false) (brw:FuncId→Bool:=fun _=>false):Cfg:=
 {ty:=Tr.of (tiOf P) d id,fn:=Tr.of (fun f=>P.funcs[f]?) d id,ov:=ov,ovb:=ovb,ext:=ext,own:=own,cut:=cut,muts:=muts,brw:=brw}
theorem tablesB_ok {P:Program} {d:Nat} {ov ext:FuncId→Option (List AV→Option AV)} {ovb:FuncId→Option (List AV→List Box→Option (AV×List Box))} {own:FuncId→Bool} {cut:Bool} {muts brw:FuncId→Bool} (hm:P.follows .mixedOrders=true) (hn:P.funcs.all (fun fn=> !(fn.name== "runtime.NumGoroutine"))=true)
  (ho:OvOk P (tablesB P d ov ovb ext own cut muts brw)) (hb:OvbOk P (tablesB P d ov ovb ext own cut muts brw)) (he:ExtOk P (tablesB P d ov ovb ext own cut muts brw)):CfgOk (tablesB P d ov ovb ext own cut muts brw) P where
 ty:=⟨fun t i h=>Tr.of_get _ d id t i h⟩
 fn:=fun f fn h=>by
  have h1:P.funcs[f]?=some fn:=Tr.of_get _ d id f fn h
  refine ⟨h1,?_⟩
  rw [Array.all_eq_true] at hn
  obtain ⟨hlt,rfl⟩:=Array.getElem?_eq_some_iff.1 h1
  simpa using hn f hlt
 mixed:=hm
 ov:={ov:=ho,ovb:=hb,eat:=fun f G h=>(by cases h),ext:=he}
def tablesE (P:Program) (d:Nat) (ov:FuncId→Option (List AV→Option AV)) (ovb:FuncId→Option (List AV→List Box→Option (AV×List Box))) (ext:FuncId→Option (List AV→Option AV)) (own:FuncId→Bool) (cut:Bool) (muts:FuncId→Bool) (brw:FuncId→Bool) (eat:FuncId→Option (Nat→Hd→Nat→List AV→List AV→Option AV)):Cfg:=
 {ty:=Tr.of (tiOf P) d id,fn:=Tr.of (fun f=>P.funcs[f]?) d id,ov:=ov,ovb:=ovb,ext:=ext,own:=own,cut:=cut,muts:=muts,brw:=brw,eat:=eat}
theorem tablesE_ok {P:Program} {d:Nat} {ov ext:FuncId→Option (List AV→Option AV)} {ovb:FuncId→Option (List AV→List Box→Option (AV×List Box))} {own:FuncId→Bool} {cut:Bool} {muts brw:FuncId→Bool} {eat:FuncId→Option (Nat→Hd→Nat→List AV→List AV→Option AV)} (hm:P.follows .mixedOrders=true) (hn:P.funcs.all (fun fn=> !(fn.name== "runtime.NumGoroutine"))=true)
  (ho:OvOk P (tablesE P d ov ovb ext own cut muts brw eat)) (hb:OvbOk P (tablesE P d ov ovb ext own cut muts brw eat)) (hea:EatOk P (tablesE P d ov ovb ext own cut muts brw eat)) (he:ExtOk P (tablesE P d ov ovb ext own cut muts brw eat)):CfgOk (tablesE P d ov ovb ext own cut muts brw eat) P where
 ty:=⟨fun t i h=>Tr.of_get _ d id t i h⟩
 fn:=fun f fn h=>by
  have h1:P.funcs[f]?=some fn:=Tr.of_get _ d id f fn h
  refine ⟨h1,?_⟩
  rw [Array.all_eq_true] at hn
  obtain ⟨hlt,rfl⟩:=Array.getElem?_eq_some_iff.1 h1
  simpa using hn f hlt
 mixed:=hm
 ov:={ov:=ho,ovb:=hb,eat:=hea,ext:=he}
theorem CPost.of_below {g:Gh} {w w':World} {r:AV} {v:Value} (hm:Mem g [] w) (hb:RowKit.Below w.heap.size w w') (hr:Rd g w' r v):CPost g w [] r (.returned v) w':=by
 have hold: ∀b,b<w.heap.size→w'.heap[b]?=w.heap[b]?:=fun b hb'=>hb.block b hb'
 have hsz:w.heap.size≤w'.heap.size:=hb.size
 have hno: ∀k,g.e k= .no:=fun k=>hm.no k (by simp [Box.at])
 refine ⟨v,g,rfl,⟨hm.no,fun k ty cs hk=>by simp [Box.at] at hk,fun k sh sz es hk=>by simp [Box.at] at hk,fun k st hk=>by simp [Box.at] at hk,fun k es clock hk=>by simp [Box.at] at hk,fun k hk=>by simp [Box.at] at hk,fun k o hk=>by simp [Box.at] at hk,hm.inj,fun b o hs=>⟨Nat.lt_of_lt_of_le (hm.stab b o hs).1 hsz,fun k hk=>by rw [hno k] at hk;cases hk⟩,hm.knHold hold (fun _ _ h=> .inl h)⟩,
  ⟨fun _ _ h=>h,fun b o hs=>cell_of_block (hold b (hm.stab b o hs).1) o,fun _=> .same _⟩,⟨hsz,fun b hb' h=>⟨hold b hb',h,fun _ h=>h⟩,hb.os,hb.tape,hb.output⟩,hr⟩
def allS (w:World):Gh:={S:=fun b _=>b<w.heap.size,e:=fun _=> .no}
theorem mem_allS (w:World) (hk: ∀p∈Kn.ks,w.heap[p.1]?=some p.2):Mem (allS w) [] w:=
 ⟨fun _ _=>rfl,fun k ty cs hk=>by simp [Box.at] at hk,fun k sh sz es hk=>by simp [Box.at] at hk,fun k st hk=>by simp [Box.at] at hk,fun k es clock hk=>by simp [Box.at] at hk,fun k hk=>by simp [Box.at] at hk,fun k o hk=>by simp [Box.at] at hk,fun k l b hk=>by simp [allS,GE.blk] at hk,fun b o hs=>⟨hs,fun k hk=>by simp [allS,GE.blk] at hk⟩,fun p hp=>⟨hk p hp,fun k hk'=>by simp [allS,GE.blk] at hk'⟩⟩
theorem calls_bool {P:Program} {c:Cfg} (hc:CfgOk c P) {f:FuncId} {xs:List AV} {b:Bool} (h:ansF c f xs []=some (.bool b, [])) (w:World) (hk: ∀p∈Kn.ks,w.heap[p.1]?=some p.2) (vs:Array Value) (hx:RdAll (allS w) w xs vs.toList):
  Calls P f vs w fun e w'=>e= .returned (.bool b)∧RowKit.Below w.heap.size w w':=by
 refine (ansF_sound hc h (allS w) w vs (mem_allS w hk) hx).mono ?_
 rintro e w' ⟨v,g',rfl,hm,hl,hf,hr⟩
 rw [hr.bool_inv]
 exact ⟨rfl,hf.os,hf.tape,hf.output,hf.size,fun k hk=>(hf.frame k hk (fun j hj=>by simp [allS,GE.blk] at hj)).1⟩
end Go.Am
