/-
 From a program to the abstract machine's tables, and from the machine's answer to a call in the model.
-/
import Derived.Test.YtfnkchadeaedlaaGreatDoorAmIr6a
import Derived.Laws.Externs
import Derived.Lib.Bytealg
import Derived.Below
set_option linter.all false
namespace Go.Am
variable [Kn]
theorem Tr.k9 {α:Type} (f:Nat→Option α): ∀(d:Nat) (g:Nat→Nat) (i:Nat) (x:α),(Tr.of f d g).get none i=some x→f (g i)=some x
 | 0,_,_,_,h=>by cases h
 | d+1,g,i,x,h=>by
  cases i with
  | zero=>exact h
  | succ j=>
   rcases Nat.mod_two_eq_zero_or_one j with hj | hj <;> simp only [Tr.of,Tr.get,hj] at h
   ·have:=Tr.k9 f d _ _ x h
    rwa [show 2*(j / 2)+1=j+1 by omega] at this
   ·have:=Tr.k9 f d _ _ x h
    rwa [show 2*(j / 2)+2=j+1 by omega] at this
def cI (P:Program) (t:TypeId):Array Field:=match P.underlying t with
 | some (.struct fs)=>fs
 | _=> #[]
def qb (P:Program) (d:Nat) (ov:FuncId→Option (List AV→Option AV)) (BH:FuncId→Option (List AV→List ad→Option (AV×List ad))) (ext:FuncId→Option (List AV→Option AV)) (own:FuncId→Bool) (cut:Bool:=false) (il:FuncId→Bool:=fun _=>false) (Di:FuncId→Bool:=fun _=>false):ax:=
 {ty:=Tr.of (Ig P) d id,fn:=Tr.of (fun f=>P.funcs[f]?) d id,ov:=ov,BH:=BH,ext:=ext,own:=own,cut:=cut,il:=il,Di:=Di}
theorem CD {P:Program} {d:Nat} {ov ext:FuncId→Option (List AV→Option AV)} {BH:FuncId→Option (List AV→List ad→Option (AV×List ad))} {own:FuncId→Bool} {cut:Bool} {il Di:FuncId→Bool} (hm:P.follows .mixedOrders=true) (hn:P.funcs.all (fun fn=> !(fn.name== "runtime.NumGoroutine"))=true)
  (ho:Ic P (qb P d ov BH ext own cut il Di)) (hb:Gc P (qb P d ov BH ext own cut il Di)) (he:Gd P (qb P d ov BH ext own cut il Di)):nE (qb P d ov BH ext own cut il Di) P where
 ty:=⟨fun t i h=>Tr.k9 _ d id t i h⟩
 fn:=fun f fn h=>by
  have h1:P.funcs[f]?=some fn:=Tr.k9 _ d id f fn h;refine ⟨h1,?_⟩;rw [Array.all_eq_true] at hn;obtain ⟨hlt,rfl⟩:=Array.getElem?_eq_some_iff.1 h1;simpa using hn f hlt
 mixed:=hm
 ov:={ov:=ho,BH:=hb,ext:=he}
theorem du.qc {g:Gh} {w w':World} {r:AV} {v:Value} (hm:Mem g [] w) (hb:RowKit.Below w.heap.size w w') (hr:Rd g w' r v):du g w [] r (.returned v) w':=by
 have hold: ∀b,b<w.heap.size→w'.heap[b]?=w.heap[b]?:=fun b hb'=>hb.block b hb';have hsz:w.heap.size≤w'.heap.size:=hb.size;have hno: ∀k,g.e k= .no:=fun k=>hm.no k (by simp [ad.at])
 refine ⟨v,g,rfl,⟨hm.no,fun k ty cs hk=>by simp [ad.at] at hk,fun k sh sz es hk=>by simp [ad.at] at hk,fun k st hk=>by simp [ad.at] at hk,fun k es clock hk=>by simp [ad.at] at hk,fun k hk=>by simp [ad.at] at hk,fun k o hk=>by simp [ad.at] at hk,hm.inj,fun b o hs=>⟨Nat.lt_of_lt_of_le (hm.cx b o hs).1 hsz,fun k hk=>by rw [hno k] at hk;cases hk⟩,hm.x8 hold (fun _ _ h=> .inl h)⟩,
  ⟨fun _ _ h=>h,fun b o hs=>bK (hold b (hm.cx b o hs).1) o,fun _=> .same _⟩,⟨hsz,fun b hb' h=>⟨hold b hb',h,fun _ h=>h⟩,hb.os,hb.tape,hb.output⟩,hr⟩
def qH (w:World):Gh:={S:=fun b _=>b<w.heap.size,e:=fun _=> .no}
theorem G1 (w:World) (hk: ∀p∈Kn.ks,w.heap[p.1]?=some p.2):Mem (qH w) [] w:=
 ⟨fun _ _=>rfl,fun k ty cs hk=>by simp [ad.at] at hk,fun k sh sz es hk=>by simp [ad.at] at hk,fun k st hk=>by simp [ad.at] at hk,fun k es clock hk=>by simp [ad.at] at hk,fun k hk=>by simp [ad.at] at hk,fun k o hk=>by simp [ad.at] at hk,fun k l b hk=>by simp [qH,GE.ca] at hk,fun b o hs=>⟨hs,fun k hk=>by simp [qH,GE.ca] at hk⟩,fun p hp=>⟨hk p hp,fun k hk'=>by simp [qH,GE.ca] at hk'⟩⟩
theorem CE {P:Program} {c:ax} (hc:nE c P) {f:FuncId} {xs:List AV} {b:Bool} (h:aq c f xs []=some (.bool b, [])) (w:World) (hk: ∀p∈Kn.ks,w.heap[p.1]?=some p.2) (vs:Array Value) (hx:aY (qH w) w xs vs.toList):
  Calls P f vs w fun e w'=>e= .returned (.bool b)∧RowKit.Below w.heap.size w w':=by
 refine (Ci hc h (qH w) w vs (G1 w hk) hx).mono ?_;rintro e w' ⟨v,g',rfl,hm,hl,hf,hr⟩;rw [hr.cS];exact ⟨rfl,hf.os,hf.tape,hf.output,hf.size,fun k hk=>(hf.frame k hk (fun j hj=>by simp [qH,GE.ca] at hj)).1⟩
end Go.Am
