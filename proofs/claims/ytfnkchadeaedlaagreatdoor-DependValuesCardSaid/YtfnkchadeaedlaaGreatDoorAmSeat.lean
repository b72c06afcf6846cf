/-
 From a program to the abstract machine's tables, and from the machine's answer to a call in the model.
-/
import Derived.Test.YtfnkchadeaedlaaGreatDoorAmIr6a
import Derived.Laws.Externs
import Derived.Lib.Bytealg
import Derived.Below
set_option linter.all false
namespace Go.Am
variable [Kn]
theorem Tr.lO {α:Type} (f:Nat→Option α): ∀(d:Nat) (g:Nat→Nat) (i:Nat) (x:α),(Tr.of f d g).get none i=some x→f (g i)=some x
 | 0,_,_,_,h=>by cases h
 | d+1,g,i,x,h=>by
  cases i with
  | zero=>exact h
  | succ j=>
   rcases Nat.mod_two_eq_zero_or_one j with hj | hj <;> simp only [Tr.of,Tr.get,hj] at h
   ·have:=Tr.lO f d _ _ x h
    rwa [show 2*(j / 2)+1=j+1 by omega] at this
   ·have:=Tr.lO f d _ _ x h
    rwa [show 2*(j / 2)+2=j+1 by omega] at this
def bN (P:Program) (t:TypeId):Array Field:=match P.underlying t with
 | some (.struct fs)=>fs
 | _=> #[]
def qM (P:Program) (d:Nat) (ov:FuncId→Option (List AV→Option AV)) (CU:FuncId→Option (List AV→List ad→Option (AV×List ad))) (ext:FuncId→Option (List AV→Option AV)) (own:FuncId→Bool) (cut:Bool:=false) (iV:FuncId→Bool:=fun _=>false) (EG:FuncId→Bool:=fun _=>false):ax:=
 {ty:=Tr.of (Kj P) d id,fn:=Tr.of (fun f=>P.funcs[f]?) d id,ov:=ov,CU:=CU,ext:=ext,own:=own,cut:=cut,iV:=iV,EG:=EG}
theorem DQ {P:Program} {d:Nat} {ov ext:FuncId→Option (List AV→Option AV)} {CU:FuncId→Option (List AV→List ad→Option (AV×List ad))} {own:FuncId→Bool} {cut:Bool} {iV EG:FuncId→Bool} (hm:P.follows .mixedOrders=true) (hn:P.funcs.all (fun fn=> !(fn.name== "runtime.NumGoroutine"))=true)
  (ho:Kh P (qM P d ov CU ext own cut iV EG)) (hb:HP P (qM P d ov CU ext own cut iV EG)) (he:HQ P (qM P d ov CU ext own cut iV EG)):ow (qM P d ov CU ext own cut iV EG) P where
 ty:=⟨fun t i h=>Tr.lO _ d id t i h⟩
 fn:=fun f fn h=>by
  have h1:P.funcs[f]?=some fn:=Tr.lO _ d id f fn h;refine ⟨h1,?_⟩;rw [Array.all_eq_true] at hn;obtain ⟨hlt,rfl⟩:=Array.getElem?_eq_some_iff.1 h1;simpa using hn f hlt
 mixed:=hm
 ov:={ov:=ho,CU:=hb,ext:=he}
theorem dK.qN {g:Gh} {w w':World} {r:AV} {v:Value} (hm:Mem g [] w) (hb:RowKit.Below w.heap.size w w') (hr:Rd g w' r v):dK g w [] r (.returned v) w':=by
 have hold: ∀b,b<w.heap.size→w'.heap[b]?=w.heap[b]?:=fun b hb'=>hb.block b hb';have hsz:w.heap.size≤w'.heap.size:=hb.size;have hno: ∀k,g.e k= .no:=fun k=>hm.no k (by simp [ad.at])
 refine ⟨v,g,rfl,⟨hm.no,fun k ty cs hk=>by simp [ad.at] at hk,fun k sh sz es hk=>by simp [ad.at] at hk,fun k st hk=>by simp [ad.at] at hk,fun k es clock hk=>by simp [ad.at] at hk,fun k hk=>by simp [ad.at] at hk,fun k o hk=>by simp [ad.at] at hk,hm.inj,fun b o hs=>⟨Nat.lt_of_lt_of_le (hm.cI b o hs).1 hsz,fun k hk=>by rw [hno k] at hk;cases hk⟩,hm.zf hold (fun _ _ h=> .inl h)⟩,
  ⟨fun _ _ h=>h,fun b o hs=>bW (hold b (hm.cI b o hs).1) o,fun _=> .same _⟩,⟨hsz,fun b hb' h=>⟨hold b hb',h,fun _ h=>h⟩,hb.os,hb.tape,hb.output⟩,hr⟩
def rG (w:World):Gh:={S:=fun b _=>b<w.heap.size,e:=fun _=> .no}
theorem IF (w:World) (hk: ∀p∈Kn.ks,w.heap[p.1]?=some p.2):Mem (rG w) [] w:=
 ⟨fun _ _=>rfl,fun k ty cs hk=>by simp [ad.at] at hk,fun k sh sz es hk=>by simp [ad.at] at hk,fun k st hk=>by simp [ad.at] at hk,fun k es clock hk=>by simp [ad.at] at hk,fun k hk=>by simp [ad.at] at hk,fun k o hk=>by simp [ad.at] at hk,fun k l b hk=>by simp [rG,GE.cx] at hk,fun b o hs=>⟨hs,fun k hk=>by simp [rG,GE.cx] at hk⟩,fun p hp=>⟨hk p hp,fun k hk'=>by simp [rG,GE.cx] at hk'⟩⟩
theorem DR {P:Program} {c:ax} (hc:ow c P) {f:FuncId} {xs:List AV} {b:Bool} (h:ar c f xs []=some (.bool b, [])) (w:World) (hk: ∀p∈Kn.ks,w.heap[p.1]?=some p.2) (vs:Array Value) (hx:bp (rG w) w xs vs.toList):
  Calls P f vs w fun e w'=>e= .returned (.bool b)∧RowKit.Below w.heap.size w w':=by
 refine (Dv hc h (rG w) w vs (IF w hk) hx).mono ?_;rintro e w' ⟨v,g',rfl,hm,hl,hf,hr⟩;rw [hr.dn];exact ⟨rfl,hf.os,hf.tape,hf.output,hf.size,fun k hk=>(hf.frame k hk (fun j hj=>by simp [rG,GE.cx] at hj)).1⟩
end Go.Am
