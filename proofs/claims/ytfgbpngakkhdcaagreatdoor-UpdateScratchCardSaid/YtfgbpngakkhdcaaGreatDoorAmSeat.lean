/- From a program to the abstract machine's tables, and from the machine's answer to a .. -/
import Derived.Test.YtfgbpngakkhdcaaGreatDoorAmIr6a
import Derived.Laws.Externs
import Derived.Lib.Bytealg
import Derived.Below
set_option linter.all false
namespace Go.Am
variable [Kn]
theorem Tr.mS {α:Type} (f:Nat->Option α): ∀(d:Nat) (g:Nat->Nat) (i:Nat) (x:α),(Tr.of f d g).get none i=some x->f (g i)=some x
 | 0,_,_,_,h=>by cases h
 | d+1,g,i,x,h=>by
  cases i with
  | zero=>exact h
  | succ j=>
   rcases Nat.mod_two_eq_zero_or_one j with hj | hj <;> simp only [Tr.of,Tr.get,hj] at h
   ·have:=Tr.mS f d _ _ x h
    rwa [show 2*(j / 2)+1=j+1 by omega] at this
   ·have:=Tr.mS f d _ _ x h
    rwa [show 2*(j / 2)+2=j+1 by omega] at this
def bL (P:Program) (t:TypeId):Array Field:=match P.underlying t with
 | some (.struct fs)=>fs
 | _=> #[]
def pe (P:Program) (d:Nat) (ov:FuncId->Option (List AV->Option AV)) (EC:FuncId->Option (List AV->List ad->Option (AV×List ad))) (ext:FuncId->Option (List AV->Option AV)) (own:FuncId->Bool) (cut:Bool) (iW:FuncId->Bool) (ED:FuncId->Bool) (qg:FuncId->Option (Nat->Hd->Nat->List AV->List AV->Option AV)):av:=
 {ty:=Tr.of (Nh P) d id,fn:=Tr.of (fun f=>P.funcs[f]?) d id,ov:=ov,EC:=EC,ext:=ext,own:=own,cut:=cut,iW:=iW,ED:=ED,qg:=qg}
theorem FP {P:Program} {d:Nat} {ov ext:FuncId->Option (List AV->Option AV)} {EC:FuncId->Option (List AV->List ad->Option (AV×List ad))} {own:FuncId->Bool} {cut:Bool} {iW ED:FuncId->Bool} {qg:FuncId->Option (Nat->Hd->Nat->List AV->List AV->Option AV)} (hm:P.follows .mixedOrders=true) (hn:P.funcs.all (fun fn=> !(fn.name== "runtime.NumGoroutine"))=true)
  (ho:Nf P (pe P d ov EC ext own cut iW ED qg)) (hb:Kc P (pe P d ov EC ext own cut iW ED qg)) (hea:GO P (pe P d ov EC ext own cut iW ED qg)) (he:Kd P (pe P d ov EC ext own cut iW ED qg)):pL (pe P d ov EC ext own cut iW ED qg) P where
 ty:=⟨fun t i h=>Tr.mS _ d id t i h⟩
 fn:=fun f fn h=>by
  have h1:P.funcs[f]?=some fn:=Tr.mS _ d id f fn h;refine ⟨h1,?_⟩;rw [Array.all_eq_true] at hn;obtain ⟨hlt,rfl⟩:=Array.getElem?_eq_some_iff.1 h1;simpa using hn f hlt
 mixed:=hm
 ov:={ov:=ho,EC:=hb,qg:=hea,ext:=he}
theorem dE.sx {g:Gh} {w w':World} {r:AV} {v:Value} (hm:Mem g [] w) (hb:RowKit.Below w.heap.size w w') (hr:Rd g w' r v):dE g w [] r (.returned v) w':=by
 have hold: ∀b,b<w.heap.size->w'.heap[b]?=w.heap[b]?:=fun b hb'=>hb.block b hb';have hsz:w.heap.size<=w'.heap.size:=hb.size;have hno: ∀k,g.e k= .no:=fun k=>hm.no k (by simp [ad.at])
 refine ⟨v,g,rfl,⟨hm.no,fun k ty cs hk=>by simp [ad.at] at hk,fun k sh sz es hk=>by simp [ad.at] at hk,fun k st hk=>by simp [ad.at] at hk,fun k es clock hk=>by simp [ad.at] at hk,fun k hk=>by simp [ad.at] at hk,fun k o hk=>by simp [ad.at] at hk,hm.inj,fun b o hs=>⟨Nat.lt_of_lt_of_le (hm.cR b o hs).1 hsz,fun k hk=>by rw [hno k] at hk;cases hk⟩,hm.A4 hold (fun _ _ h=> .inl h)⟩,
  ⟨fun _ _ h=>h,fun b o hs=>bS (hold b (hm.cR b o hs).1) o,fun _=> .same _⟩,⟨hsz,fun b hb' h=>⟨hold b hb',h,fun _ h=>h⟩,hb.os,hb.tape,hb.output⟩,hr⟩
def td (w:World):Gh:={S:=fun b _=>b<w.heap.size,e:=fun _=> .no}
theorem K5 (w:World) (hk: ∀p∈Kn.ks,w.heap[p.1]?=some p.2):Mem (td w) [] w:=
 ⟨fun _ _=>rfl,fun k ty cs hk=>by simp [ad.at] at hk,fun k sh sz es hk=>by simp [ad.at] at hk,fun k st hk=>by simp [ad.at] at hk,fun k es clock hk=>by simp [ad.at] at hk,fun k hk=>by simp [ad.at] at hk,fun k o hk=>by simp [ad.at] at hk,fun k l b hk=>by simp [td,GE.bw] at hk,fun b o hs=>⟨hs,fun k hk=>by simp [td,GE.bw] at hk⟩,fun p hp=>⟨hk p hp,fun k hk'=>by simp [td,GE.bw] at hk'⟩⟩
theorem mW {P:Program} {c:av} (hc:pL c P) {f:FuncId} {xs:List AV} {b:Bool} (h:aq c f xs []=some (.bool b, [])) (w:World) (hk: ∀p∈Kn.ks,w.heap[p.1]?=some p.2) (vs:Array Value) (hx:bt (td w) w xs vs.toList):
  Calls P f vs w fun e w'=>e= .returned (.bool b)∧RowKit.Below w.heap.size w w':=by
 refine (Ft hc h (td w) w vs (K5 w hk) hx).mono ?_;rintro e w' ⟨v,g',rfl,hm,hl,hf,hr⟩;rw [hr.dx];exact ⟨rfl,hf.os,hf.tape,hf.output,hf.size,fun k hk=>(hf.frame k hk (fun j hj=>by simp [td,GE.bw] at hj)).1⟩
end Go.Am
