/- From a program to the abstract machine's tables, and from the machine's answer to a .. -/
import Derived.Test.YtfgbpngakkhdcaaGreatDoorAmIr2
import Derived.Laws.Externs
import Derived.Lib.Bytealg
import Derived.Below
open Go renaming FuncId->n,Program->s,World->z
open Option renaming some->y
open _root_ renaming Bool->u,List->q,Nat->A,Option->m
set_option linter.all false
namespace Go.Am
variable [Kn]
theorem Tr.nV {α:Type} (f:A->m α): ∀(d:A) (g:A->A) (i:A) (x:α),(Tr.of f d g).get none i=y x->f (g i)=y x
 | 0,_,_,_,h=>by cases h
 | d+1,g,i,x,h=>by
  cases i with
  | zero=>exact h
  | succ j=>
   rcases Nat.mod_two_eq_zero_or_one j with hj | hj <;> simp only [Tr.of,Tr.get,hj] at h
   ·have:=Tr.nV f d _ _ x h
    rwa [show 2*(j / 2)+1=j+1 by omega] at this
   ·have:=Tr.nV f d _ _ x h
    rwa [show 2*(j / 2)+2=j+1 by omega] at this
def aG (P:s) (t:TypeId):Array Field:=match P.underlying t with
 | some (.struct fs)=>fs
 | _=> #[]
def qp (P:s) (d:A) (ov:n->m (q AV->m AV)) (GN:n->m (q AV->q af->m (AV×q af))) (ext:n->m (q AV->m AV)) (own:n->u) (cut:u) (kg:n->u) (GO:n->u) (rH:n->m (A->Hd->A->q AV->q AV->m AV)):aD:=
 {ty:=Tr.of (P7 P) d id,fn:=Tr.of (fun f=>P.funcs[f]?) d id,ov:=ov,GN:=GN,ext:=ext,own:=own,cut:=cut,kg:=kg,GO:=GO,rH:=rH}
theorem HV {P:s} {d:A} {ov ext:n->m (q AV->m AV)} {GN:n->m (q AV->q af->m (AV×q af))} {own:n->u} {cut:u} {kg GO:n->u} {rH:n->m (A->Hd->A->q AV->q AV->m AV)} (hm:P.follows .mixedOrders=true) (hn:P.funcs.all (fun fn=> !(fn.name== "runtime.NumGoroutine"))=true)
  (ho:QK P (qp P d ov GN ext own cut kg GO rH)) (hb:Nq P (qp P d ov GN ext own cut kg GO rH)) (ă:Jp P (qp P d ov GN ext own cut kg GO rH)) (he:Nr P (qp P d ov GN ext own cut kg GO rH)):qR (qp P d ov GN ext own cut kg GO rH) P where
 ty:=⟨fun t i h=>Tr.nV _ d id t i h⟩
 fn:=fun f fn h=>by
  have h1:P.funcs[f]?=y fn:=Tr.nV _ d id f fn h;refine ⟨h1,?_⟩;rw [Array.all_eq_true] at hn;obtain ⟨hlt,rfl⟩:=Array.getElem?_eq_some_iff.1 h1;simpa using hn f hlt
 mixed:=hm
 ov:={ov:=ho,GN:=hb,rH:=ă,ext:=he}
theorem dT.tW {g:Gh} {w w':z} {r:AV} {v:Value} (hm:Mem g [] w) (hb:RowKit.Below w.heap.size w w') (hr:Rd g w' r v):dT g w [] r (.returned v) w':=by
 have Ā: ∀b,b<w.heap.size->w'.heap[b]?=w.heap[b]?:=fun b ā=>hb.block b ā;have Ă:w.heap.size<=w'.heap.size:=hb.size;have Ą: ∀k,g.e k= .no:=fun k=>hm.no k (by simp [af.at])
 refine ⟨v,g,rfl,⟨hm.no,fun k ty cs hk=>by simp [af.at] at hk,fun k sh sz es hk=>by simp [af.at] at hk,fun k st hk=>by simp [af.at] at hk,fun k es clock hk=>by simp [af.at] at hk,fun k hk=>by simp [af.at] at hk,fun k o hk=>by simp [af.at] at hk,hm.inj,fun b o hs=>⟨Nat.lt_of_lt_of_le (hm.dh b o hs).1 Ă,fun k hk=>by rw [Ą k] at hk;cases hk⟩,hm.Cw Ā (fun _ _ h=> .inl h)⟩,
  ⟨fun _ _ h=>h,fun b o hs=>cr (Ā b (hm.dh b o hs).1) o,fun _=> .same _⟩,⟨Ă,fun b ā h=>⟨Ā b ā,h,fun _ h=>h⟩,hb.os,hb.tape,hb.output⟩,hr⟩
def uK (w:z):Gh:={S:=fun b _=>b<w.heap.size,e:=fun _=> .no}
theorem NK (w:z) (hk: ∀p∈Kn.ks,w.heap[p.1]?=y p.2):Mem (uK w) [] w:=
 ⟨fun _ _=>rfl,fun k ty cs hk=>by simp [af.at] at hk,fun k sh sz es hk=>by simp [af.at] at hk,fun k st hk=>by simp [af.at] at hk,fun k es clock hk=>by simp [af.at] at hk,fun k hk=>by simp [af.at] at hk,fun k o hk=>by simp [af.at] at hk,fun k l b hk=>by simp [uK,GE.bM] at hk,fun b o hs=>⟨hs,fun k hk=>by simp [uK,GE.bM] at hk⟩,fun p hp=>⟨hk p hp,fun k ą=>by simp [uK,GE.bM] at ą⟩⟩
theorem yV {P:s} {c:aD} (hc:qR c P) {f:n} {xs:q AV} {b:u} (h:ar c f xs []=y (.bool b, [])) (w:z) (hk: ∀p∈Kn.ks,w.heap[p.1]?=y p.2) (vs:Array Value) (hx:bL (uK w) w xs vs.toList):
  Calls P f vs w fun e w'=>e= .returned (.bool b)/\RowKit.Below w.heap.size w w':=by
 refine (Hp hc h (uK w) w vs (NK w hk) hx).mono ?_;rintro e w' ⟨v,g',rfl,hm,hl,hf,hr⟩;rw [hr.dL];exact ⟨rfl,hf.os,hf.tape,hf.output,hf.size,fun k hk=>(hf.frame k hk (fun j hj=>by simp [uK,GE.bM] at hj)).1⟩
end Go.Am
