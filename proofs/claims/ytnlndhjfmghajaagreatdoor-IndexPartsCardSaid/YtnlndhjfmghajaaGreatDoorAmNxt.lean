/- A step of a range over a map: -/
import Derived.Test.YtnlndhjfmghajaaGreatDoorAmStep
set_option linter.all false
namespace Go.Am
variable [Kn]
section
variable {P:Program} {g:Gh} {bs:List Box} {w:World}
theorem nxt_wp (hm:Mem g bs w) {t:Env} {a:Act} (ht:TRel g w t a) {o:Oper} {x:Operand} (hop:o.op= .next x false) {k m clock:Nat} {seen:List Nat} {es:List (AV×AV×Nat)} (hx:ev t x= .itv k) (hk:Box.at bs k= .iter (.map m seen clock)) (hmp:Box.at bs m= .mp es clock)
  {K:Act→World→Prop} {Q:Exit→Act→World→Prop}
  (hK0:(∀e∈es,seen.contains e.2.2=true)→ ∀v w' g',Mem g' bs w'→Le g w g' w'→Fr g w g' w'→Rd g' w' (.tup [.bool false]) v→K (a.put o.dst v) w')
  (hK1: ∀e∈es,seen.contains e.2.2=false→ ∀v w' g',Mem g' (bs.set k (.iter (.map m (seen++ [e.2.2]) clock))) w'→Le g w g' w'→Fr g w g' w'→Rd g' w' (.tup [.bool true,e.1,e.2.1]) v→K (a.put o.dst v) w')
  (ro:Option Nat):o.wpIn (FW ro) 0 P a w K Q:=by
 have hnd: ∀x,o.op≠ .defer x:=fun x hx=>by rw [hx] at hop;cases hop
 refine ⟨fun _ _=>trivial,?_⟩
 rw [Oper.semAt_eq _ _ _ hnd]
 have hev:=ht.ev x
 rw [hx] at hev
 generalize hu:a.eval x=u at hev
 cases hev with
 | itv _ b hg=>
  obtain ⟨b',hg',hr⟩:=hm.it k _ hk
  rw [hg] at hg';cases hg'
  obtain ⟨hmk,bm,hgm,hh⟩:=hr
  obtain ⟨bm',hgm',ents,hhm,hsz,hrel⟩:=hm.mp m es clock hmp
  rw [hgm] at hgm';cases hgm'
  have hexec: ∀r w',(Instr.next (.pointer (some ⟨b,0,none⟩)) false o.type).run P w= .ok r w'→(execOp a.eval o).run P w= .ok (.value r) w':=fun r w' h=>by
   simp only [execOp,hop,hu]
   exact wrap_run P w _ _ _ h
  have getb: ∀(i:Nat) (hi:i<ents.size),∃e,es[i]?=some e∧(keyAV e.1=true∧Rd g w e.1 ents[i].key)∧(valOk e.2.1=true∧Rd g w e.2.1 ents[i].val)∧ents[i].born=e.2.2∧ents[i].born<clock:=fun i hi=>by
   have hi2:i<es.length:=by omega
   exact ⟨es[i],List.getElem?_eq_getElem hi2,hrel i es[i] ents[i] (List.getElem?_eq_getElem hi2) (Array.getElem?_eq_getElem hi)⟩
  rcases run_next_at (P:=P) w o.type b bm clock clock seen.toArray ents clock hh hhm (fun x hx=>by
    obtain ⟨i,hi,rfl⟩:=List.getElem_of_mem hx
    obtain ⟨e,_,_,_,_,h⟩:=getb i (by simpa using hi)
    simpa using h) (Nat.le_refl _) with ⟨h0,hrun⟩ | ⟨e,he,w1,hw1,hrun⟩
  ·rw [hexec _ _ hrun]
   refine hK0 (fun e he=> ?_) (.tuple #[.bool false]) w g hm (Le.refl _ _) (Fr.refl _ _) (.tup _ _ rfl (fun i c v hc hv=>by
    match i,hc,hv with
    | 0,hc,hv=>cases hc;cases hv;exact .bool _))
   obtain ⟨i,hi,rfl⟩:=List.getElem_of_mem he
   have hi2:i<ents.size:=by omega
   obtain ⟨e',he',_,_,hborn,_⟩:=getb i hi2
   rw [List.getElem?_eq_getElem hi] at he'
   cases he'
   rcases hc:seen.contains es[i].2.2 with _ | _
   ·exfalso
    have hmem:ents[i]∈leftOf ents seen.toArray:=by
     unfold leftOf
     rw [Array.mem_filter]
     refine ⟨Array.getElem_mem hi2,?_⟩
     rw [hborn]
     simpa using hc
    have:=Array.size_pos_of_mem hmem
    omega
   ·rfl
  ·rw [hexec _ _ hrun]
   have hem:e∈leftOf ents seen.toArray:=by simpa using he
   unfold leftOf at hem
   rw [Array.mem_filter] at hem
   obtain ⟨hem,hns⟩:=hem
   obtain ⟨i,hi,rfl⟩:=Array.getElem_of_mem hem
   obtain ⟨e',he',⟨hk1,hk2⟩,⟨hv1,hv2⟩,hborn,_⟩:=getb i hi
   have hns':seen.contains e'.2.2=false:=by
    rw [hborn] at hns
    simpa using hns
   have hkl:k<bs.length:=at_lt (by rw [hk];simp)
   have hlt:=lt_of_row hh
   have hw:w1.heap=w.heap∧w1.os=w.os∧w1.tape=w.tape∧w1.output=w.output:=by
    rcases hw1 with rfl | rfl <;> exact ⟨rfl,rfl,rfl,rfl⟩
   generalize hW:ChangeMaps.setBlock w1 b (.mapIter (some bm) clock (seen.toArray.push ents[i].born) clock)=W
   have hheap:W.heap=w.heap.setIfInBounds b (.mapIter (some bm) clock (seen.toArray.push ents[i].born) clock):=by rw [←hW,←hw.1];rfl
   have hother: ∀b2,b2≠b→W.heap[b2]?=w.heap[b2]?:=fun b2 hne=>by
    rw [hheap,Array.getElem?_setIfInBounds_ne (Ne.symm hne)]
   have hsame:W.heap[b]?=some (.mapIter (some bm) clock (seen.toArray.push ents[i].born) clock):=by
    rw [hheap,Array.getElem?_setIfInBounds_self_of_lt hlt]
   have hcell: ∀b2 o,g.S b2 o→W.cell? ⟨b2,o,none⟩=w.cell? ⟨b2,o,none⟩:=fun b2 o hs=>by
    have hne:b2≠b:=fun e=>by
     obtain ⟨ty,sz,es',h3,_⟩:=(hm.stab b2 o hs).2 k (by rw [hg,e];rfl)
     rw [hk] at h3;cases h3
    unfold World.cell?
    rw [hother _ hne]
   obtain ⟨m',l',f'⟩:=hm.upd (id:=k) (x:= .iter (.map m (seen++ [e'.2.2]) clock)) (ge:= .mp b) (S':=g.S) (w':=W) hkl (fun _ _ h=>h) hcell (by rw [hg];exact .same _)
    (fun b2 _ hne=>hother b2 (fun e=>hne (by rw [hg,e];rfl))) (by rw [hheap];simp) (fun b2 hb2=> .inl (by rw [hg];exact hb2)) (by simp) (fun _ _ h=>by cases h) (fun _ _ _ h=>by cases h) (fun _ _ h=> .inl h)
    (fun b2 o hs hb2=>by
     obtain ⟨ty,sz,es',h3,_⟩:=(hm.stab b2 o hs).2 k (by rw [hg];exact hb2)
     rw [hk] at h3;cases h3) (by rw [←hW];exact hw.2.1) (by rw [←hW];exact hw.2.2.1) (by rw [←hW];exact hw.2.2.2) (hit:=fun o' h=>by
      cases h
      refine ⟨b,rfl,hmk,bm,?_,?_⟩
      ·rw [Gh.put2_other _ _ _ (by omega)];exact hgm
      ·rw [hsame,hborn];simp)
   refine hK1 e' (List.mem_of_getElem? he') hns' (.tuple #[.bool true,ents[i].key,ents[i].val]) W _ m' l' f' (.tup _ _ rfl (fun j c v hc hv=> ?_))
   match j,hc,hv with
   | 0,hc,hv=>cases hc;cases hv;exact .bool _
   | 1,hc,hv=>cases hc;cases hv;exact hk2.mono l'
   | 2,hc,hv=>cases hc;cases hv;exact hv2.mono l'
end
end Go.Am
