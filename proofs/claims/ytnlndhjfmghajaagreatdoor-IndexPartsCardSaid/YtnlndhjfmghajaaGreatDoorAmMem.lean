/- How the boxes lie in memory, and that each kind of step keeps this: -/
import Derived.Test.YtnlndhjfmghajaaGreatDoorAmRel
import Derived.Laws.CopyRow
set_option linter.all false
namespace Go.Am
theorem cell_row {w:World} {b:Nat} {c:Array Value} {ty:TypeId} {fz:Nat×Nat} (h:w.heap[b]?=some (.cells c ty fz)) (o:Nat):w.cell? ⟨b,o,none⟩=c[o]?:=by
 simp [World.cell?,h]
theorem addr_add (b o n:Nat):(⟨b,o,none⟩:Addr).add n=⟨b,o+n,none⟩:=by
 unfold Addr.add;split <;> simp_all
def Free (c:Array Value) (fz:Nat×Nat):Prop:= ∀o,o<c.size→ ¬ (fz.1≤o∧o<fz.2)
def FreeFrom (n:Nat) (c:Array Value) (fz:Nat×Nat):Prop:= ∀o,n≤o→o<c.size→ ¬ (fz.1≤o∧o<fz.2)
theorem Free.from {c:Array Value} {fz:Nat×Nat} (h:Free c fz) (n:Nat):FreeFrom n c fz:=fun o _ ho=>h o ho
theorem frozen_row {w:World} {b:Nat} {c:Array Value} {ty:TypeId} {fz:Nat×Nat} (h:w.heap[b]?=some (.cells c ty fz)) {n:Nat} (hf:FreeFrom n c fz) {o:Nat} (hno:n≤o) (ho:o<c.size):w.frozen? ⟨b,o,none⟩=false:=by
 obtain ⟨lo,hi⟩:=fz
 have:=hf o hno ho
 simp only [World.frozen?,h]
 simp only [Bool.and_eq_false_iff,decide_eq_false_iff_not]
 omega
theorem run_storeRow (P:Program) (g o:Nat) (t:TypeId) (fz:Nat×Nat): ∀(vs:List Value) (i:Nat) (cur:Array Value) (w:World),w.heap[g]?=some (.cells cur t fz)→FreeFrom o cur fz→o+i+vs.length≤cur.size→(∀v∈vs,v.oneCell'=true)→
  (storeCells ⟨g,o,none⟩ vs i).run P w= .ok () (w.setRow g (cur.toList.take (o+i)++vs++cur.toList.drop (o+i+vs.length)).toArray)
 | [],i,cur,w,hg,_,_,_=>by
  simp only [storeCells,List.append_nil,List.length_nil,Nat.add_zero,List.take_append_drop,Array.toArray_toList]
  rw [setRow_self w g cur t fz hg]
  rfl
 | v::rest,i,cur,w,hg,hfz,hl,h1=>by
  have hi:o+i<cur.size:=by simp at hl;omega
  have hcell:w.cell? ⟨g,o+i,none⟩=some cur[o+i]:=by simp [World.cell?,hg,hi]
  have hfro:=frozen_row hg hfz (Nat.le_add_right o i) hi
  have hst:(store ((⟨g,o,none⟩:Addr).add i) v).run P w= .ok () (w.setRow g (cur.setIfInBounds (o+i) v)):=by
   rw [addr_add,run_store P w _ v _ (h1 v (by simp)),hcell]
   simp [hfro,setCell_eq_setRow w g (o+i) cur t fz v hg]
  have ih:=run_storeRow P g o t fz rest (i+1) (cur.setIfInBounds (o+i) v) (w.setRow g (cur.setIfInBounds (o+i) v)) (setRow_heap w g cur _ t _ hg) (fun o hno ho=>hfz o hno (by simpa using ho)) (by simp at hl⊢;omega) (fun x hx=>h1 x (by simp [hx]))
  simp only [storeCells,Sem.run_bind,hst,Result.andThen_ok,ih,setRow_setRow]
  congr 3
  have e:=list_seg_step cur.toList (o+i) v rest (by simp at hl⊢;omega)
  simpa [Array.toList_setIfInBounds,Nat.add_assoc] using e
def VarRel (g:Gh) (w:World) (ty:TypeId) (b:Nat) (cs:List AV):Prop:=
 ∃(c:Array Value),w.heap[b]?=some (.cells c ty (0,0))∧c.size=cs.length∧ ∀(j:Nat) (x:AV) (v:Value),cs[j]?=some x→c[j]?=some v→Rd g w x v
def SlRow (g:Gh) (w:World) (sh:Hd) (sz:Nat) (es:List AV) (b cap:Nat):Prop:=
 ∃(c:Array Value) (ty:TypeId) (fz:Nat×Nat),w.heap[b]?=some (.cells c ty fz)∧c.size=cap*sz∧max 1 es.length≤cap∧(∀t,sh.ty=some t→t=ty∧FreeFrom (if sh.out then es.length*sz else 0) c fz)∧
  (∀(i j:Nat) (e x:AV) (v:Value),es[i]?=some e→e.cells[j]?=some x→c[i*sz+j]?=some v→Rd g w x v∧v.oneCell'=true)∧(sh.out=true→ ∀o,o<es.length*sz→g.S b o)∧
  (∀i j k' n,sh.link=some (i,j,k',n)→ ∀v,c[i*sz+j]?=some v→i<es.length→Rd g w (.osl k' n) v)
def SlRel (g:Gh) (w:World) (sh:Hd) (sz:Nat) (es:List AV) (loc:Option (Nat×Nat)):Prop:=
 (∀(i:Nat) (e:AV),es[i]?=some e→e.plain=true∧e.cells.length=sz)∧
 match loc with
 | none=>es= []
 | some (b,cap)=>SlRow g w sh sz es b cap
def Ex.code:Ex→Code
 | .normal=> .skip
 | .ret=> .ret
 | .exit i=> .exit i
def LSt.record (r:Loop):LSt→Loop
 | .ready=>{r with state:= .ready,pending:=none}
 | .busy=>{r with state:= .busy,pending:=none}
 | .done e=>{r with state:= .done,pending:=some e.code}
class Kn where
 ks:List (Nat×Obj)
 cells: ∀p∈ks,∃c t z,p.2= .cells c t z
variable [Kn]
theorem key_plain {k:AV} (h:keyAV k=true):k.plain=true:=by
 have one: ∀{v:AV},cellAV v=true→v.plain=true:=fun {v} h=>by
  cases v <;> simp only [cellAV,Bool.false_eq_true] at h <;> rfl
 cases k with
 | agg cs=>
  simp only [keyAV] at h
  simp only [AV.plain]
  induction cs with
  | nil=>rfl
  | cons v r ih=>
   simp only [List.all_cons,Bool.and_eq_true] at h
   simp only [plainAll,Bool.and_eq_true]
   exact ⟨one h.1,ih h.2⟩
 | _=>exact one h
def MpRel (g:Gh) (w:World) (b:Nat) (es:List (AV×AV×Nat)) (clock:Nat):Prop:=
 ∃ents:Array MapEntry,w.heap[b]?=some (.map ents clock)∧ents.size=es.length∧ ∀(i:Nat) (e:AV×AV×Nat) (m:MapEntry),es[i]?=some e→ents[i]?=some m→(keyAV e.1=true∧Rd g w e.1 m.key)∧(valOk e.2.1=true∧Rd g w e.2.1 m.val)∧m.born=e.2.2∧m.born<clock
def ItRel (g:Gh) (w:World) (k:Nat) (o:ItB) (b:Nat):Prop:=
 match o with
 | .str s pos=>w.heap[b]?=some (.stringIter ⟨s.toArray⟩ pos)
 | .map m seen clock=>m<k∧ ∃bm,g.e m= .mp bm∧w.heap[b]?=some (.mapIter (some bm) clock seen.toArray clock)
omit [Kn] in
theorem ItRel.lt {g:Gh} {w:World} {k b:Nat} {o:ItB} (h:ItRel g w k o b):b<w.heap.size:=by
 have one: ∀{o:Obj},w.heap[b]?=some o→b<w.heap.size:=fun {o} h=>by
  rcases Nat.lt_or_ge b w.heap.size with h' | h'
  ·exact h'
  ·rw [Array.getElem?_eq_none h'] at h;cases h
 cases o with
 | str s pos=>exact one h
 | map m seen clock=>obtain ⟨_,bm,_,h3⟩:=h;exact one h3
omit [Kn] in
theorem ItRel.mono {g g':Gh} {w w':World} {k b:Nat} {o:ItB} (hg: ∀j c,j<k→g.e j= .mp c→g'.e j= .mp c) (hh:w'.heap[b]?=w.heap[b]?) (h:ItRel g w k o b):ItRel g' w' k o b:=by
 cases o with
 | str s pos=>exact hh.trans h
 | map m seen clock=>
  obtain ⟨h1,bm,h2,h3⟩:=h
  exact ⟨h1,bm,hg _ _ h1 h2,hh.trans h3⟩
omit [Kn] in
theorem le_mp {x y:GE} {b:Nat} (h:GE.le x y) (hx:x= .mp b):y= .mp b:=by
 subst hx
 cases h
 rfl
omit [Kn] in
theorem ItRel.le {g g':Gh} {w w':World} {k b:Nat} {o:ItB} (hl:Le g w g' w') (hh:w'.heap[b]?=w.heap[b]?) (h:ItRel g w k o b):ItRel g' w' k o b:=
 h.mono (fun j _ _ hj=>le_mp (hl.e j) hj) hh
structure Mem (g:Gh) (bs:List Box) (w:World):Prop where
 no: ∀k,Box.at bs k= .dead→g.e k= .no
 var: ∀k ty cs,Box.at bs k= .var ty cs→ ∃b,g.e k= .var b∧VarRel g w ty b cs
 sl: ∀k sh sz es,Box.at bs k= .sl sh sz es→ ∃loc,g.e k= .sl es.length sz loc∧SlRel g w sh sz es loc
 loop: ∀k st,Box.at bs k= .loop st→ ∃b r,g.e k= .loop b r∧w.heap[b]?=some (.loop (st.record r))
 mp: ∀k es clock,Box.at bs k= .mp es clock→ ∃b,g.e k= .mp b∧MpRel g w b es clock
 gone: ∀k,Box.at bs k= .gone→ ∃m sz,g.e k= .sl m sz none
 it: ∀k o,Box.at bs k= .iter o→ ∃b,g.e k= .mp b∧ItRel g w k o b
 inj: ∀k l b,(g.e k).blk=some b→(g.e l).blk=some b→k=l
 stab: ∀b o,g.S b o→b<w.heap.size∧ ∀k,(g.e k).blk=some b→ ∃ty sz es,Box.at bs k= .sl ⟨true,ty,none⟩ sz es∧o<es.length*sz
 kn: ∀p∈Kn.ks,w.heap[p.1]?=some p.2∧ ∀k,(g.e k).blk≠some p.1
theorem lt_of_row {w:World} {b:Nat} {o:Obj} (h:w.heap[b]?=some o):b<w.heap.size:=by
 rcases Nat.lt_or_ge b w.heap.size with h' | h'
 ·exact h'
 ·rw [Array.getElem?_eq_none h'] at h;cases h
theorem Mem.blk_lt {g:Gh} {bs:List Box} {w:World} (h:Mem g bs w) {k b:Nat} (hb:(g.e k).blk=some b):b<w.heap.size:=by
 cases hk:Box.at bs k with
 | dead=>rw [h.no k hk] at hb;cases hb
 | var ty cs=>
  obtain ⟨b',he,c,hh,_⟩:=h.var k ty cs hk
  rw [he] at hb;simp only [GE.blk,Option.some.injEq] at hb;subst hb
  exact lt_of_row hh
 | sl sh sz es=>
  obtain ⟨loc,he,_,hr⟩:=h.sl k sh sz es hk
  rw [he] at hb
  cases loc with
  | none=>cases hb
  | some p=>
   obtain ⟨b',cap⟩:=p
   obtain ⟨c,ty,fz,hh,_⟩:=hr
   simp only [GE.blk,Option.map_some,Option.some.injEq] at hb;subst hb
   exact lt_of_row hh
 | loop st=>
  obtain ⟨b',r,he,hh⟩:=h.loop k st hk
  rw [he] at hb;simp only [GE.blk,Option.some.injEq] at hb;subst hb
  exact lt_of_row hh
 | mp es clock=>
  obtain ⟨b',he,ents,hh,_⟩:=h.mp k es clock hk
  rw [he] at hb;simp only [GE.blk,Option.some.injEq] at hb;subst hb
  exact lt_of_row hh
 | gone=>
  obtain ⟨m,sz,he⟩:=h.gone k hk
  rw [he] at hb;cases hb
 | iter o=>
  obtain ⟨b',he,hh⟩:=h.it k o hk
  rw [he] at hb;simp only [GE.blk,Option.some.injEq] at hb;subst hb
  exact hh.lt
structure Fr (g:Gh) (w:World) (g':Gh) (w':World):Prop where
 size:w.heap.size≤w'.heap.size
 frame: ∀b,b<w.heap.size→(∀k,(g.e k).blk≠some b)→w'.heap[b]?=w.heap[b]?∧(∀k,(g'.e k).blk≠some b)∧ ∀o,g'.S b o→g.S b o
 os:w'.os=w.os
 tape:w'.tape=w.tape
 output:w'.output=w.output
theorem Mem.knFr {g g':Gh} {bs:List Box} {w w':World} (h:Mem g bs w) (hf:Fr g w g' w'): ∀p∈Kn.ks,w'.heap[p.1]?=some p.2∧ ∀k,(g'.e k).blk≠some p.1:=fun p hp=>by
 obtain ⟨h1,h2⟩:=h.kn p hp
 obtain ⟨k1,k2,_⟩:=hf.frame p.1 (lt_of_row h1) h2
 exact ⟨k1.trans h1,k2⟩
theorem Mem.knHold {g g':Gh} {bs:List Box} {w w':World} (h:Mem g bs w) (hold: ∀b,b<w.heap.size→w'.heap[b]?=w.heap[b]?) (hk: ∀k b,(g'.e k).blk=some b→(g.e k).blk=some b∨w.heap.size≤b): ∀p∈Kn.ks,w'.heap[p.1]?=some p.2∧ ∀k,(g'.e k).blk≠some p.1:=fun p hp=>by
 obtain ⟨h1,h2⟩:=h.kn p hp
 have hlt:=lt_of_row h1
 refine ⟨(hold _ hlt).trans h1,fun k hb=> ?_⟩
 rcases hk k _ hb with h3 | h3
 ·exact h2 k h3
 ·omega
theorem Fr.refl (g:Gh) (w:World):Fr g w g w:=⟨Nat.le_refl _,fun _ _ h=>⟨rfl,h,fun _ h=>h⟩,rfl,rfl,rfl⟩
theorem Fr.trans {g1 g2 g3:Gh} {w1 w2 w3:World} (h:Fr g1 w1 g2 w2) (k:Fr g2 w2 g3 w3):Fr g1 w1 g3 w3:=
 ⟨Nat.le_trans h.size k.size,fun b hb hn=>
  let ⟨e1,n1,s1⟩:=h.frame b hb hn
  let ⟨e2,n2,s2⟩:=k.frame b (Nat.lt_of_lt_of_le hb h.size) n1
  ⟨e2.trans e1,n2,fun o ho=>s1 o (s2 o ho)⟩,k.os.trans h.os,k.tape.trans h.tape,k.output.trans h.output⟩
theorem VarRel.mono {g g':Gh} {w w':World} {ty:TypeId} {b:Nat} {cs:List AV} (hl:Le g w g' w') (hh:w'.heap[b]?=w.heap[b]?) (h:VarRel g w ty b cs):VarRel g' w' ty b cs:=
 let ⟨c,h1,h2,h4⟩:=h
 ⟨c,hh.trans h1,h2,fun j x v hx hv=>(h4 j x v hx hv).mono hl⟩
theorem MpRel.mono {g g':Gh} {w w':World} {b:Nat} {es:List (AV×AV×Nat)} {clock:Nat} (hl:Le g w g' w') (hh:w'.heap[b]?=w.heap[b]?) (h:MpRel g w b es clock):MpRel g' w' b es clock:=
 let ⟨ents,h1,h2,h3⟩:=h
 ⟨ents,hh.trans h1,h2,fun i e m he hm=>let ⟨⟨k1,k2⟩,⟨k3,k4⟩,k5⟩:=h3 i e m he hm;⟨⟨k1,k2.mono hl⟩,⟨k3,k4.mono hl⟩,k5⟩⟩
theorem SlRel.mono {g g':Gh} {w w':World} {sh:Hd} {sz:Nat} {es:List AV} {loc:Option (Nat×Nat)} (hl:Le g w g' w') (hh: ∀p,loc=some p→w'.heap[p.1]?=w.heap[p.1]?) (h:SlRel g w sh sz es loc):SlRel g' w' sh sz es loc:=by
 refine ⟨h.1,?_⟩
 cases loc with
 | none=>exact h.2
 | some p=>
  obtain ⟨b,cap⟩:=p
  obtain ⟨c,ty,fz,h1,h2,h3,h4,h5,h6,h7⟩:=h.2
  exact ⟨c,ty,fz,(hh _ rfl).trans h1,h2,h3,h4,fun i j e x v he hx hv=>⟨(h5 i j e x v he hx hv).1.mono hl,(h5 i j e x v he hx hv).2⟩,fun hs o ho=>hl.S _ _ (h6 hs o ho),fun i j k' n hk v hv hi=>(h7 i j k' n hk v hv hi).mono hl⟩
omit [Kn] in
theorem at_set (bs:List Box) (k:Nat) (x:Box) (hk:k<bs.length) (j:Nat):Box.at (bs.set k x) j=if k=j then x else Box.at bs j:=by
 simp only [Box.at,List.getD_eq_getElem?_getD,List.getElem?_set]
 split
 ·rename_i h;subst h;first | simp | simp [hk]
 ·rfl
omit [Kn] in
theorem at_lt {bs:List Box} {k:Nat} (h:Box.at bs k≠ .dead):k<bs.length:=by
 rcases Nat.lt_or_ge k bs.length with h' | h'
 ·exact h'
 ·simp [Box.at,List.getD_eq_getElem?_getD,List.getElem?_eq_none h'] at h
def Gh.put (g:Gh) (k:Nat) (x:GE):Gh:={S:=g.S,e:=fun j=>if k=j then x else g.e j}
theorem Gh.put_same (g:Gh) (k:Nat) (x:GE):(g.put k x).e k=x:=by simp [Gh.put]
theorem Gh.put_other (g:Gh) {k j:Nat} (x:GE) (h:k≠j):(g.put k x).e j=g.e j:=by simp [Gh.put,h]
theorem le_put {g:Gh} {w w':World} {k:Nat} {x:GE} (hx:GE.le (g.e k) x) (hc: ∀b o,g.S b o→w'.cell? ⟨b,o,none⟩=w.cell? ⟨b,o,none⟩):Le g w (g.put k x) w':=
 ⟨fun _ _ h=>h,hc,fun j=>by
  by_cases h:k=j
  ·subst h;rw [Gh.put_same];exact hx
  ·rw [Gh.put_other _ _ h];exact .same _⟩
theorem alloc_old (w:World) (o:Obj) {b:Nat} (h:b<w.heap.size):(w.alloc o).heap[b]?=w.heap[b]?:=by
 show (w.heap.push o)[b]?=_
 rw [Array.getElem?_push,if_neg (Nat.ne_of_lt h)]
theorem alloc_new (w:World) (o:Obj):(w.alloc o).heap[w.heap.size]?=some o:=by
 show (w.heap.push o)[w.heap.size]?=_
 simp
theorem cell_of_block {w w':World} {b:Nat} (h:w'.heap[b]?=w.heap[b]?) (o:Nat):w'.cell? ⟨b,o,none⟩=w.cell? ⟨b,o,none⟩:=by
 simp [World.cell?,h]
theorem Mem.new {g:Gh} {bs:List Box} {w w':World} {id:Nat} {x:Box} {ge:GE} (h:Mem g bs w) (hid:id<bs.length) (hd:Box.at bs id= .dead)
  (hold: ∀b,b<w.heap.size→w'.heap[b]?=w.heap[b]?) (hsz:w.heap.size≤w'.heap.size) (hblk: ∀b,ge.blk=some b→w.heap.size≤b)
  (hx:x≠ .dead) (hv: ∀ty cs,x= .var ty cs→ ∃b,ge= .var b∧VarRel (g.put id ge) w' ty b cs)
  (hs: ∀sh sz es,x= .sl sh sz es→ ∃loc,ge= .sl es.length sz loc∧SlRel (g.put id ge) w' sh sz es loc)
  (hlo: ∀st,x= .loop st→ ∃b r,ge= .loop b r∧w'.heap[b]?=some (.loop (st.record r)):=by intro _ h;cases h)
  (hmp: ∀es clock,x= .mp es clock→ ∃b,ge= .mp b∧MpRel (g.put id ge) w' b es clock:=by intro _ _ h;cases h)
  (hgo:x= .gone→ ∃m sz,ge= .sl m sz none:=by intro h;cases h)
  (hit: ∀o,x= .iter o→ ∃b,ge= .mp b∧ItRel (g.put id ge) w' id o b:=by intro _ h;cases h):
  Mem (g.put id ge) (bs.set id x) w'∧Le g w (g.put id ge) w':=by
 have hno:=h.no id hd
 have hcell: ∀b o,g.S b o→w'.cell? ⟨b,o,none⟩=w.cell? ⟨b,o,none⟩:=fun b o hb=>cell_of_block (hold b (h.stab b o hb).1) o
 have hl:Le g w (g.put id ge) w':=le_put (by rw [hno];exact .no _) hcell
 have hblk': ∀k b,k≠id→((g.put id ge).e k).blk=some b→(g.e k).blk=some b:=fun k b hk hb=>by rwa [Gh.put_other _ _ (Ne.symm hk)] at hb
 have hkn:=h.knHold (g':=g.put id ge) hold (fun k b hb=>by
  by_cases ek:k=id
  ·subst ek;rw [Gh.put_same] at hb;exact .inr (hblk b hb)
  ·exact .inl (hblk' k b ek hb))
 refine ⟨⟨fun k hk=> ?_,fun k ty cs hk=> ?_,fun k sh sz es hk=> ?_,fun k st hk=> ?_,fun k es clock hk=> ?_,fun k hk=> ?_,fun k o hk=> ?_,fun k l b hk hl'=> ?_,fun b o hb=> ?_,hkn⟩,hl⟩
 ·rw [at_set _ _ _ hid] at hk
  by_cases e:id=k
  ·rw [if_pos e] at hk;exact absurd hk hx
  ·rw [if_neg e] at hk;rw [Gh.put_other _ _ e];exact h.no k hk
 ·rw [at_set _ _ _ hid] at hk
  by_cases e:id=k
  ·subst e;rw [if_pos rfl] at hk;rw [Gh.put_same];exact hv ty cs hk
  ·rw [if_neg e] at hk
   obtain ⟨b,he,hr⟩:=h.var k ty cs hk
   exact ⟨b,by rw [Gh.put_other _ _ e];exact he,hr.mono hl (hold b (h.blk_lt (k:=k) (by rw [he];rfl)))⟩
 ·rw [at_set _ _ _ hid] at hk
  by_cases e:id=k
  ·subst e;rw [if_pos rfl] at hk;rw [Gh.put_same];exact hs sh sz es hk
  ·rw [if_neg e] at hk
   obtain ⟨loc,he,hr⟩:=h.sl k sh sz es hk
   exact ⟨loc,by rw [Gh.put_other _ _ e];exact he,hr.mono hl (fun p hp=>hold p.1 (h.blk_lt (k:=k) (by rw [he,hp];rfl)))⟩
 ·rw [at_set _ _ _ hid] at hk
  by_cases e:id=k
  ·subst e;rw [if_pos rfl] at hk;rw [Gh.put_same];exact hlo st hk
  ·rw [if_neg e] at hk
   obtain ⟨b,r,he,hr⟩:=h.loop k st hk
   exact ⟨b,r,by rw [Gh.put_other _ _ e];exact he,(hold b (h.blk_lt (k:=k) (by rw [he];rfl))).trans hr⟩
 ·rw [at_set _ _ _ hid] at hk
  by_cases e:id=k
  ·subst e;rw [if_pos rfl] at hk;rw [Gh.put_same];exact hmp es clock hk
  ·rw [if_neg e] at hk
   obtain ⟨b,he,hr⟩:=h.mp k es clock hk
   exact ⟨b,by rw [Gh.put_other _ _ e];exact he,hr.mono hl (hold b (h.blk_lt (k:=k) (by rw [he];rfl)))⟩
 ·rw [at_set _ _ _ hid] at hk
  by_cases e:id=k
  ·subst e;rw [if_pos rfl] at hk;rw [Gh.put_same];exact hgo hk
  ·rw [if_neg e] at hk;rw [Gh.put_other _ _ e];exact h.gone k hk
 ·rw [at_set _ _ _ hid] at hk
  by_cases e:id=k
  ·subst e;rw [if_pos rfl] at hk;rw [Gh.put_same];exact hit o hk
  ·rw [if_neg e] at hk
   obtain ⟨b,he,hr⟩:=h.it k o hk
   exact ⟨b,by rw [Gh.put_other _ _ e];exact he,hr.le hl (hold b (h.blk_lt (k:=k) (by rw [he];rfl)))⟩
 ·by_cases ek:k=id <;> by_cases el:l=id
  ·rw [ek,el]
  ·subst ek;rw [Gh.put_same] at hk
   have:=hblk b hk
   have:=h.blk_lt (hblk' l b el hl')
   omega
  ·subst el;rw [Gh.put_same] at hl'
   have:=hblk b hl'
   have:=h.blk_lt (hblk' k b ek hk)
   omega
  ·exact h.inj k l b (hblk' k b ek hk) (hblk' l b el hl')
 ·obtain ⟨h1,h2⟩:=h.stab b o hb
  refine ⟨Nat.lt_of_lt_of_le h1 hsz,fun k hk=> ?_⟩
  by_cases ek:k=id
  ·subst ek;rw [Gh.put_same] at hk
   have:=hblk b hk
   omega
  ·obtain ⟨ty,sz,es,he,ho⟩:=h2 k (hblk' k b ek hk)
   exact ⟨ty,sz,es,by rw [at_set _ _ _ hid,if_neg (Ne.symm ek)];exact he,ho⟩
theorem Fr.new {g:Gh} {w w':World} {id:Nat} {ge:GE} (hsz:w.heap.size≤w'.heap.size) (hold: ∀b,b<w.heap.size→w'.heap[b]?=w.heap[b]?) (hblk: ∀b,ge.blk=some b→w.heap.size≤b)
  (hos:w'.os=w.os) (ht:w'.tape=w.tape) (ho:w'.output=w.output):Fr g w (g.put id ge) w':=
 ⟨hsz,fun b hb hn=>⟨hold b hb,fun k hk=>by
  by_cases e:id=k
  ·subst e;rw [Gh.put_same] at hk;have:=hblk b hk;omega
  ·rw [Gh.put_other _ _ e] at hk;exact hn k hk,fun _ h=>h⟩,hos,ht,ho⟩
def Gh.put2 (g:Gh) (k:Nat) (x:GE) (S':Nat→Nat→Prop):Gh:={S:=S',e:=fun j=>if k=j then x else g.e j}
theorem Gh.put2_same (g:Gh) (k:Nat) (x:GE) (S':Nat→Nat→Prop):(g.put2 k x S').e k=x:=by simp [Gh.put2]
theorem Gh.put2_other (g:Gh) {k j:Nat} (x:GE) (S':Nat→Nat→Prop) (h:k≠j):(g.put2 k x S').e j=g.e j:=by simp [Gh.put2,h]
theorem Mem.upd {g:Gh} {bs:List Box} {w w':World} {id:Nat} {x:Box} {ge:GE} {S':Nat→Nat→Prop} (h:Mem g bs w) (hid:id<bs.length)
  (hS: ∀b o,g.S b o→S' b o) (hcell: ∀b o,g.S b o→w'.cell? ⟨b,o,none⟩=w.cell? ⟨b,o,none⟩) (hge:GE.le (g.e id) ge)
  (hold: ∀b,b<w.heap.size→(g.e id).blk≠some b→w'.heap[b]?=w.heap[b]?) (hsz:w.heap.size≤w'.heap.size) (hblk: ∀b,ge.blk=some b→(g.e id).blk=some b∨w.heap.size≤b)
  (hx:x≠ .dead) (hv: ∀ty cs,x= .var ty cs→ ∃b,ge= .var b∧VarRel (g.put2 id ge S') w' ty b cs)
  (hs: ∀sh sz es,x= .sl sh sz es→ ∃loc,ge= .sl es.length sz loc∧SlRel (g.put2 id ge S') w' sh sz es loc)
  (hn: ∀b o,S' b o→g.S b o∨(b<w'.heap.size∧ge.blk=some b)) (ho: ∀b o,S' b o→ge.blk=some b→ ∃ty sz es,x= .sl ⟨true,ty,none⟩ sz es∧o<es.length*sz)
  (hos:w'.os=w.os) (ht:w'.tape=w.tape) (hou:w'.output=w.output)
  (hlo: ∀st,x= .loop st→ ∃b r,ge= .loop b r∧w'.heap[b]?=some (.loop (st.record r)):=by intro _ h;cases h)
  (hmp: ∀es clock,x= .mp es clock→ ∃b,ge= .mp b∧MpRel (g.put2 id ge S') w' b es clock:=by intro _ _ h;cases h)
  (hgo:x= .gone→ ∃m sz,ge= .sl m sz none:=by intro h;cases h)
  (hit: ∀o,x= .iter o→ ∃b,ge= .mp b∧ItRel (g.put2 id ge S') w' id o b:=by intro _ h;cases h):
  Mem (g.put2 id ge S') (bs.set id x) w'∧Le g w (g.put2 id ge S') w'∧Fr g w (g.put2 id ge S') w':=by
 have hl:Le g w (g.put2 id ge S') w':=⟨hS,hcell,fun j=>by
  by_cases e:id=j
  ·subst e;rw [Gh.put2_same];exact hge
  ·rw [Gh.put2_other _ _ _ e];exact .same _⟩
 have hblk': ∀k b,k≠id→((g.put2 id ge S').e k).blk=some b→(g.e k).blk=some b:=fun k b hk hb=>by rwa [Gh.put2_other _ _ _ (Ne.symm hk)] at hb
 have hoth: ∀k b,k≠id→(g.e k).blk=some b→w'.heap[b]?=w.heap[b]?:=fun k b hk hb=>hold b (h.blk_lt hb) (fun e=>hk (h.inj k id b hb e))
 have hkn: ∀p∈Kn.ks,w'.heap[p.1]?=some p.2∧ ∀k,((g.put2 id ge S').e k).blk≠some p.1:=fun p hp=>by
  obtain ⟨h1,h2⟩:=h.kn p hp
  have hlt:=lt_of_row h1
  refine ⟨(hold _ hlt (h2 id)).trans h1,fun k hb=> ?_⟩
  by_cases ek:k=id
  ·subst ek;rw [Gh.put2_same] at hb
   rcases hblk _ hb with h3 | h3
   ·exact h2 k h3
   ·omega
  ·exact h2 k (hblk' k _ ek hb)
 refine ⟨⟨fun k hk=> ?_,fun k ty cs hk=> ?_,fun k sh sz es hk=> ?_,fun k st hk=> ?_,fun k es clock hk=> ?_,fun k hk=> ?_,fun k o hk=> ?_,fun k l b hk hl'=> ?_,fun b o hb=> ?_,hkn⟩,hl,⟨hsz,fun b hb hne=>⟨hold b hb (hne id),fun k hk=> ?_,fun o hb'=> ?_⟩,hos,ht,hou⟩⟩
 ·rw [at_set _ _ _ hid] at hk
  by_cases e:id=k
  ·rw [if_pos e] at hk;exact absurd hk hx
  ·rw [if_neg e] at hk;rw [Gh.put2_other _ _ _ e];exact h.no k hk
 ·rw [at_set _ _ _ hid] at hk
  by_cases e:id=k
  ·subst e;rw [if_pos rfl] at hk;rw [Gh.put2_same];exact hv ty cs hk
  ·rw [if_neg e] at hk
   obtain ⟨b,he,hr⟩:=h.var k ty cs hk
   exact ⟨b,by rw [Gh.put2_other _ _ _ e];exact he,hr.mono hl (hoth k b (Ne.symm e) (by rw [he];rfl))⟩
 ·rw [at_set _ _ _ hid] at hk
  by_cases e:id=k
  ·subst e;rw [if_pos rfl] at hk;rw [Gh.put2_same];exact hs sh sz es hk
  ·rw [if_neg e] at hk
   obtain ⟨loc,he,hr⟩:=h.sl k sh sz es hk
   exact ⟨loc,by rw [Gh.put2_other _ _ _ e];exact he,hr.mono hl (fun p hp=>hoth k p.1 (Ne.symm e) (by rw [he,hp];rfl))⟩
 ·rw [at_set _ _ _ hid] at hk
  by_cases e:id=k
  ·subst e;rw [if_pos rfl] at hk;rw [Gh.put2_same];exact hlo st hk
  ·rw [if_neg e] at hk
   obtain ⟨b,r,he,hr⟩:=h.loop k st hk
   exact ⟨b,r,by rw [Gh.put2_other _ _ _ e];exact he,(hoth k b (Ne.symm e) (by rw [he];rfl)).trans hr⟩
 ·rw [at_set _ _ _ hid] at hk
  by_cases e:id=k
  ·subst e;rw [if_pos rfl] at hk;rw [Gh.put2_same];exact hmp es clock hk
  ·rw [if_neg e] at hk
   obtain ⟨b,he,hr⟩:=h.mp k es clock hk
   exact ⟨b,by rw [Gh.put2_other _ _ _ e];exact he,hr.mono hl (hoth k b (Ne.symm e) (by rw [he];rfl))⟩
 ·rw [at_set _ _ _ hid] at hk
  by_cases e:id=k
  ·subst e;rw [if_pos rfl] at hk;rw [Gh.put2_same];exact hgo hk
  ·rw [if_neg e] at hk;rw [Gh.put2_other _ _ _ e];exact h.gone k hk
 ·rw [at_set _ _ _ hid] at hk
  by_cases e:id=k
  ·subst e;rw [if_pos rfl] at hk;rw [Gh.put2_same];exact hit o hk
  ·rw [if_neg e] at hk
   obtain ⟨b,he,hr⟩:=h.it k o hk
   exact ⟨b,by rw [Gh.put2_other _ _ _ e];exact he,hr.le hl (hoth k b (Ne.symm e) (by rw [he];rfl))⟩
 ·by_cases ek:k=id <;> by_cases el:l=id
  ·rw [ek,el]
  ·subst ek;rw [Gh.put2_same] at hk
   have h1:=hblk' l b el hl'
   rcases hblk b hk with h2 | h2
   ·exact h.inj k l b h2 h1
   ·have:=h.blk_lt h1;omega
  ·subst el;rw [Gh.put2_same] at hl'
   have h1:=hblk' k b ek hk
   rcases hblk b hl' with h2 | h2
   ·exact h.inj k l b h1 h2
   ·have:=h.blk_lt h1;omega
  ·exact h.inj k l b (hblk' k b ek hk) (hblk' l b el hl')
 ·have hlt:b<w'.heap.size:=by
   rcases hn b o hb with h1 | ⟨h1,_⟩
   ·exact Nat.lt_of_lt_of_le (h.stab b o h1).1 hsz
   ·exact h1
  refine ⟨hlt,fun k hk=> ?_⟩
  by_cases ek:k=id
  ·subst ek;rw [Gh.put2_same] at hk
   obtain ⟨ty,sz,es,h1,h2⟩:=ho b o hb hk
   exact ⟨ty,sz,es,by rw [at_set _ _ _ hid,if_pos rfl];exact h1,h2⟩
  ·have h1:=hblk' k b ek hk
   rcases hn b o hb with h2 | ⟨_,h2⟩
   ·obtain ⟨ty,sz,es,he,ho'⟩:=(h.stab b o h2).2 k h1
    exact ⟨ty,sz,es,by rw [at_set _ _ _ hid,if_neg (Ne.symm ek)];exact he,ho'⟩
   ·rcases hblk b h2 with h3 | h3
    ·exact absurd (h.inj k id b h1 h3) ek
    ·have:=h.blk_lt h1;omega
 ·by_cases e:k=id
  ·subst e;rw [Gh.put2_same] at hk
   rcases hblk b hk with h1 | h1
   ·exact hne k h1
   ·omega
  ·exact hne k (hblk' k b e hk)
 ·rcases hn b o hb' with h1 | ⟨_,h1⟩
  ·exact h1
  ·rcases hblk b h1 with h2 | h2
   ·exact absurd h2 (hne id)
   ·omega
theorem Mem.adopt {g:Gh} {bs:List Box} {w:World} {id:Nat} {sh:Hd} {sz:Nat} {es:List AV} {b cap:Nat} (h:Mem g bs w) (hid:id<bs.length) (hd:Box.at bs id= .dead)
  (hb:b<w.heap.size) (hno: ∀k,(g.e k).blk≠some b) (hS: ∀o,¬ g.S b o) (hk: ∀p∈Kn.ks,p.1≠b)
  (hs:SlRel (g.put id (.sl es.length sz (some (b,cap)))) w sh sz es (some (b,cap))):
  Mem (g.put id (.sl es.length sz (some (b,cap)))) (bs.set id (.sl sh sz es)) w∧Le g w (g.put id (.sl es.length sz (some (b,cap)))) w:=by
 have hl:Le g w (g.put id (.sl es.length sz (some (b,cap)))) w:=le_put (by rw [h.no id hd];exact .no _) (fun _ _ _=>rfl)
 have hblk': ∀k b',k≠id→((g.put id (.sl es.length sz (some (b,cap)))).e k).blk=some b'→(g.e k).blk=some b':=fun k b' hk hb=>by rwa [Gh.put_other _ _ (Ne.symm hk)] at hb
 have hmine: ∀b',((g.put id (.sl es.length sz (some (b,cap)))).e id).blk=some b'→b=b':=fun b' hb'=>by rw [Gh.put_same] at hb';simpa [GE.blk] using hb'
 refine ⟨⟨fun k hk=> ?_,fun k ty cs hk=> ?_,fun k sh' sz' es' hk=> ?_,fun k st hk=> ?_,fun k es' clock hk=> ?_,fun k hk=> ?_,fun k o hk=> ?_,fun k l b' hk hl'=> ?_,fun b' o hb'=> ?_,fun p hp=>⟨(h.kn p hp).1,fun k hk'=> ?_⟩⟩,hl⟩
 ·rw [at_set _ _ _ hid] at hk
  by_cases e:id=k
  ·rw [if_pos e] at hk;cases hk
  ·rw [if_neg e] at hk;rw [Gh.put_other _ _ e];exact h.no k hk
 ·rw [at_set _ _ _ hid] at hk
  by_cases e:id=k
  ·rw [if_pos e] at hk;cases hk
  ·rw [if_neg e] at hk
   obtain ⟨b,he,hr⟩:=h.var k ty cs hk
   exact ⟨b,by rw [Gh.put_other _ _ e];exact he,hr.mono hl rfl⟩
 ·rw [at_set _ _ _ hid] at hk
  by_cases e:id=k
  ·subst e;rw [if_pos rfl] at hk;rw [Gh.put_same];cases hk;exact ⟨_,rfl,hs⟩
  ·rw [if_neg e] at hk
   obtain ⟨loc,he,hr⟩:=h.sl k sh' sz' es' hk
   exact ⟨loc,by rw [Gh.put_other _ _ e];exact he,hr.mono hl (fun _ _=>rfl)⟩
 ·rw [at_set _ _ _ hid] at hk
  by_cases e:id=k
  ·rw [if_pos e] at hk;cases hk
  ·rw [if_neg e] at hk
   obtain ⟨b,r,he,hr⟩:=h.loop k st hk
   exact ⟨b,r,by rw [Gh.put_other _ _ e];exact he,hr⟩
 ·rw [at_set _ _ _ hid] at hk
  by_cases e:id=k
  ·rw [if_pos e] at hk;cases hk
  ·rw [if_neg e] at hk
   obtain ⟨b,he,hr⟩:=h.mp k es' clock hk
   exact ⟨b,by rw [Gh.put_other _ _ e];exact he,hr.mono hl rfl⟩
 ·rw [at_set _ _ _ hid] at hk
  by_cases e:id=k
  ·rw [if_pos e] at hk;cases hk
  ·rw [if_neg e] at hk;rw [Gh.put_other _ _ e];exact h.gone k hk
 ·rw [at_set _ _ _ hid] at hk
  by_cases e:id=k
  ·rw [if_pos e] at hk;cases hk
  ·rw [if_neg e] at hk;rw [Gh.put_other _ _ e];obtain ⟨b,h1,h2⟩:=h.it k o hk;exact ⟨b,h1,h2.le hl rfl⟩
 ·by_cases ek:k=id <;> by_cases el:l=id
  ·rw [ek,el]
  ·subst ek
   have e1:=hmine _ hk
   subst e1
   exact absurd (hblk' l _ el hl') (hno l)
  ·subst el
   have e1:=hmine _ hl'
   subst e1
   exact absurd (hblk' k _ ek hk) (hno k)
  ·exact h.inj k l b' (hblk' k b' ek hk) (hblk' l b' el hl')
 ·obtain ⟨h1,h2⟩:=h.stab b' o hb'
  refine ⟨h1,fun k hk=> ?_⟩
  by_cases ek:k=id
  ·subst ek
   have e1:=hmine _ hk
   subst e1
   exact absurd hb' (hS o)
  ·obtain ⟨ty,sz',es',he,ho⟩:=h2 k (hblk' k b' ek hk)
   exact ⟨ty,sz',es',by rw [at_set _ _ _ hid,if_neg (Ne.symm ek)];exact he,ho⟩
 ·by_cases ek:k=id
  ·subst ek
   have e1:=hmine _ hk'
   exact hk p hp e1.symm
  ·exact (h.kn p hp).2 k (hblk' k _ ek hk')
end Go.Am
