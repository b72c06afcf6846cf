/- Each operation of the abstract machine is sound, fourth part: -/
import Derived.Test.YtnlndhjfmghajaaGreatDoorAmOps3
set_option linter.all false
namespace Go.Am
variable [Kn]
section
variable {P:Program} {g:Gh} {bs:List Box} {w:World}
theorem cellsOk_get: ∀{cs:List AV} {i:Nat} {c:AV},cellsOk cs=true→cs[i]?=some c→c.isCell=true
 | [],i,c,_,h=>by cases h
 | v::r,0,c,hp,h=>by simp only [cellsOk,Bool.and_eq_true] at hp;simp at h;rw [←h];exact hp.1
 | v::r,i+1,c,hp,h=>by simp only [cellsOk,Bool.and_eq_true] at hp;simp at h;exact cellsOk_get hp.2 h
theorem Rd.cells {d:AV} {v:Value} (h:Rd g w d v) (hd:d≠ .any):v.cells.size=d.cells.length∧ ∀(j:Nat) (x:AV) (u:Value),d.cells[j]?=some x→v.cells[j]?=some u→Rd g w x u:=by
 have one: ∀{d:AV} {v:Value},Rd g w d v→d.cells= [d]→v.cells= #[v]→v.cells.size=d.cells.length∧ ∀(j:Nat) (x:AV) (u:Value),d.cells[j]?=some x→v.cells[j]?=some u→Rd g w x u:=by
  intro d v h h1 h2
  rw [h1,h2]
  refine ⟨rfl,fun j x u hx hu=> ?_⟩
  cases j with
  | zero=>simp at hx hu;subst hx;subst hu;exact h
  | succ j=>simp at hx
 cases h with
 | any=>exact absurd rfl hd
 | agg cs vs hn h=>exact ⟨hn,h⟩
 | unk v hv=>exact one (.unk v hv) rfl (by cases v <;> simp [Value.oneCell'] at hv <;> rfl)
 | sptr k n i off m sz loc v h1 h hle hv=>exact one (.sptr k n i off m sz loc v h1 h hle hv) rfl (by cases v <;> simp [Value.oneCell'] at h1 <;> rfl)
 | osl k n m sz loc v h1 h hle hv=>exact one (.osl k n m sz loc v h1 h hle hv) rfl (by cases v <;> simp [Value.oneCell'] at h1 <;> rfl)
 | osv k n lo hi m sz loc v h1 h hle hv=>exact one (.osv k n lo hi m sz loc v h1 h hle hv) rfl (by cases v <;> simp [Value.oneCell'] at h1 <;> rfl)
 | int k n=>exact one (.int k n) rfl rfl
 | bool b=>exact one (.bool b) rfl rfl
 | str s=>exact one (.str s) rfl rfl
 | tup cs vs hn h=>exact one (.tup cs vs hn h) rfl rfl
 | nilp=>exact one .nilp rfl rfl
 | ptr k off b h=>exact one (.ptr k off b h) rfl rfl
 | eptr cs b off vals hp h=>exact one (.eptr cs b off vals hp h) rfl rfl
 | lst nl sz es a cap b off vals h1 h2 h3 h4 h5 h6 h7=>exact one (.lst nl sz es a cap b off vals h1 h2 h3 h4 h5 h6 h7) rfl rfl
 | cap0 nl a h=>exact one (.cap0 nl a h) rfl rfl
 | fn f cs ds vs us h1 h2 h3 h4=>exact one (.fn f cs ds vs us h1 h2 h3 h4) rfl rfl
 | nilf=>exact one .nilf rfl rfl
 | ifc b v h=>exact one (.ifc b v h) rfl (by rcases h with ⟨_,rfl⟩ | ⟨_,_,_,rfl⟩ <;> rfl)
 | ifi t k n=>exact one (.ifi t k n) rfl rfl
 | yld k b s env r h1 h2 h3=>exact one (.yld k b s env r h1 h2 h3) rfl rfl
 | mapv k b h=>exact one (.mapv k b h) rfl rfl
 | itv k b h=>exact one (.itv k b h) rfl rfl
 | nilm=>exact one .nilm rfl rfl
theorem ne_any_of_cells {d:AV} (h:cellsOk d.cells=true):d≠ .any:=by
 rintro rfl;simp [AV.cells,cellsOk,AV.isCell] at h
theorem val_cells (v:Value):v.cells.size=(ofVal v).cells.length∧ ∀(j:Nat) (x:AV) (u:Value),(ofVal v).cells[j]?=some x→v.cells[j]?=some u→Rd g w x u:=by
 by_cases h:ofVal v= .any
 ·refine ⟨?_,fun j x u hx hu=> ?_⟩
  ·rw [h]
   cases v <;> simp [ofVal,ofCell] at h <;> first | rfl | (split at h <;> simp at h)
  ·rw [h] at hx
   cases j with
   | zero=>simp [AV.cells] at hx;subst hx;exact .any _
   | succ j=>simp [AV.cells] at hx
 ·exact (rd_val g w v).cells h
theorem new_var (hm:Mem g bs w) {id:Nat} {cs:List AV} {c:Array Value} {ty:TypeId} {r:Result Next} {bs':List Box} (he:(Eff.new (.var ty cs)).on bs id=some bs')
  (hr:r= .ok (.value (.pointer (some ⟨w.heap.size,0,none⟩))) (w.alloc (.cells c ty))) (hn:c.size=cs.length) (h: ∀(j:Nat) (x:AV) (u:Value),cs[j]?=some x→c[j]?=some u→Rd g w x u):
  OpOk r g w bs' (.ptr id 0):=by
 simp only [Eff.on] at he
 split at he
 ·rename_i hd
  cases he
  have hid:=getElem?_lt hd
  have hd':Box.at bs id= .dead:=by simp [Box.at,List.getD_eq_getElem?_getD,hd]
  have hold: ∀b,b<w.heap.size→(w.alloc (.cells c ty)).heap[b]?=w.heap[b]?:=fun b hb=>alloc_old w _ hb
  have hsz:w.heap.size≤(w.alloc (.cells c ty)).heap.size:=by simp
  have hblk: ∀b,(GE.var w.heap.size).blk=some b→w.heap.size≤b:=fun b hb=>by simp [GE.blk] at hb;omega
  have hl:Le g w (g.put id (.var w.heap.size)) (w.alloc (.cells c ty)):=le_put (by rw [hm.no id hd'];exact .no _) (fun b o hb=>cell_of_block (hold b (hm.stab b o hb).1) o)
  obtain ⟨m',l'⟩:=hm.new (x:= .var ty cs) (ge:= .var w.heap.size) hid hd' hold hsz hblk (by simp) (fun ty' cs' hcs=>by
   cases hcs
   exact ⟨_,rfl,c,alloc_new w _,hn,fun j x v hx hv=>(h j x v hx hv).mono hl⟩) (fun sh sz es h=>by cases h)
  exact ⟨_,_,_,_,hr,.inl rfl,m',l',Fr.new hsz hold hblk rfl rfl rfl,.ptr id 0 _ (Gh.put_same _ _ _)⟩
 ·cases he
theorem more_ok (hm:Mem g bs w) {r:Result Next} {w':World} {v:Value} {d:AV} (hr:r= .ok (.value v) w') (hold: ∀b,b<w.heap.size→w'.heap[b]?=w.heap[b]?) (hsz:w.heap.size≤w'.heap.size)
  (hos:w'.os=w.os) (ht:w'.tape=w.tape) (ho:w'.output=w.output) (hd:Rd g w' d v):OpOk r g w bs d:=by
 have hl:Le g w g w':=⟨fun _ _ h=>h,fun b o hb=>cell_of_block (hold b (hm.stab b o hb).1) o,fun _=> .same _⟩
 refine ⟨_,v,w',g,hr,.inl rfl,⟨hm.no,fun k ty cs hk=> ?_,fun k sh sz es hk=> ?_,fun k st hk=> ?_,fun k es clock hk=> ?_,hm.gone,fun k o hk=> ?_,hm.inj,fun b o hs=>⟨Nat.lt_of_lt_of_le (hm.stab b o hs).1 hsz,(hm.stab b o hs).2⟩,hm.knHold hold (fun k b hb=> .inl hb)⟩,hl,⟨hsz,fun b hb hn=>⟨hold b hb,hn,fun _ h=>h⟩,hos,ht,ho⟩,hd⟩
 ·obtain ⟨b,he,hv⟩:=hm.var k ty cs hk
  exact ⟨b,he,hv.mono hl (hold b (hm.blk_lt (k:=k) (by rw [he];rfl)))⟩
 ·obtain ⟨loc,he,hs⟩:=hm.sl k sh sz es hk
  exact ⟨loc,he,hs.mono hl (fun p hp=>hold p.1 (hm.blk_lt (k:=k) (by rw [he,hp];rfl)))⟩
 ·obtain ⟨b,r,he,hs⟩:=hm.loop k st hk
  exact ⟨b,r,he,(hold b (hm.blk_lt (k:=k) (by rw [he];rfl))).trans hs⟩
 ·obtain ⟨b,he,hs⟩:=hm.mp k es clock hk
  exact ⟨b,he,hs.mono hl (hold b (hm.blk_lt (k:=k) (by rw [he];rfl)))⟩
 ·obtain ⟨b,he,hs⟩:=hm.it k o hk
  exact ⟨b,he,hs.le hl (hold b (hm.blk_lt (k:=k) (by rw [he];rfl)))⟩
theorem new_sl (hm:Mem g bs w) {id:Nat} {sz:Nat} {es:List AV} {c:Array Value} {ty:TypeId} {fz:Nat×Nat} {cap:Nat} {r:Result Next} {w':World} {bs':List Box} (he:(Eff.new (.sl ⟨false,some ty,none⟩ sz es)).on bs id=some bs')
  (hr:r= .ok (.value (.slice (some ⟨w.heap.size,0,none⟩) es.length cap)) w') (hold: ∀b,b<w.heap.size→w'.heap[b]?=w.heap[b]?) (hsz:w.heap.size≤w'.heap.size) (hb:w'.heap[w.heap.size]?=some (.cells c ty fz))
  (hos:w'.os=w.os) (ht:w'.tape=w.tape) (ho:w'.output=w.output) (hf:Free c fz) (hc:c.size=cap*sz) (hcap:es.length≤cap) (hc1:1≤cap)
  (hok: ∀(i:Nat) (e:AV),es[i]?=some e→e.plain=true∧e.cells.length=sz)
  (h: ∀(i j:Nat) (e x:AV) (v:Value),es[i]?=some e→e.cells[j]?=some x→c[i*sz+j]?=some v→Rd g w x v∧v.oneCell'=true):OpOk r g w bs' (.osl id es.length):=by
 simp only [Eff.on] at he
 split at he
 ·rename_i hd
  cases he
  have hid:=getElem?_lt hd
  have hd':Box.at bs id= .dead:=by simp [Box.at,List.getD_eq_getElem?_getD,hd]
  have hblk: ∀b,(GE.sl es.length sz (some (w.heap.size,cap))).blk=some b→w.heap.size≤b:=fun b hb=>by simp [GE.blk] at hb;omega
  have hl:Le g w (g.put id (.sl es.length sz (some (w.heap.size,cap)))) w':=le_put (by rw [hm.no id hd'];exact .no _) (fun b o hb=>cell_of_block (hold b (hm.stab b o hb).1) o)
  obtain ⟨m',l'⟩:=hm.new (x:= .sl ⟨false,some ty,none⟩ sz es) (ge:= .sl es.length sz (some (w.heap.size,cap))) hid hd' hold hsz hblk (by simp) (fun _ cs' hcs=>by cases hcs) (fun sh sz' es' h'=>by
   cases h'
   exact ⟨_,rfl,hok,c,ty,fz,hb,hc,by omega,fun t ht=>⟨by cases ht;rfl,hf.from _⟩,fun i j e x v a1 a2 a3=>⟨(h i j e x v a1 a2 a3).1.mono hl,(h i j e x v a1 a2 a3).2⟩,fun h=>(by cases h),fun _ _ _ _ h=>(by cases h)⟩)
  exact ⟨_,_,_,_,hr,.inl rfl,m',l',Fr.new hsz hold hblk hos ht ho,.osl id _ _ sz _ _ rfl (Gh.put_same _ _ _) (Nat.le_refl _) (fun _=> .inl ⟨_,_,rfl,rfl⟩)⟩
 ·cases he
theorem alloc_sound {c:Cfg} (hc:CfgTy c P) (hm:Mem g bs w) {t:TypeId} {id:Nat} {r:AV} {e:Eff} (h:allocA (c.ti t) t id=some (r,e)) {bs':List Box} (he:e.on bs id=some bs'):
  OpOk ((do pure (Next.value (←Instr.alloc t true (.tuple #[]))):Sem Next).run P w) g w bs' r:=by
 unfold allocA at h
 split at h
 ·rename_i i hti
  obtain ⟨info,hi⟩:=ty_is (hc.ty t i hti)
  split at h
  ·rename_i z hz
   cases h
   have hzz:=hi.zero
   rw [hz] at hzz
   cases hv:info.zero with
   | none=>rw [hv] at hzz;cases hzz
   | some v=>
    rw [hv] at hzz
    simp only [Option.map_some,Option.some.injEq] at hzz
    subst hzz
    obtain ⟨h1,h2⟩:=val_cells (g:=g) (w:=w) v
    exact new_var hm he (c:=v.cells) (ty:=t) (by simp [Instr.alloc,zeroValue,typeInfo,hi.info,hv,newVar,newRow]) h1 h2
  ·cases h
 ·cases h
theorem box_sound (hm:Mem g bs w) {t:TypeId} {id:Nat} {x r:AV} {u:Value} {e:Eff} (hx:Rd g w x u) (h:boxA t x.cells id=some (r,e)) {bs':List Box} (he:e.on bs id=some bs'):
  OpOk ((do pure (Next.value (←Instr.box t u)):Sem Next).run P w) g w bs' r:=by
 unfold boxA at h
 split at h
 ·rename_i hok
  cases h
  obtain ⟨h1,h2⟩:=hx.cells (ne_any_of_cells hok)
  exact new_var hm he (c:=u.cells) (ty:=t) (by simp [Instr.box,newVar,newRow]) h1 h2
 ·cases h
theorem foldl_put (off:Nat): ∀(l:List Value) (s:Nat) (cs:Array Value) (k:Nat),(((l.zipIdx s).foldl (fun cs p=>cs.setIfInBounds (off+p.2) p.1) cs))[k]?=
  if off+s≤k∧k<off+s+l.length∧k<cs.size then l[k-(off+s)]? else cs[k]?
 | [],s,cs,k=>by simp;omega
 | v::r,s,cs,k=>by
  simp only [List.zipIdx_cons,List.foldl_cons]
  rw [foldl_put off r (s+1) (cs.setIfInBounds (off+s) v) k]
  simp only [Array.size_setIfInBounds,List.length_cons]
  by_cases hk:k=off+s
  ·subst hk
   by_cases hlt:off+s<cs.size
   ·rw [if_neg (by omega),if_pos (by omega)]
    simp [hlt]
   ·rw [if_neg (by omega),if_neg (by omega)]
    simp [hlt]
  ·by_cases h1:off+s≤k∧k<off+s+(r.length+1)∧k<cs.size
   ·rw [if_pos (by omega),if_pos h1]
    have:k-(off+s)=(k-(off+(s+1)))+1:=by omega
    rw [this,List.getElem?_cons_succ]
   ·rw [if_neg (by omega),if_neg h1]
    exact Array.getElem?_setIfInBounds_ne (by omega)
theorem foldl_put_size (off:Nat): ∀(l:List (Value×Nat)) (cs:Array Value),(l.foldl (fun cs p=>cs.setIfInBounds (off+p.2) p.1) cs).size=cs.size
 | [],cs=>rfl
 | v::r,cs=>by simp only [List.foldl_cons];rw [foldl_put_size off r];simp
theorem fold_put (vs cs:Array Value) (off k:Nat):(vs.zipIdx.foldl (fun cs (x:Value×Nat)=>cs.setIfInBounds (off+x.2) x.1) cs)[k]?=if off≤k∧k<off+vs.size∧k<cs.size then vs[k-off]? else cs[k]?:=by
 rw [←Array.foldl_toList,Array.toList_zipIdx,foldl_put]
 simp
theorem fold_put_size (vs cs:Array Value) (off:Nat):(vs.zipIdx.foldl (fun cs (x:Value×Nat)=>cs.setIfInBounds (off+x.2) x.1) cs).size=cs.size:=by
 rw [←Array.foldl_toList,foldl_put_size]
theorem splice_get (cs v:List AV) (off k:Nat) (h:off+v.length≤cs.length):(splice cs off v)[k]?=if off≤k∧k<off+v.length then v[k-off]? else cs[k]?:=by
 unfold splice
 have h1:(cs.take off).length=off:=by simp;omega
 by_cases hk:k<off
 ·rw [if_neg (by omega),List.append_assoc,List.getElem?_append_left (by omega),List.getElem?_take,if_pos hk]
 ·by_cases hk2:k<off+v.length
  ·rw [if_pos (by omega),List.append_assoc,List.getElem?_append_right (by omega),h1,List.getElem?_append_left (by omega)]
  ·rw [if_neg (by omega),List.append_assoc,List.getElem?_append_right (by omega),h1,List.getElem?_append_right (by omega),List.getElem?_drop]
   congr 1;omega
theorem splice_length (cs v:List AV) (off:Nat) (h:off+v.length≤cs.length):(splice cs off v).length=cs.length:=by
 unfold splice;simp;omega
inductive PartsRel (g:Gh) (w:World):List (Nat×AV)→List (Nat×Value)→Prop where
 | nil:PartsRel g w [] []
 | cons {p:Nat×AV} {q:Nat×Value} {ps:List (Nat×AV)} {qs:List (Nat×Value)} (h:p.1=q.1∧Rd g w p.2 q.2) (t:PartsRel g w ps qs):PartsRel g w (p::ps) (q::qs)
theorem fill_run {placeA:Nat→Option (Nat×Nat)} {place:Nat→Option (Nat×Nat)} (hpl: ∀i p,placeA i=some p→place i=some p) {ps:List (Nat×AV)} {qs:List (Nat×Value)} (hps:PartsRel g w ps qs):
  ∀(cs:List AV) (c:Array Value) (cs':List AV),c.size=cs.length→(∀(j:Nat) (x:AV) (u:Value),cs[j]?=some x→c[j]?=some u→Rd g w x u)→fillA placeA cs ps=some cs'→
   ∃c',Instr.fill place c qs=some c'∧c'.size=cs'.length∧ ∀(j:Nat) (x:AV) (u:Value),cs'[j]?=some x→c'[j]?=some u→Rd g w x u:=by
 induction hps with
 | nil=>intro cs c cs' hn h hf;cases hf;exact ⟨c,rfl,hn,h⟩
 | @cons p q ps qs hpq _ ih=>
  intro cs c cs' hn h hf
  obtain ⟨i,x⟩:=p
  obtain ⟨i',v⟩:=q
  obtain ⟨rfl,hx⟩:=hpq
  simp only [fillA] at hf
  split at hf
  ·cases hf
  ·rename_i off size hp
   split at hf
   ·rename_i hc
    obtain ⟨h1,h2,h3⟩:=hc
    obtain ⟨k1,k2⟩:=Rd.cells hx (ne_any_of_cells h3)
    simp only at hx h1 h3 k1 k2 hf
    have hlen:off+x.cells.length≤cs.length:=by omega
    obtain ⟨c',q1,q2,q3⟩:=ih (splice cs off x.cells) (v.cells.zipIdx.foldl (fun cs (p:Value×Nat)=>cs.setIfInBounds (off+p.2) p.1) c) cs' (by rw [fold_put_size,splice_length _ _ _ hlen,hn])
     (fun j y u hy hu=>by
      rw [splice_get _ _ _ _ hlen] at hy
      rw [fold_put] at hu
      by_cases hj:off≤j∧j<off+x.cells.length
      ·rw [if_pos hj] at hy
       rw [if_pos (by omega)] at hu
       exact k2 _ _ _ hy hu
      ·rw [if_neg hj] at hy
       rw [if_neg (by omega)] at hu
       exact h j y u hy hu) hf
    refine ⟨c',?_,q2,q3⟩
    simp only [Instr.fill,hpl _ _ hp]
    rw [if_neg (by simp;omega)]
    exact q1
   ·cases hf
theorem parts_rel {t:Env} {a:Act} (ht:TRel g w t a): ∀(l:List (Nat×Operand)),PartsRel g w (l.map fun p=>(p.1,ev t p.2)) (l.map fun p=>(p.1,a.eval p.2))
 | []=> .nil
 | p::r=> .cons ⟨rfl,ht.ev p.2⟩ (parts_rel ht r)
theorem places_run (w:World): ∀(fs:List Field),(∀f∈fs,∃i,P.info? f.type=some i)→(fs.mapM fun f=>do pure (f.offset,←sizeOf f.type):Sem (List (Nat×Nat))).run P w= .ok (fs.map fun f=>(f.offset,((P.info? f.type).map (·.size)).getD 0)) w
 | [],_=>rfl
 | f::fs,h=>by
  obtain ⟨i,hi⟩:=h f List.mem_cons_self
  have ih:=places_run w fs (fun f hf=>h f (List.mem_cons_of_mem _ hf))
  simp only [List.mapM_cons,Sem.run_bind,sizeOf,typeInfo,run_program,Result.andThen_ok,hi,Sem.run_pure,List.map_cons,Option.map_some,Option.getD_some] at ih⊢
  rw [ih]
  rfl
theorem build_sound {c:Cfg} (hc:CfgTy c P) (hm:Mem g bs w) {t:TypeId} {ps:List (Nat×AV)} {qs:Array (Nat×Value)} {r:AV} {e:Eff} (hps:PartsRel g w ps qs.toList) (h:buildA c (c.ti t) ps=some (r,e)):
  e= .none∧OpOk ((do pure (Next.value (←Instr.build t qs)):Sem Next).run P w) g w bs r:=by
 unfold buildA at h
 split at h
 ·rename_i i hti
  obtain ⟨info,hi⟩:=ty_is (hc.ty t i hti)
  split at h
  ·rename_i z hz
   have hzz:=hi.zero
   rw [hz] at hzz
   cases hv:info.zero with
   | none=>rw [hv] at hzz;cases hzz
   | some v=>
    rw [hv] at hzz
    simp only [Option.map_some,Option.some.injEq] at hzz
    subst hzz
    obtain ⟨h1,h2⟩:=val_cells (g:=g) (w:=w) v
    split at h
    ·rename_i fs hdesc
     cases hf:fillA (placeF i.fields) (ofVal v).cells ps with
     | none=>rw [hf] at h;cases h
     | some cs=>
      rw [hf] at h;cases h
      have hall: ∀f∈fs.toList,∃i,P.info? f.type=some i:=fun f hf=>by
       have:=hi.fok
       rw [hdesc] at this
       simp only [fieldsOk,List.all_eq_true] at this
       exact Option.isSome_iff_exists.1 (this f hf)
      obtain ⟨c',q1,q2,q3⟩:=fill_run (place:=fun k=>(fs.toList.map fun f=>(f.offset,((P.info? f.type).map (·.size)).getD 0)).toArray[k]?) (fun k p hp=>by
       rw [placeF,hi.fields,hdesc] at hp
       simp only [fieldsOf,List.getElem?_map] at hp
       simp only [List.getElem?_toArray,List.getElem?_map]
       cases hk:fs.toList[k]? with
       | none=>rw [hk] at hp;cases hp
       | some f=>rw [hk] at hp;simpa using hp) hps _ _ _ h1 h2 hf
      refine ⟨rfl,.pure (v:= .agg c') ?_ hm (.agg _ _ q2 q3)⟩
      simp only [Instr.build,zeroValue,typeInfo,Sem.run_bind,run_program,Result.andThen_ok,hi.info,Sem.run_pure,hv,run_underlying (hdesc▸hi.und),Array.mapM_eq_mapM_toList,Sem.run_map,places_run w _ hall,q1]
    ·rename_i n el hdesc
     split at h
     ·rename_i j hj
      obtain ⟨einfo,hej⟩:=ty_is (hc.ty el j hj)
      cases hf:fillA (placeE j.size) (ofVal v).cells ps with
      | none=>rw [hf] at h;cases h
      | some cs=>
       rw [hf] at h;cases h
       obtain ⟨c',q1,q2,q3⟩:=fill_run (place:=fun i=>some (i*j.size,j.size)) (fun i p hp=>by simpa [placeE] using hp) hps _ _ _ h1 h2 hf
       refine ⟨rfl,.pure (v:= .agg c') ?_ hm (.agg _ _ q2 q3)⟩
       simp [Instr.build,zeroValue,typeInfo,hi.info,hv,run_underlying (hdesc▸hi.und),sizeOf,hej.info,hej.size,q1]
     ·cases h
    ·cases h
  ·cases h
 ·cases h
end
end Go.Am
