/- Each operation of the abstract machine is sound, seventh part: -/
import Derived.Test.YtnlndhjfmghajaaGreatDoorAmOps6
set_option linter.all false
namespace Go.Am
variable [Kn]
section
variable {P:Program} {g:Gh} {bs:List Box} {w:World}
structure Src (P:Program) (g:Gh) (w:World) (size:Nat) (xs:List AV) (x:Value) (news:List Value):Prop where
 len: ∀W:World,(Builtin.lenOf x).run P W= .ok xs.length W
 first: ∀W:World,(∀a,W.cell? a=w.cell? a)→(Builtin.firstCells size xs.length x).run P W= .ok news.toArray W
 sizes:news.length=xs.length*size
 row:RowOf g w size xs news.toArray
 one: ∀v∈news,v.oneCell'=true
 ok:ElOk size xs
theorem src_slice {sz size:Nat} {xs:List AV} {a:Option Addr} {cap:Nat} (hel:ElemsAt g w sz xs a cap) (hsz:sz=size∨xs= []): ∃news,Src P g w size xs (.slice a xs.length cap) news:=by
 by_cases hne:xs= []
 ·subst hne
  refine ⟨[],fun W=>rfl,fun W _=> ?_,by simp,fun i j e x v he=>by simp at he,fun v hv=>by simp at hv,fun i e he=>by simp at he⟩
  cases a <;> simp [Builtin.firstCells,loadCells,loadCellsFrom]
 ·obtain rfl:sz=size:=hsz.resolve_right hne
  obtain ⟨b,off,rfl,hcs⟩:=hel.at_ hne
  have hex: ∀k,k<xs.length*sz→ ∃v,w.cell? ⟨b,off+k,none⟩=some v∧v.oneCell'=true∧ ∀(i j:Nat) (e x:AV),k=i*sz+j→xs[i]?=some e→e.cells[j]?=some x→Rd g w x v:=fun k hk=>by
   have hpos:0<sz:=by
    rcases Nat.eq_zero_or_pos sz with h | h
    ·rw [h] at hk;simp at hk
    ·exact h
   have hi:k / sz<xs.length:=(Nat.div_lt_iff_lt_mul hpos).2 hk
   have hj:k%sz<sz:=Nat.mod_lt _ hpos
   obtain ⟨e0,hee⟩: ∃e0,xs[k / sz]?=some e0:=⟨xs[k / sz],by simp [hi]⟩
   have hcl:=(hel.ok _ _ hee).2
   obtain ⟨x0,hxx⟩: ∃x0,e0.cells[k%sz]?=some x0:=⟨e0.cells[k%sz]'(by omega),by simp [hcl,hj]⟩
   obtain ⟨v,hv,rv,ov⟩:=hcs _ _ hee _ _ hxx
   have hk2:k / sz*sz+k%sz=k:=by rw [Nat.mul_comm];exact Nat.div_add_mod k sz
   refine ⟨v,by rw [←hv,Nat.add_assoc,hk2],ov,fun i j e x hkk he hx=> ?_⟩
   have hj2:=getElem?_lt hx
   rw [(hel.ok _ _ he).2] at hj2
   have e1:k / sz=i:=by rw [hkk,Nat.mul_comm,Nat.mul_add_div hpos,Nat.div_eq_of_lt hj2,Nat.add_zero]
   have e2:k%sz=j:=by rw [hkk,Nat.mul_comm,Nat.mul_add_mod,Nat.mod_eq_of_lt hj2]
   rw [e1,he] at hee
   cases hee
   rw [e2,hx] at hxx
   cases hxx
   exact rv
  have hf: ∃f:Nat→Value,∀k,k<xs.length*sz→w.cell? ⟨b,off+k,none⟩=some (f k)∧(f k).oneCell'=true∧ ∀(i j:Nat) (e x:AV),k=i*sz+j→xs[i]?=some e→e.cells[j]?=some x→Rd g w x (f k):=
   ⟨fun k=>if h:k<xs.length*sz then (hex k h).choose else undef,fun k hk=>by simp only [hk,dif_pos];exact (hex k hk).choose_spec⟩
  obtain ⟨f,hf⟩:=hf
  refine ⟨(List.range (xs.length*sz)).map f,fun W=>rfl,fun W hW=> ?_,by simp,fun i j e x v he hx hv=> ?_,fun v hv=> ?_,hel.ok⟩
  ·exact run_loadCells (P:=P) W ⟨b,off,none⟩ (xs.length*sz) f (fun j hj=>by rw [addr_add,hW];exact (hf j hj).1)
  ·rw [List.getElem?_toArray] at hv
   have hlt:i*sz+j<xs.length*sz:=by
    have:=getElem?_lt hv
    simpa using this
   simp [hlt] at hv
   rw [←hv]
   exact ⟨(hf _ hlt).2.2 i j e x rfl he hx,(hf _ hlt).2.1⟩
  ·simp only [List.mem_map,List.mem_range] at hv
   obtain ⟨k,hk,rfl⟩:=hv
   exact (hf k hk).2.1
theorem src_string (l:List UInt8): ∃news,Src P g w 1 (l.map ofByte) (.string ⟨l.toArray⟩) news:=by
 have hsize:(ByteArray.mk l.toArray).size=l.length:=by show l.toArray.size=_;simp
 refine ⟨l.map fun (b:UInt8)=>Value.int .u8 b.toNat,fun W=>by simp [Builtin.lenOf,hsize],fun W _=> ?_,by simp,fun i j e x v he hx hv=> ?_,fun v hv=> ?_,fun i e he=> ?_⟩
 ·have h1:(ByteArray.mk l.toArray).extract 0 (l.map ofByte).length=ByteArray.mk l.toArray:=by rw [str_slice];simp
  simp only [Builtin.firstCells,h1]
  simp
 ·rw [List.getElem?_map] at he
  cases hi:l[i]? with
  | none=>rw [hi] at he;cases he
  | some b=>
   rw [hi] at he;cases he
   have hj:=getElem?_lt hx
   simp only [ofByte,AV.cells,List.length_cons,List.length_nil] at hj
   have hj0:j=0:=by omega
   subst hj0
   simp only [ofByte,AV.cells,List.getElem?_cons_zero,Option.some.injEq] at hx
   subst hx
   simp [hi] at hv
   rw [←hv]
   exact ⟨.int _ _,rfl⟩
 ·simp only [List.mem_map] at hv
  obtain ⟨b,_,rfl⟩:=hv
  rfl
 ·rw [List.getElem?_map] at he
  cases hi:l[i]? with
  | none=>rw [hi] at he;cases he
  | some b=>rw [hi] at he;cases he;exact ⟨rfl,rfl⟩
def Appended (d:TypeDesc):Prop:=(∃e,d= .slice e)∨d= .string
theorem append_room {st xt ty e:TypeId} {xd:TypeDesc} {i:TypeInfo} (ht:P.underlying st=some (.slice e)) (hx:P.underlying xt=some xd) (hxd:Appended xd) (hi:P.info? e=some i)
  {xs:List AV} {x:Value} {news:List Value} (hs:Src P g w i.size xs x news) {base:Option Addr} {sLen sCap:Nat} {w':World} (hroom:sLen+xs.length≤sCap)
  (hst: ∀a,base=some a→(storeCells (a.add (sLen*i.size)) news).run P w= .ok () w') (hno:base=none→w'=w):
  (Builtin.append_ #[st,xt] ty #[.slice base sLen sCap,x]).run P w= .ok (.slice base (sLen+xs.length) sCap) w':=by
 have h1:=hs.len w
 have h2:=hs.first w (fun _=>rfl)
 cases base with
 | none=>
  obtain rfl:=hno rfl
  rcases hxd with ⟨e2,rfl⟩ | rfl <;> simp [Builtin.append_,run_underlying ht,run_underlying hx,sizeOf,typeInfo,hi,h1,hroom,h2]
 | some a=>
  have h3:=hst a rfl
  rcases hxd with ⟨e2,rfl⟩ | rfl <;> simp [Builtin.append_,run_underlying ht,run_underlying hx,sizeOf,typeInfo,hi,h1,hroom,h2,h3]
theorem append_grow {st xt ty e:TypeId} {xd:TypeDesc} {i:TypeInfo} {z:Value} (ht:P.underlying st=some (.slice e)) (hx:P.underlying xt=some xd) (hxd:Appended xd) (hi:P.info? e=some i) (hz:i.zero=some z)
  {xs:List AV} {x:Value} {news:List Value} (hs:Src P g w i.size xs x news) {base:Option Addr} {sLen sCap:Nat} {olds:List Value} (hg:sCap<sLen+xs.length)
  (ho:(Builtin.firstCells i.size sLen (.slice base sLen sCap)).run P w.drew= .ok olds.toArray w.drew) (h63:sLen+xs.length≤9223372036854775807) (hfit:Builtin.nextslicecap (sLen+xs.length) sCap*i.bytes≤281474976710656):
  (Builtin.append_ #[st,xt] ty #[.slice base sLen sCap,x]).run P w= .ok (.slice (some ⟨w.heap.size,0,none⟩) (sLen+xs.length) (grownCap w (sLen+xs.length) sCap e))
   (w.drew.alloc (.cells (olds.toArray++news.toArray++Builtin.zeroCells z.cells (grownCap w (sLen+xs.length) sCap e-(sLen+xs.length))) e)):=by
 have h1:=hs.len w
 have h2:=hs.first w.drew (fun _=>rfl)
 have hn: ¬ (sLen+xs.length≤sCap):=by omega
 have h63': ¬ (9223372036854775807<((sLen:Int)+(xs.length:Int))):=by omega
 have h48': ¬ (281474976710656<Builtin.nextslicecap (sLen+xs.length) sCap*i.bytes):=by omega
 rcases hxd with ⟨e2,rfl⟩ | rfl <;>
  (simp [Builtin.append_, run_underlying ht, run_underlying hx, sizeOf, typeInfo, zeroValue, hi, hz, h1, hn, h63', h48', Question.forced, h2, ho, newRow, grownCap]
   congr 2
   apply Array.ext'
   simp [List.append_assoc])
theorem elOk_append {sz:Nat} {es xs:List AV} (h:ElOk sz es) (k:ElOk sz xs):ElOk sz (es++xs):=fun i e he=>by
 rw [List.getElem?_append] at he
 split at he
 ·exact h i e he
 ·exact k _ e he
theorem row_append {sz:Nat} {es xs:List AV} {olds news:List Value} {c:Array Value} (h:RowOf g w sz es olds.toArray) (ho:olds.length=es.length*sz) (hok:ElOk sz es) (k:RowOf g w sz xs news.toArray) (hn:news.length=xs.length*sz) (hok':ElOk sz xs)
  (hc: ∀o,o<olds.length+news.length→c[o]?=(olds++news)[o]?):RowOf g w sz (es++xs) c:=fun i j e x v he hx hv=>by
 rw [List.getElem?_append] at he
 split at he
 ·rename_i hi
  have hj:=getElem?_lt hx
  rw [(hok i e he).2] at hj
  have hlt:i*sz+j<es.length*sz:=by
   have:(i+1)*sz≤es.length*sz:=Nat.mul_le_mul_right _ hi
   rw [Nat.add_mul] at this
   omega
  rw [hc _ (by omega),List.getElem?_append_left (by omega)] at hv
  exact h i j e x v he hx (by rw [List.getElem?_toArray];exact hv)
 ·rename_i hi
  have hj:=getElem?_lt hx
  rw [(hok' _ e he).2] at hj
  have hil:=getElem?_lt he
  have h1:(i-es.length+1)*sz≤xs.length*sz:=Nat.mul_le_mul_right _ hil
  rw [Nat.add_mul] at h1
  have h2:i*sz=es.length*sz+(i-es.length)*sz:=by rw [←Nat.add_mul];congr 1;omega
  rw [hc _ (by omega),List.getElem?_append_right (by omega)] at hv
  exact k _ j e x v he hx (by rw [List.getElem?_toArray,←hv];congr 1;omega)
theorem grow_sl (hm:Mem g bs w) {k:Nat} {sh:Hd} {sz:Nat} {es xs:List AV} {loc:Option (Nat×Nat)} {b cap:Nat} {c:Array Value} {ty:TypeId} {fz:Nat×Nat} {w':World} {r:Result Next}
  (hb:Box.at bs k= .sl sh sz es) (hge:g.e k= .sl es.length sz loc) (hr:r= .ok (.value (.slice (some ⟨b,0,none⟩) (es++xs).length cap)) w')
  (hnew:(∃cap',loc=some (b,cap'))∨w.heap.size≤b) (hsame:xs= []→loc=some (b,cap))
  (hold: ∀b2,b2<w.heap.size→b2≠b→w'.heap[b2]?=w.heap[b2]?) (hsz:w.heap.size≤w'.heap.size) (hrow:w'.heap[b]?=some (.cells c ty fz))
  (hkeep: ∀o,o<es.length*sz→b<w.heap.size→w'.cell? ⟨b,o,none⟩=w.cell? ⟨b,o,none⟩)
  (hos:w'.os=w.os) (ht:w'.tape=w.tape) (hou:w'.output=w.output) (hty:sh.ty=some ty) (hf:FreeFrom (if sh.out then (es++xs).length*sz else 0) c fz) (hc:c.size=cap*sz) (hcap:(es++xs).length≤cap) (hc1:1≤cap) (hok:ElOk sz (es++xs)) (hrd:RowOf g w sz (es++xs) c):
  OpOk r g w (bs.set k (.sl ⟨sh.out,sh.ty,none⟩ sz (es++xs))) (.osl k (es++xs).length):=by
 have hk:k<bs.length:=at_lt (by rw [hb];simp)
 have hblt:b<w'.heap.size:=lt_of_row hrow
 have hcell: ∀b2 o,g.S b2 o→w'.cell? ⟨b2,o,none⟩=w.cell? ⟨b2,o,none⟩:=fun b2 o hs=>by
  obtain ⟨h1,h2⟩:=hm.stab b2 o hs
  by_cases e:b2=b
  ·subst e
   rcases hnew with ⟨cap',hl⟩ | hl
   ·obtain ⟨_,sz',es',h3,h4⟩:=h2 k (by rw [hge,hl];rfl)
    rw [hb] at h3;cases h3
    exact hkeep o h4 h1
   ·omega
  ·exact cell_of_block (hold b2 h1 e) o
 have hle0:GE.le (g.e k) (.sl (es++xs).length sz (some (b,cap))):=by
  rw [hge]
  by_cases hx:xs= []
  ·rw [hsame hx,hx,List.append_nil];exact .same _
  ·exact .grown (by rw [List.length_append];have:=List.length_pos_iff.2 hx;omega)
 have hle:Le g w (g.put2 k (.sl (es++xs).length sz (some (b,cap))) (fun b2 o=>g.S b2 o∨(sh.out=true∧b=b2∧o<(es++xs).length*sz))) w':=⟨fun _ _ h=> .inl h,hcell,fun j=>by
  by_cases e:k=j
  ·subst e;rw [Gh.put2_same];exact hle0
  ·rw [Gh.put2_other _ _ _ e];exact .same _⟩
 obtain ⟨m',l',f'⟩:=Mem.upd (id:=k) (x:= .sl ⟨sh.out,sh.ty,none⟩ sz (es++xs)) (ge:= .sl (es++xs).length sz (some (b,cap))) (S':=fun b2 o=>g.S b2 o∨(sh.out=true∧b=b2∧o<(es++xs).length*sz)) hm hk (fun _ _ h=> .inl h) hcell hle0
  (fun b2 hb2 hne=>hold b2 hb2 (fun e=>by
   subst e
   rcases hnew with ⟨cap',hl⟩ | hl
   ·exact hne (by rw [hge,hl];rfl)
   ·omega)) hsz
  (fun b2 h=>by
   simp only [GE.blk,Option.map_some,Option.some.injEq] at h
   subst h
   rcases hnew with ⟨cap',hl⟩ | hl
   ·exact .inl (by rw [hge,hl];rfl)
   ·exact .inr hl) (by simp) (fun _ _ h=>by cases h)
  (fun sh' sz' es' h=>by
   cases h
   exact ⟨_,rfl,hok,c,ty,fz,hrow,hc,by omega,fun t ht=>⟨by have ht:sh.ty=some t:=ht;rw [hty] at ht;cases ht;rfl,hf⟩,fun i j e x v a1 a2 a3=>⟨(hrd i j e x v a1 a2 a3).1.mono hle,(hrd i j e x v a1 a2 a3).2⟩,fun hs o ho=> .inr ⟨hs,rfl,ho⟩,fun _ _ _ _ h=>(by cases h)⟩)
  (fun b2 o h=>h.imp id (fun h=>by obtain ⟨_,rfl,_⟩:=h;exact ⟨hblt,rfl⟩))
  (fun b2 o h hblk=>by
   simp only [GE.blk,Option.map_some,Option.some.injEq] at hblk
   subst hblk
   rcases h with h | ⟨h,_,h'⟩
   ·obtain ⟨h1,h2⟩:=hm.stab b o h
    rcases hnew with ⟨cap',hl⟩ | hl
    ·obtain ⟨_,sz',es',h3,h4⟩:=h2 k (by rw [hge,hl];rfl)
     rw [hb] at h3;cases h3
     refine ⟨_,_,_,rfl,?_⟩
     rw [List.length_append,Nat.add_mul];omega
    ·omega
   ·obtain ⟨out,ty',lk⟩:=sh
    simp only at h
    subst h;exact ⟨_,_,_,rfl,h'⟩) hos ht hou
 exact ⟨_,_,_,_,hr,.inl rfl,m',l',f',.osl k _ _ sz _ _ rfl (Gh.put2_same _ _ _ _) (Nat.le_refl _) (fun _=> .inl ⟨_,_,rfl,rfl⟩)⟩
theorem move_sl (hm:Mem g bs w) {k id:Nat} {sh:Hd} {sz:Nat} {es xs:List AV} {b0 cap0 b cap:Nat} {c:Array Value} {ty:TypeId} {fz:Nat×Nat} {w':World} {r:Result Next} {bs':List Box}
  (hb:Box.at bs k= .sl sh sz es) (hge:g.e k= .sl es.length sz (some (b0,cap0))) (he:(Eff.move k (.sl ⟨sh.out,sh.ty,none⟩ sz xs)).on bs id=some bs') (hr:r= .ok (.value (.slice (some ⟨b,0,none⟩) xs.length cap)) w')
  (hnew:b=b0∨w.heap.size≤b) (hold: ∀b2,b2<w.heap.size→b2≠b0→w'.heap[b2]?=w.heap[b2]?) (hsz:w.heap.size≤w'.heap.size) (hrow:w'.heap[b]?=some (.cells c ty fz))
  (hos:w'.os=w.os) (ht:w'.tape=w.tape) (hou:w'.output=w.output) (hty:sh.ty=some ty) (hout:sh.out=false) (hf:Free c fz) (hc:c.size=cap*sz) (hcap:xs.length≤cap) (hc1:1≤cap) (hok:ElOk sz xs) (hrd:RowOf g w sz xs c):
  OpOk r g w bs' (.osl id xs.length):=by
 simp only [Eff.on] at he
 split at he
 ·rename_i hd
  cases he
  have hid:=getElem?_lt hd
  have hd0:Box.at bs id= .dead:=by simp [Box.at,List.getD_eq_getElem?_getD,hd]
  have hk:k<bs.length:=at_lt (by rw [hb];simp)
  have hne:k≠id:=fun e=>by subst e;rw [hb] at hd0;cases hd0
  have hblt:b<w'.heap.size:=lt_of_row hrow
  have hblk:(g.e k).blk=some b0:=by rw [hge];rfl
  have hnoS: ∀o,¬ g.S b0 o:=fun o hs=>by
   obtain ⟨_,h2⟩:=hm.stab b0 o hs
   obtain ⟨ty',sz',es',h3,_⟩:=h2 k hblk
   rw [hb] at h3;cases h3;cases hout
  have hcell: ∀b2 o,g.S b2 o→w'.cell? ⟨b2,o,none⟩=w.cell? ⟨b2,o,none⟩:=fun b2 o hs=>
   cell_of_block (hold b2 (hm.stab b2 o hs).1 (fun e=>by subst e;exact hnoS o hs)) o
  obtain ⟨m1,l1,f1⟩:=Mem.upd (w':=w') (id:=k) (x:= .gone) (ge:= .sl (es.length+1) sz none) (S':=g.S) hm hk (fun _ _ h=>h) hcell (by rw [hge];exact .grown (by omega))
   (fun b2 hb2 hne=>hold b2 hb2 (fun e=>by subst e;exact hne hblk)) hsz (fun b2 h=>by cases h) (by simp) (fun _ _ h=>by cases h) (fun _ _ _ h=>by cases h)
   (fun _ _ h=> .inl h) (fun _ _ _ h=>by cases h) hos ht hou (hgo:=fun _=>⟨_,_,rfl⟩)
  have hold': ∀j,((g.put2 k (.sl (es.length+1) sz none) g.S).e j).blk=some b→(g.e j).blk=some b∧j≠k:=fun j hj=>by
   by_cases e:k=j
   ·subst e;rw [Gh.put2_same] at hj;cases hj
   ·rw [Gh.put2_other _ _ _ e] at hj;exact ⟨hj,Ne.symm e⟩
  have hd1:Box.at (bs.set k .gone) id= .dead:=by rw [at_set _ _ _ hk,if_neg hne];exact hd0
  have hrd': ∀(i j:Nat) (e x:AV) (v:Value),xs[i]?=some e→e.cells[j]?=some x→c[i*sz+j]?=some v→Rd g w x v∧v.oneCell'=true:=hrd
  have hle1:Le (g.put2 k (.sl (es.length+1) sz none) g.S) w' ((g.put2 k (.sl (es.length+1) sz none) g.S).put id (.sl xs.length sz (some (b,cap)))) w':=
   le_put (by rw [m1.no id hd1];exact .no _) (fun _ _ _=>rfl)
  obtain ⟨m2,l2⟩:=m1.adopt (id:=id) (sh:=⟨sh.out,sh.ty,none⟩) (sz:=sz) (es:=xs) (b:=b) (cap:=cap) (by simpa using hid) hd1 hblt
   (fun j hj=>by
    obtain ⟨h1,h2⟩:=hold' j hj
    rcases hnew with rfl | hn
    ·exact h2 (hm.inj j k _ h1 hblk)
    ·have:=hm.blk_lt h1;omega)
   (fun o hs=>by
    have hs:g.S b o:=hs
    rcases hnew with rfl | hn
    ·exact hnoS o hs
    ·have:=(hm.stab b o hs).1;omega)
   (fun p hp e=>by
    obtain ⟨q1,q2⟩:=hm.kn p hp
    rcases hnew with rfl | hn
    ·exact q2 k (by rw [hblk,e])
    ·have:=lt_of_row q1;omega)
   ⟨hok,c,ty,fz,hrow,hc,by omega,fun t ht=>⟨by have ht:sh.ty=some t:=ht;rw [hty] at ht;cases ht;rfl,hf.from _⟩,fun i j e x v a1 a2 a3=>⟨((hrd' i j e x v a1 a2 a3).1.mono l1).mono hle1,(hrd' i j e x v a1 a2 a3).2⟩,fun h=>(by have h:sh.out=true:=h;rw [hout] at h;cases h),fun _ _ _ _ h=>(by cases h)⟩
  refine ⟨_,_,_,_,hr,.inl rfl,m2,l1.trans l2,⟨f1.size,fun b2 hb2 hn2=>⟨(f1.frame b2 hb2 hn2).1,fun j hj=> ?_,(f1.frame b2 hb2 hn2).2.2⟩,f1.os,f1.tape,f1.output⟩,.osl id _ _ sz _ _ rfl (Gh.put_same _ _ _) (Nat.le_refl _) (fun _=> .inl ⟨_,_,rfl,rfl⟩)⟩
  by_cases e:id=j
  ·subst e
   rw [Gh.put_same] at hj
   simp only [GE.blk,Option.map_some,Option.some.injEq] at hj
   subst hj
   rcases hnew with rfl | hn
   ·exact hn2 k hblk
   ·omega
  ·rw [Gh.put_other _ _ e] at hj
   exact (f1.frame b2 hb2 hn2).2.1 j hj
 ·cases he
end
end Go.Am
