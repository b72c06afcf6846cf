/- Each operation of the abstract machine is sound, second part: -/
import Derived.Test.YtnlndhjfmghajaaGreatDoorAmOps
import Derived.Laws.BytesString
import Derived.Laws.Strings2
import Derived.Laws.Cells
set_option linter.all false
namespace Go.Am
variable [Kn]
section
variable {P:Program} {g:Gh} {bs:List Box} {w:World}
theorem un_sound (hm:Mem g bs w) {op:UnOp} {x r:AV} {u:Value} (hx:Rd g w x u) (h:unA op x=some r):
  OpOk ((do pure (Next.value (←Op.unary op u)):Sem Next).run P w) g w bs r:=by
 unfold unA at h
 split at h
 ·obtain rfl:=hx.int_inv
  simp only [intOp,Option.some.injEq] at h;subst h
  exact .pure (v:=_) (by simp only [Op.unary,Op.intArith];rfl) hm (.int _ _)
 ·obtain rfl:=hx.int_inv
  simp only [intOp,Option.some.injEq] at h;subst h
  exact .pure (v:=_) (by simp only [Op.unary,Op.intBits];rfl) hm (.int _ _)
 ·obtain rfl:=hx.bool_inv
  cases h
  exact .pure (v:=_) (by simp only [Op.unary];rfl) hm (.bool _)
 ·cases h
theorem pick_sound (hm:Mem g bs w) {x p q r:AV} {u v z:Value} {e:Eff} (hx:Rd g w x u) (hp:Rd g w p v) (hq:Rd g w q z) (h:pickA x p q=some (r,e)):
  e= .none∧OpOk ((do pure (Next.value (if←asBool u then v else z)):Sem Next).run P w) g w bs r:=by
 unfold pickA at h
 split at h
 ·obtain rfl:=hx.bool_inv;cases h;exact ⟨rfl,.pure (v:=v) (by simp [asBool]) hm hp⟩
 ·obtain rfl:=hx.bool_inv;cases h;exact ⟨rfl,.pure (v:=z) (by simp [asBool]) hm hq⟩
 ·cases h
theorem extract_sound (hm:Mem g bs w) {x r:AV} {u:Value} {i:Nat} {e:Eff} (hx:Rd g w x u) (h:extractA x i=some (r,e)):
  e= .none∧OpOk ((do pure (Next.value (←Instr.extract u i)):Sem Next).run P w) g w bs r:=by
 unfold extractA at h
 split at h
 ·rename_i vs
  obtain ⟨us,rfl,hn,h'⟩:=hx.tup_inv
  cases hi:vs[i]? with
  | none=>rw [hi] at h;cases h
  | some y=>
   rw [hi] at h;cases h
   have hlt:i<us.size:=by
    rw [hn]
    rcases Nat.lt_or_ge i vs.length with h' | h'
    ·exact h'
    ·rw [List.getElem?_eq_none h'] at hi;cases hi
   exact ⟨rfl,.pure (v:=us[i]) (by simp [Instr.extract,hlt]) hm (h' i r _ hi (by simp [hlt]))⟩
 ·cases h
theorem mkIfc_sound {c:Cfg} (hc:CfgTy c P) (hm:Mem g bs w) {t:TypeId} {x r:AV} {u:Value} {e:Eff} {id:Nat} (hx:Rd g w x u) (h:mkIfcA c t x=some (r,e)) {bs':List Box} (he:e.on bs id=some bs'):
  OpOk ((do pure (Next.value (←Instr.makeInterface t u)):Sem Next).run P w) g w bs' r:=by
 unfold mkIfcA at h
 split at h
 ·rename_i i hi
  obtain ⟨info,hinf⟩:=ty_is (hc.ty t i hi)
  split at h
  ·rename_i k' k n hd
   cases h;cases he
   obtain rfl:=hx.int_inv
   have hu:P.underlying t=some (.int k'):=by rw [hinf.und,hd]
   exact .pure (v:= .iface t (.int k n)) (by simp [Instr.makeInterface,run_underlying hu]) hm (.ifi _ _ _)
  ·cases h
 ·cases h
theorem nilCheck_sound (hm:Mem g bs w) {x r:AV} {e:Eff} {o:Oper} {a:Act} {y:Operand} (ho:o.op= .nilCheck y) (hx:Rd g w x (a.eval y)) (h:nilCheckA x=some (r,e)):
  e= .none∧OpOk ((execOp a.eval o).run P w) g w bs r:=by
 unfold nilCheckA at h
 split at h
 ·cases h
  obtain ⟨b,_,hv⟩:=hx.ptr_inv
  exact ⟨rfl,.pure (v:=a.eval y) (by simp [execOp,ho,hv]) hm hx⟩
 ·cases h
  generalize hy:a.eval y=v at hx
  cases hx with
  | eptr cs b off vals hp h'=>exact ⟨rfl,.pure (v:=_) (by simp only [execOp,ho,hy];rfl) hm (.eptr _ b off vals hp h')⟩
 ·cases h
  generalize hy:a.eval y=v at hx
  cases hx with
  | fn f cs ds vs us hn hm' h' h''=>exact ⟨rfl,.pure (v:=_) (by simp only [execOp,ho,hy];rfl) hm (.fn _ _ _ vs us hn hm' h' h'')⟩
 ·cases h
theorem str_get (s:List UInt8) (n:Nat):(ByteArray.mk s.toArray)[n]?=s[n]?:=by
 by_cases h:n<s.length
 ·rw [ByteArray.getElem?_lt' _ _ (by show n<s.toArray.size;simpa using h),List.getElem?_eq_getElem h]
  rfl
 ·rw [ByteArray.getElem?_ge' _ _ (by show¬ n<s.toArray.size;simpa using h),List.getElem?_eq_none (by omega)]
theorem index_sound {c:Cfg} (hc:CfgTy c P) (hm:Mem g bs w) {t:TypeId} {x y r:AV} {u v:Value} {e:Eff} (hx:Rd g w x u) (hy:Rd g w y v) (h:indexA c (c.ti t) x y=some (r,e)):
  e= .none∧OpOk ((do pure (Next.value (←Instr.index t u v)):Sem Next).run P w) g w bs r:=by
 unfold indexA at h
 split at h
 ·rename_i i k n hti
  obtain ⟨info,hi⟩:=ty_is (hc.ty t i hti)
  obtain rfl:=hy.int_inv
  split at h
  ·rename_i s hdesc
   obtain rfl:=hx.str_inv
   split at h
   ·rename_i hn
    split at h
    ·rename_i b hb
     cases h
     refine ⟨rfl,.pure (v:= .int .u8 b.toNat) ?_ hm (.int _ _)⟩
     simp [Instr.index,asIntOf,run_underlying (hdesc▸hi.und),hn,str_get,hb]
    ·cases h
   ·cases h
  ·rename_i len el cs hdesc
   obtain ⟨vs,rfl,hsz,h'⟩:=hx.agg_inv
   split at h
   ·rename_i hn
    split at h
    ·rename_i j hj
     obtain ⟨einfo,he⟩:=ty_is (hc.ty el j hj)
     cases hp:partA j cs (n.toNat*j.size) with
     | none=>rw [hp] at h;cases h
     | some p=>
      rw [hp] at h;cases h
      obtain ⟨z,hz,rz⟩:=part_run (P:=P) he hsz h' hp
      refine ⟨rfl,.pure (v:=z) ?_ hm rz⟩
      simp [Instr.index,asIntOf,run_underlying (hdesc▸hi.und),hn,sizeOf,typeInfo,he.info,he.size,hz]
    ·cases h
   ·cases h
  ·cases h
 ·cases h
theorem fields_get {fs:Array Field} {f:Nat} {ty:TypeId} {o n:Nat} (h:(fieldsOf P (.struct fs))[f]?=some (ty,o,n)):
  ∃fl,fs[f]?=some fl∧fl.type=ty∧fl.offset=o∧((P.info? ty).map (·.size)).getD 0=n:=by
 simp only [fieldsOf,List.getElem?_map,Array.getElem?_toList] at h
 cases hf:fs[f]? with
 | none=>rw [hf] at h;cases h
 | some fl=>
  rw [hf] at h
  simp only [Option.map_some,Option.some.injEq,Prod.mk.injEq] at h
  obtain ⟨h1,h2,h3⟩:=h
  exact ⟨fl,rfl,h1,h2,by rw [←h1];exact h3⟩
theorem field_sound {c:Cfg} (hc:CfgTy c P) (hm:Mem g bs w) {t:TypeId} {x r:AV} {u:Value} {f:Nat} {e:Eff} (hx:Rd g w x u) (h:fieldA c (c.ti t) x f=some (r,e)):
  e= .none∧OpOk ((do pure (Next.value (←Instr.field t u f)):Sem Next).run P w) g w bs r:=by
 unfold fieldA at h
 split at h
 ·rename_i i cs hti
  obtain ⟨info,hi⟩:=ty_is (hc.ty t i hti)
  obtain ⟨vs,rfl,hn,h'⟩:=hx.agg_inv
  split at h
  ·rename_i fs hdesc
   split at h
   ·rename_i ty o n hf
    rw [hi.fields,hdesc] at hf
    obtain ⟨fl,hfl,rfl,rfl,_⟩:=fields_get hf
    cases hp:partT c fl.type cs fl.offset with
    | none=>rw [hp] at h;cases h
    | some p=>
     rw [hp] at h;cases h
     obtain ⟨z,hz,rz⟩:=partT_run hc hn h' hp
     exact ⟨rfl,.pure (v:=z) (by simp [Instr.field,run_underlying (hdesc▸hi.und),hfl,asAgg,hz]) hm rz⟩
   ·cases h
  ·cases h
 ·cases h
def CellsAt (g:Gh) (w:World) (b o:Nat) (cs:List AV):Prop:= ∀(j:Nat) (x:AV),cs[j]?=some x→ ∃v,w.cell? ⟨b,o+j,none⟩=some v∧Rd g w x v
def CellsOne (g:Gh) (w:World) (b o:Nat) (cs:List AV):Prop:= ∀(j:Nat) (x:AV),cs[j]?=some x→ ∃v,w.cell? ⟨b,o+j,none⟩=some v∧Rd g w x v∧v.oneCell'=true
theorem CellsOne.cells {g:Gh} {w:World} {b o:Nat} {cs:List AV} (h:CellsOne g w b o cs):CellsAt g w b o cs:=fun j x hx=>let ⟨v,h1,h2,_⟩:=h j x hx;⟨v,h1,h2⟩
theorem load_run {t:TypeId} {i:TI} {info:TypeInfo} (hi:TyIs P t i info) {b o off:Nat} {cs:List AV} {p:AV} (hcs:CellsAt g w b o cs) (hp:partA i cs off=some p):
  ∃u,(loadVar t ⟨b,o+off,none⟩).run P w= .ok u w∧Rd g w p u:=by
 unfold partA at hp
 have hd:=hi.agg
 cases ha:i.agg with
 | true=>
  rw [ha] at hp hd
  simp only at hp
  split at hp
  ·rename_i hle
   simp only [Option.some.injEq] at hp
   subst hp
   have hex: ∀j,j<i.size→ ∃v,w.cell? ⟨b,o+off+j,none⟩=some v∧ ∀x,cs[off+j]?=some x→Rd g w x v:=fun j hj=>by
    have hlt:off+j<cs.length:=by omega
    obtain ⟨v,hv,rv⟩:=hcs (off+j) cs[off+j] (by simp [hlt])
    refine ⟨v,by rw [Nat.add_assoc];exact hv,fun x hx=> ?_⟩
    rw [List.getElem?_eq_getElem hlt] at hx
    cases hx
    exact rv
   have hf: ∃f:Nat→Value,∀j,j<i.size→w.cell? ⟨b,o+off+j,none⟩=some (f j)∧ ∀x,cs[off+j]?=some x→Rd g w x (f j):=
    ⟨fun j=>if h:j<i.size then (hex j h).choose else undef,fun j hj=>by simp only [hj,dif_pos];exact (hex j hj).choose_spec⟩
   obtain ⟨f,hf⟩:=hf
   have hl:=run_loadCells (P:=P) w ⟨b,o+off,none⟩ i.size f (fun j hj=>by rw [addr_add];exact (hf j hj).1)
   refine ⟨.agg ((List.range i.size).map f).toArray,?_,.agg _ _ (by simp;omega) (fun j x v hx hv=> ?_)⟩
   ·cases hdesc:i.desc <;> rw [hdesc] at hd <;> simp only [aggD,Bool.true_eq_false] at hd <;>
     simp [loadVar,isAgg,run_underlying (hdesc▸hi.und),sizeOf,typeInfo,hi.info,hi.size,hl]
   ·rw [List.getElem?_take] at hx
    split at hx
    ·rename_i hj
     rw [List.getElem?_drop] at hx
     simp [hj] at hv
     rw [←hv]
     exact (hf j hj).2 x hx
    ·cases hx
  ·cases hp
 | false=>
  rw [ha] at hp hd
  simp only at hp
  obtain ⟨v,hv,rv⟩:=hcs off p hp
  refine ⟨v,?_,rv⟩
  cases hdesc:i.desc <;> rw [hdesc] at hd <;> simp only [aggD,Bool.false_eq_true] at hd <;>
   simp [loadVar,isAgg,run_underlying (hdesc▸hi.und),hv]
theorem Rd.eptr_inv {cs:List AV} {v:Value} (h:Rd g w (.eptr cs) v): ∃b off,v= .pointer (some ⟨b,off,none⟩)∧CellsAt g w b off cs∧ ∀(j:Nat) (x:AV),cs[j]?=some x→x.plain=true∧g.S b (off+j):=by
 cases h with
 | eptr _ b off vals hp h=>exact ⟨b,off,rfl,fun j x hx=>⟨vals j,(hp j x hx).2.2,h j x hx⟩,fun j x hx=>⟨(hp j x hx).1,(hp j x hx).2.1⟩⟩
theorem Rd.eptr_mk {cs:List AV} {b off:Nat} (h:CellsAt g w b off cs) (hp: ∀(j:Nat) (x:AV),cs[j]?=some x→x.plain=true∧g.S b (off+j)):Rd g w (.eptr cs) (.pointer (some ⟨b,off,none⟩)):=by
 refine .eptr cs b off (fun j=>if hj:j<cs.length then (h j cs[j] (by simp [hj])).choose else undef) (fun j x hx=> ?_) (fun j x hx=> ?_)
 all_goals
  have hj:j<cs.length:=by
   rcases Nat.lt_or_ge j cs.length with h' | h'
   ·exact h'
   ·rw [List.getElem?_eq_none h'] at hx;cases hx
  have he:cs[j]=x:=by rw [List.getElem?_eq_getElem hj] at hx;exact Option.some.inj hx
  have hs:=(h j cs[j] (by simp [hj])).choose_spec
  simp only [hj,dif_pos]
 ·exact ⟨(hp j x hx).1,(hp j x hx).2,hs.1⟩
 ·rw [←he];exact hs.2
theorem Rd.sptr_inv (hm:Mem g bs w) {k n i off:Nat} {v:Value} (h:Rd g w (.sptr k n i off) v) {sh:Hd} {sz:Nat} {es:List AV} (hb:Box.at bs k= .sl sh sz es) (hn:n=es.length) (h0:n≠0):
  ∃b cap,g.e k= .sl n sz (some (b,cap))∧v= .pointer (some ⟨b,i*sz+off,none⟩)∧SlRow g w sh sz es b cap:=by
 obtain ⟨loc,he,hr⟩:=hm.sl k sh sz es hb
 cases h with
 | sptr _ _ _ _ m sz' loc' _ h1 h hle hv=>
  rw [he] at h
  cases h
  rcases hv hn with ⟨b,cap,rfl,rfl⟩ | ⟨_,h2,_⟩
  ·exact ⟨b,cap,by rw [he,hn],rfl,hr.2⟩
  ·exact absurd h2 h0
theorem move_sound (hm:Mem g bs w) {x r:AV} {u:Value} {o:Nat} {e:Eff} (hx:Rd g w x u) (h:moveA x o bs=some (r,e)):
  e= .none∧ ∃b off,u= .pointer (some ⟨b,off,none⟩)∧Rd g w r (.pointer (some ⟨b,off+o,none⟩)):=by
 unfold moveA at h
 split at h
 ·cases h
  obtain ⟨b,he,rfl⟩:=hx.ptr_inv
  exact ⟨rfl,b,_,rfl,.ptr _ _ b he⟩
 ·rename_i k n i off
  split at h
  ·rename_i sh sz es hb
   split at h
   ·rename_i hn
    cases h
    obtain ⟨b,cap,he,rfl,_⟩:=hx.sptr_inv hm hb hn.1 (by omega)
    refine ⟨rfl,b,_,rfl,.sptr k n i (off+o) n sz (some (b,cap)) _ rfl he (Nat.le_refl _) (fun _=> .inl ⟨b,cap,rfl,by rw [Nat.add_assoc]⟩)⟩
   ·cases h
  ·cases h
 ·cases h
  obtain ⟨b,off,rfl,hcs,hp⟩:=hx.eptr_inv
  refine ⟨rfl,b,off,rfl,Rd.eptr_mk (fun j x hx=> ?_) (fun j x hx=> ?_)⟩
  ·rw [List.getElem?_drop] at hx
   have:=hcs _ _ hx
   rwa [←Nat.add_assoc] at this
  ·rw [List.getElem?_drop] at hx
   have:=hp _ _ hx
   rwa [←Nat.add_assoc] at this
 ·cases h
theorem fieldAddr_sound {c:Cfg} (hc:CfgTy c P) (hm:Mem g bs w) {t:TypeId} {x r:AV} {u:Value} {f:Nat} {e:Eff} (hx:Rd g w x u) (h:fieldAddrA (c.ti t) x f bs=some (r,e)):
  e= .none∧OpOk ((do pure (Next.value (←Instr.fieldAt t u f)):Sem Next).run P w) g w bs r:=by
 unfold fieldAddrA at h
 split at h
 ·rename_i i hti
  obtain ⟨info,hi⟩:=ty_is (hc.ty t i hti)
  split at h
  ·rename_i fs hdesc
   split at h
   ·rename_i ty o n hf
    rw [hi.fields,hdesc] at hf
    obtain ⟨fl,hfl,rfl,rfl,hsz⟩:=fields_get hf
    split at h
    ·cases h
    ·rename_i n'
     obtain ⟨he,b,off,rfl,rr⟩:=move_sound hm hx h
     refine ⟨he,.pure (v:=_) ?_ hm rr⟩
     cases hinf:P.info? fl.type with
     | none=>rw [hinf] at hsz;simp at hsz
     | some inf=>
      rw [hinf] at hsz
      simp only [Option.map_some,Option.getD_some] at hsz
      simp [Instr.fieldAt,run_underlying (hdesc▸hi.und),hfl,Instr.sureAddr,fieldPlace,sizeOf,typeInfo,hinf,hsz,addr_add]
   ·cases h
  ·cases h
 ·cases h
structure ElemsAt (g:Gh) (w:World) (sz:Nat) (es:List AV) (a:Option Addr) (cap:Nat):Prop where
 at_:es≠ []→ ∃b off,a=some ⟨b,off,none⟩∧ ∀(i:Nat) (e:AV),es[i]?=some e→CellsOne g w b (off+i*sz) e.cells
 ok: ∀(i:Nat) (e:AV),es[i]?=some e→e.plain=true∧e.cells.length=sz
 nil:a=none→es= []∧cap=0
 cap:es.length≤cap
theorem Rd.lst_at {nl:Option Bool} {sz:Nat} {es:List AV} {v:Value} (h:Rd g w (.lst nl sz es) v):
  ∃a cap,v= .slice a es.length cap∧ElemsAt g w sz es a cap∧(∀x,nl=some x→a.isNone=x)∧(∀b off,a=some ⟨b,off,none⟩→ ∀(i j:Nat) (e x:AV),es[i]?=some e→e.cells[j]?=some x→g.S b (off+i*sz+j)):=by
 cases h with
 | lst _ _ _ a cap b off vals hnl hnil hcap ha hp hc h=>
  refine ⟨a,cap,rfl,⟨fun hne=>⟨b,off,ha hne,fun i e he j x hx=>⟨vals i j,(hc i j e x he hx).2.1,h i j e x he hx,(hc i j e x he hx).2.2⟩⟩,hp,hnil,hcap⟩,hnl,fun b' off' ha' i j e x he hx=> ?_⟩
  have hne:es≠ []:=by intro h0;rw [h0] at he;cases he
  have:=ha hne
  rw [ha'] at this
  simp only [Option.some.injEq,Addr.mk.injEq] at this
  rw [this.1,this.2.1]
  exact (hc i j e x he hx).1
omit [Kn] in
theorem getElem?_lt {α:Type} {l:List α} {i:Nat} {x:α} (h:l[i]?=some x):i<l.length:=by
 rcases Nat.lt_or_ge i l.length with h' | h'
 ·exact h'
 ·rw [List.getElem?_eq_none h'] at h;cases h
theorem SlRow.cellsAt {sh:Hd} {sz:Nat} {es:List AV} {b cap:Nat} (h:SlRow g w sh sz es b cap) (hok: ∀(i:Nat) (e:AV),es[i]?=some e→e.plain=true∧e.cells.length=sz) {i:Nat} {e:AV} (he:es[i]?=some e):
  CellsOne g w b (i*sz) e.cells:=by
 obtain ⟨c,ty,fz,hh,hsz,hcap,hf,hcs,_⟩:=h
 intro j x hx
 have hi:=getElem?_lt he
 have hj:=getElem?_lt hx
 rw [(hok i e he).2] at hj
 have hlt:i*sz+j<c.size:=by
  rw [hsz]
  have:(i+1)*sz≤cap*sz:=Nat.mul_le_mul_right _ (by omega)
  rw [Nat.add_mul] at this
  omega
 have:=hcs i j e x _ he hx (show c[i*sz+j]?=some c[i*sz+j] by simp [hlt])
 exact ⟨c[i*sz+j],by rw [cell_row hh];simp [hlt],this.1,this.2⟩
theorem Rd.osl_at (hm:Mem g bs w) {k n:Nat} {v:Value} (h:Rd g w (.osl k n) v) {sh:Hd} {sz:Nat} {es:List AV} (hb:Box.at bs k= .sl sh sz es) (hn:n=es.length):
  ∃a cap,v= .slice a es.length cap∧ElemsAt g w sz es a cap∧ ∃loc,g.e k= .sl n sz loc∧SlRel g w sh sz es loc∧((∃b,loc=some (b,cap)∧a=some ⟨b,0,none⟩)∨(loc=none∧es= []∧cap=0∧a=none)):=by
 obtain ⟨loc,he,hr⟩:=hm.sl k sh sz es hb
 cases h with
 | osl _ _ m sz' loc' _ h1 h hle hv=>
  rw [he] at h
  cases h
  rcases hv hn with ⟨b,cap,rfl,rfl⟩ | ⟨rfl,h0,rfl⟩
  ·refine ⟨some ⟨b,0,none⟩,cap,by rw [hn],⟨fun _=>⟨b,0,rfl,fun i e hei=> ?_⟩,hr.1,(fun h=>by cases h),?_⟩,some (b,cap),by rw [he,hn],hr,.inl ⟨b,rfl,rfl⟩⟩
   ·rw [Nat.zero_add];exact SlRow.cellsAt hr.2 hr.1 hei
   ·obtain ⟨_,_,_,_,_,hcap,_⟩:=hr.2;omega
  ·have hes:es= []:=by cases es with
    | nil=>rfl
    | cons x l=>simp at hn;omega
   subst hes
   exact ⟨none,0,by simp,⟨fun h=>absurd rfl h,hr.1,fun _=>⟨rfl,rfl⟩,Nat.le_refl _⟩,none,by rw [he,hn],hr,.inr ⟨rfl,rfl,rfl,rfl⟩⟩
theorem Rd.osv_at (hm:Mem g bs w) {k n lo hi:Nat} {v:Value} (h:Rd g w (.osv k n lo hi) v) {sh:Hd} {sz:Nat} {es:List AV} (hb:Box.at bs k= .sl sh sz es) (hn:n=es.length):
  ∃b cap a,v= .slice (some a) (hi-lo) (cap-lo)∧(a=⟨b,lo*sz,none⟩∨cap=lo)∧g.e k= .sl n sz (some (b,cap))∧SlRel g w sh sz es (some (b,cap))∧ElemsAt g w sz es (some ⟨b,0,none⟩) cap:=by
 obtain ⟨loc,he,hr⟩:=hm.sl k sh sz es hb
 cases h with
 | osv _ _ _ _ m sz' loc' _ h1 h hle hv=>
  rw [he] at h
  cases h
  obtain ⟨b,cap,a,rfl,rfl,ha⟩:=hv hn
  refine ⟨b,cap,a,rfl,ha,by rw [he,hn],hr,fun _=>⟨b,0,rfl,fun i e hei=> ?_⟩,hr.1,(fun h=>by cases h),?_⟩
  ·rw [Nat.zero_add];exact SlRow.cellsAt hr.2 hr.1 hei
  ·obtain ⟨_,_,_,_,_,hcap,_⟩:=hr.2;omega
omit [Kn] in
theorem part_get {es:List AV} {h l i:Nat} {e:AV} (he:((es.take h).drop l)[i]?=some e):es[l+i]?=some e:=by
 rw [List.getElem?_drop,List.getElem?_take] at he
 split at he
 ·exact he
 ·cases he
theorem ElemsAt.part {sz:Nat} {es:List AV} {b cap lo hi:Nat} {a:Addr} (h:ElemsAt g w sz es (some ⟨b,0,none⟩) cap) (ha:a=⟨b,lo*sz,none⟩∨cap=lo) (hlh:lo≤hi) (hh:hi≤es.length):
  ((es.take hi).drop lo).length=hi-lo∧ElemsAt g w sz ((es.take hi).drop lo) (some a) (cap-lo):=by
 have hlen:((es.take hi).drop lo).length=hi-lo:=by simp;omega
 have hcap:=h.cap
 refine ⟨hlen,fun hne=> ?_,fun i e he=>h.ok _ _ (part_get he),(fun h=>by cases h),by omega⟩
 have hpos:0<hi-lo:=by rw [←hlen];exact List.length_pos_iff.2 hne
 rcases ha with rfl | ha
 ·refine ⟨b,lo*sz,rfl,fun i e he=> ?_⟩
  have hes:es≠ []:=by intro h0;rw [h0] at hne;simp at hne
  obtain ⟨b',off,ha,hcs⟩:=h.at_ hes
  cases ha
  have:=hcs _ _ (part_get he)
  rwa [show 0+(lo+i)*sz=lo*sz+i*sz by rw [Nat.add_mul];omega] at this
 ·omega
theorem elems_at (hm:Mem g bs w) {x:AV} {v:Value} {sz:Nat} {es:List AV} (hx:Rd g w x v) (h:elems bs x=some (sz,es)): ∃a cap,v= .slice a es.length cap∧ElemsAt g w sz es a cap:=by
 unfold elems at h
 split at h
 ·cases h
  obtain ⟨a,cap,h1,h2,_⟩:=hx.lst_at
  exact ⟨a,cap,h1,h2⟩
 ·cases h
  cases hx with
  | cap0 _ a=>exact ⟨a,0,rfl,⟨fun h=>absurd rfl h,fun i e h=>by simp at h,fun _=>⟨rfl,rfl⟩,Nat.le_refl _⟩⟩
 ·split at h
  ·rename_i hb
   split at h
   ·rename_i hn
    cases h
    obtain ⟨a,cap,h1,h2,_⟩:=hx.osl_at hm hb hn
    exact ⟨a,cap,h1,h2⟩
   ·cases h
  ·cases h
 ·split at h
  ·rename_i hb
   split at h
   ·rename_i hn
    cases h
    obtain ⟨b,cap,a,rfl,ha,_,_,hel⟩:=hx.osv_at hm hb hn.1
    obtain ⟨h1,h2⟩:=hel.part ha hn.2.1 (by omega)
    exact ⟨some a,_,by rw [h1],h2⟩
   ·cases h
  ·cases h
 ·cases h
theorem len_sound {c:Cfg} (hc:CfgTy c P) (hm:Mem g bs w) {t ty:TypeId} {i:TI} (hti:c.ti t=some i) {x r:AV} {u:Value} {e:Eff} (hx:Rd g w x u) (h:lenA i.desc x bs=some (r,e)):
  e= .none∧ ∃v,(Builtin.len_ #[t] ty #[u]).run P w= .ok v w∧Rd g w r v:=by
 obtain ⟨info,hi⟩:=ty_is (hc.ty t i hti)
 unfold lenA at h
 split at h
 ·rename_i hdesc
  split at h
  ·cases h
   obtain rfl:=hx.str_inv
   exact ⟨rfl,_,by simp [Builtin.len_,run_underlying (hdesc▸hi.und)];rfl,by simp only [goInt,ByteArray.size,List.size_toArray];exact .int _ _⟩
  ·cases h
 ·rename_i hdesc
  split at h
  ·rename_i sz es hel
   cases h
   obtain ⟨a,cap,rfl,_⟩:=elems_at hm hx hel
   exact ⟨rfl,_,by simp [Builtin.len_,run_underlying (hdesc▸hi.und)];rfl,.int _ _⟩
  ·cases h
 ·rename_i n el hdesc
  cases h
  exact ⟨rfl,_,by simp [Builtin.len_,run_underlying (hdesc▸hi.und)];rfl,.int _ _⟩
 ·rename_i kt el hdesc
  split at h
  ·rename_i n hn
   cases h
   unfold mapLen at hn
   split at hn
   ·cases hn
    cases hx
    exact ⟨rfl,_,by simp [Builtin.len_,run_underlying (hdesc▸hi.und)];rfl,.int _ _⟩
   ·rename_i k
    split at hn
    ·rename_i es clock hb
     cases hn
     obtain ⟨b,he,ents,hh,hs,_⟩:=hm.mp k es clock hb
     cases hx with
     | mapv k b' h'=>
      rw [he] at h'
      cases h'
      refine ⟨rfl,_,?_,.int .i64 es.length⟩
      rw [←hs]
      have hg:(getObj b).run P w= .ok (.map ents clock) w:=by simp [getObj,Sem.run,hh]
      simp [Builtin.len_,run_underlying (hdesc▸hi.und)]
      rw [hg]
      rfl
    ·cases hn
   ·cases hn
  ·cases h
 ·cases h
end
end Go.Am
