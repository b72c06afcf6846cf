/- Each operation of the abstract machine is sound, second part: -/
import Derived.Test.YtfgbpngakkhdcaaGreatDoorAmOps
import Derived.Laws.BytesString
import Derived.Laws.Strings2
import Derived.Laws.Cells
open List renaming getElem?_drop->acC,getElem?_eq_getElem->aaF,getElem?_eq_none->abv,getElem?_take->acD
open Nat renaming add_assoc->acE,add_mul->abx,le_refl->aa0,lt_or_ge->abm,zero_add->abz
open Option renaming map_some->aa1
set_option linter.all false
namespace Go.Am
variable [Kn]
section
variable {P:Program} {g:Gh} {bs:List ad} {w:World}
theorem KY (hm:Mem g bs w) {op:UnOp} {x r:AV} {u:Value} (hx:Rd g w x u) (h:M7 op x=some r):
  cT ((do pure (Next.value (<-Op.unary op u)):Sem Next).run P w) g w bs r:=by
 unfold M7 at h;split at h
 ·obtain rfl:=hx.aJ;simp only [lF,Option.some.injEq] at h;subst h;exact .pure (v:=_) (by simp only [Op.unary,Op.intArith];rfl) hm (.int _ _)
 ·obtain rfl:=hx.aJ;simp only [lF,Option.some.injEq] at h;subst h;exact .pure (v:=_) (by simp only [Op.unary,Op.intBits];rfl) hm (.int _ _)
 ·obtain rfl:=hx.dx;cases h;exact .pure (v:=_) (by simp only [Op.unary];rfl) hm (.bool _)
 ·cases h
theorem FD (hm:Mem g bs w) {x p q r:AV} {u v z:Value} {e:c9} (hx:Rd g w x u) (hp:Rd g w p v) (hq:Rd g w q z) (h:wm x p q=some (r,e)):
  e= .none∧cT ((do pure (Next.value (if<-asBool u then v else z)):Sem Next).run P w) g w bs r:=by
 unfold wm at h;split at h
 ·obtain rfl:=hx.dx;cases h;exact ⟨rfl,.pure (v:=v) (by simp [asBool]) hm hp⟩
 ·obtain rfl:=hx.dx;cases h;exact ⟨rfl,.pure (v:=z) (by simp [asBool]) hm hq⟩
 ·cases h
theorem yq (hm:Mem g bs w) {x r:AV} {u:Value} {i:Nat} {e:c9} (hx:Rd g w x u) (h:jK x i=some (r,e)):
  e= .none∧cT ((do pure (Next.value (<-Instr.extract u i)):Sem Next).run P w) g w bs r:=by
 unfold jK at h;split at h
 ·rename_i vs;obtain ⟨us,rfl,hn,h'⟩:=hx.AE;cases hi:vs[i]? with
  | none=>rw [hi] at h;cases h
  | some y=>
   rw [hi] at h;cases h
   have hlt:i<us.size:=by
    rw [hn];rcases abm i vs.length with h' | h'
    ·exact h'
    ·rw [abv h'] at hi;cases hi
   exact ⟨rfl,.pure (v:=us[i]) (by simp [Instr.extract,hlt]) hm (h' i r _ hi (by simp [hlt]))⟩
 ·cases h
theorem Dn {c:av} (hc:bP c P) (hm:Mem g bs w) {t:TypeId} {x r:AV} {u:Value} {e:c9} {id:Nat} (hx:Rd g w x u) (h:wx c t x=some (r,e)) {bs':List ad} (he:e.on bs id=some bs'):
  cT ((do pure (Next.value (<-Instr.makeInterface t u)):Sem Next).run P w) g w bs' r:=by
 unfold wx at h;split at h
 ·rename_i i hi;obtain ⟨info,hinf⟩:=bG (hc.ty t i hi);split at h
  ·rename_i k' k n hd;cases h;cases he;obtain rfl:=hx.aJ;have hu:P.underlying t=some (.int k'):=by rw [hinf.fq,hd]
   exact .pure (v:= .iface t (.int k n)) (by simp [Instr.makeInterface,run_underlying hu]) hm (.ma _ _ _)
  ·cases h
 ·cases h
theorem xA (hm:Mem g bs w) {x r:AV} {e:c9} {o:Oper} {a:Act} {y:Operand} (ho:o.op= .nilCheck y) (hx:Rd g w x (a.eval y)) (h:g9 x=some (r,e)):
  e= .none∧cT ((execOp a.eval o).run P w) g w bs r:=by
 unfold g9 at h;split at h
 ·cases h;obtain ⟨b,_,hv⟩:=hx.gE;exact ⟨rfl,.pure (v:=a.eval y) (by simp [execOp,ho,hv]) hm hx⟩
 ·cases h;generalize hy:a.eval y=v at hx;cases hx with
  | dj cs b off vals hp h'=>exact ⟨rfl,.pure (v:=_) (by simp only [execOp,ho,hy];rfl) hm (.dj _ b off vals hp h')⟩
 ·cases h;generalize hy:a.eval y=v at hx;cases hx with
  | fn f cs ds vs us hn hm' h' h''=>exact ⟨rfl,.pure (v:=_) (by simp only [execOp,ho,hy];rfl) hm (.fn _ _ _ vs us hn hm' h' h'')⟩
 ·cases h
theorem N1 (s:List UInt8) (n:Nat):(ByteArray.mk s.toArray)[n]?=s[n]?:=by
 by_cases h:n<s.length
 ·rw [ByteArray.getElem?_lt' _ _ (by show n<s.toArray.size;simpa using h),aaF h];rfl
 ·rw [ByteArray.getElem?_ge' _ _ (by show¬ n<s.toArray.size;simpa using h),abv (by omega)]
theorem Dp {c:av} (hc:bP c P) (hm:Mem g bs w) {t:TypeId} {x y r:AV} {u v:Value} {e:c9} (hx:Rd g w x u) (hy:Rd g w y v) (h:qj c (c.ti t) x y=some (r,e)):
  e= .none∧cT ((do pure (Next.value (<-Instr.index t u v)):Sem Next).run P w) g w bs r:=by
 unfold qj at h;split at h
 ·rename_i i k n hti;obtain ⟨info,hi⟩:=bG (hc.ty t i hti);obtain rfl:=hy.aJ;split at h
  ·rename_i s hdesc;obtain rfl:=hx.cE;split at h
   ·rename_i hn;split at h
    ·rename_i b hb;cases h;refine ⟨rfl,.pure (v:= .int .u8 b.toNat) ?_ hm (.int _ _)⟩;simp [Instr.index,asIntOf,run_underlying (hdesc▸hi.fq),hn,N1,hb]
    ·cases h
   ·cases h
  ·rename_i len el cs hdesc;obtain ⟨vs,rfl,hsz,h'⟩:=hx.ew;split at h
   ·rename_i hn;split at h
    ·rename_i j hj;obtain ⟨einfo,he⟩:=bG (hc.ty el j hj);cases hp:iF j cs (n.toNat*j.size) with
     | none=>rw [hp] at h;cases h
     | some p=>rw [hp] at h;cases h;obtain ⟨z,hz,rz⟩:=Dl (P:=P) he hsz h' hp;refine ⟨rfl,.pure (v:=z) ?_ hm rz⟩;simp [Instr.index,asIntOf,run_underlying (hdesc▸hi.fq),hn,sizeOf,typeInfo,he.info,he.size,hz]
    ·cases h
   ·cases h
  ·cases h
 ·cases h
theorem xB {fs:Array Field} {f:Nat} {ty:TypeId} {o n:Nat} (h:(fieldsOf P (.struct fs))[f]?=some (ty,o,n)):
  ∃fl,fs[f]?=some fl∧fl.type=ty∧fl.offset=o∧((P.info? ty).map (·.size)).getD 0=n:=by
 simp only [fieldsOf,List.getElem?_map,Array.getElem?_toList] at h;cases hf:fs[f]? with
 | none=>rw [hf] at h;cases h
 | some fl=>rw [hf] at h;simp only [aa1,Option.some.injEq,Prod.mk.injEq] at h;obtain ⟨h1,h2,h3⟩:=h;exact ⟨fl,rfl,h1,h2,by rw [<-h1];exact h3⟩
theorem Dq {c:av} (hc:bP c P) (hm:Mem g bs w) {t:TypeId} {x r:AV} {u:Value} {f:Nat} {e:c9} (hx:Rd g w x u) (h:qi c (c.ti t) x f=some (r,e)):
  e= .none∧cT ((do pure (Next.value (<-Instr.field t u f)):Sem Next).run P w) g w bs r:=by
 unfold qi at h;split at h
 ·rename_i i cs hti;obtain ⟨info,hi⟩:=bG (hc.ty t i hti);obtain ⟨vs,rfl,hn,h'⟩:=hx.ew;split at h
  ·rename_i fs hdesc;split at h
   ·rename_i ty o n hf;rw [hi.fields,hdesc] at hf;obtain ⟨fl,hfl,rfl,rfl,_⟩:=xB hf;cases hp:iD c fl.type cs fl.offset with
    | none=>rw [hp] at h;cases h
    | some p=>rw [hp] at h;cases h;obtain ⟨z,hz,rz⟩:=ib hc hn h' hp;exact ⟨rfl,.pure (v:=z) (by simp [Instr.field,run_underlying (hdesc▸hi.fq),hfl,asAgg,hz]) hm rz⟩
   ·cases h
  ·cases h
 ·cases h
def kB (g:Gh) (w:World) (b o:Nat) (cs:List AV):Prop:= ∀(j:Nat) (x:AV),cs[j]?=some x-> ∃v,w.cell? ⟨b,o+j,none⟩=some v∧Rd g w x v
def sr (g:Gh) (w:World) (b o:Nat) (cs:List AV):Prop:= ∀(j:Nat) (x:AV),cs[j]?=some x-> ∃v,w.cell? ⟨b,o+j,none⟩=some v∧Rd g w x v∧v.oneCell'=true
theorem sr.cells {g:Gh} {w:World} {b o:Nat} {cs:List AV} (h:sr g w b o cs):kB g w b o cs:=fun j x hx=>let ⟨v,h1,h2,_⟩:=h j x hx;⟨v,h1,h2⟩
theorem Ck {t:TypeId} {i:TI} {info:TypeInfo} (hi:Fu P t i info) {b o off:Nat} {cs:List AV} {p:AV} (hcs:kB g w b o cs) (hp:iF i cs off=some p):
  ∃u,(loadVar t ⟨b,o+off,none⟩).run P w= .ok u w∧Rd g w p u:=by
 unfold iF at hp;have hd:=hi.agg;cases ha:i.agg with
 | true=>
  rw [ha] at hp hd;simp only at hp;split at hp
  ·rename_i hle;simp only [Option.some.injEq] at hp;subst hp
   have hex: ∀j,j<i.size-> ∃v,w.cell? ⟨b,o+off+j,none⟩=some v∧ ∀x,cs[off+j]?=some x->Rd g w x v:=fun j hj=>by
    have hlt:off+j<cs.length:=by omega
    obtain ⟨v,hv,rv⟩:=hcs (off+j) cs[off+j] (by simp [hlt]);refine ⟨v,by rw [acE];exact hv,fun x hx=> ?_⟩;rw [aaF hlt] at hx;cases hx;exact rv
   have hf: ∃f:Nat->Value,∀j,j<i.size->w.cell? ⟨b,o+off+j,none⟩=some (f j)∧ ∀x,cs[off+j]?=some x->Rd g w x (f j):=
    ⟨fun j=>if h:j<i.size then (hex j h).choose else undef,fun j hj=>by simp only [hj,dif_pos];exact (hex j hj).choose_spec⟩
   obtain ⟨f,hf⟩:=hf;have hl:=run_loadCells (P:=P) w ⟨b,o+off,none⟩ i.size f (fun j hj=>by rw [addr_add];exact (hf j hj).1);refine ⟨.agg ((List.range i.size).map f).toArray,?_,.agg _ _ (by simp;omega) (fun j x v hx hv=> ?_)⟩
   ·cases hdesc:i.desc <;> rw [hdesc] at hd <;> simp only [EZ,Bool.true_eq_false] at hd <;>
     simp [loadVar,isAgg,run_underlying (hdesc▸hi.fq),sizeOf,typeInfo,hi.info,hi.size,hl]
   ·rw [acD] at hx;split at hx
    ·rename_i hj;rw [acC] at hx;simp [hj] at hv;rw [<-hv];exact (hf j hj).2 x hx
    ·cases hx
  ·cases hp
 | false=>
  rw [ha] at hp hd;simp only at hp;obtain ⟨v,hv,rv⟩:=hcs off p hp;refine ⟨v,?_,rv⟩
  cases hdesc:i.desc <;> rw [hdesc] at hd <;> simp only [EZ,Bool.false_eq_true] at hd <;>
   simp [loadVar,isAgg,run_underlying (hdesc▸hi.fq),hv]
theorem Rd.Dr {cs:List AV} {v:Value} (h:Rd g w (.dj cs) v): ∃b off,v= .pointer (some ⟨b,off,none⟩)∧kB g w b off cs∧ ∀(j:Nat) (x:AV),cs[j]?=some x->x.plain=true∧g.S b (off+j):=by
 cases h with
 | dj _ b off vals hp h=>exact ⟨b,off,rfl,fun j x hx=>⟨vals j,(hp j x hx).2.2,h j x hx⟩,fun j x hx=>⟨(hp j x hx).1,(hp j x hx).2.1⟩⟩
theorem Rd.Hc {cs:List AV} {b off:Nat} (h:kB g w b off cs) (hp: ∀(j:Nat) (x:AV),cs[j]?=some x->x.plain=true∧g.S b (off+j)):Rd g w (.dj cs) (.pointer (some ⟨b,off,none⟩)):=by
 refine .dj cs b off (fun j=>if hj:j<cs.length then (h j cs[j] (by simp [hj])).choose else undef) (fun j x hx=> ?_) (fun j x hx=> ?_)
 all_goals
  have hj:j<cs.length:=by
   rcases abm j cs.length with h' | h'
   ·exact h'
   ·rw [abv h'] at hx;cases hx
  have he:cs[j]=x:=by rw [aaF hj] at hx;exact Option.some.inj hx
  have hs:=(h j cs[j] (by simp [hj])).choose_spec;simp only [hj,dif_pos]
 ·exact ⟨(hp j x hx).1,(hp j x hx).2,hs.1⟩
 ·rw [<-he];exact hs.2
theorem Rd.ss (hm:Mem g bs w) {k n i off:Nat} {v:Value} (h:Rd g w (.cM k n i off) v) {sh:Hd} {sz:Nat} {es:List AV} (hb:ad.at bs k= .sl sh sz es) (hn:n=es.length) (h0:n≠0):
  ∃b cap,g.e k= .sl n sz (some (b,cap))∧v= .pointer (some ⟨b,i*sz+off,none⟩)∧nv g w sh sz es b cap:=by
 obtain ⟨loc,he,hr⟩:=hm.sl k sh sz es hb;cases h with
 | cM _ _ _ _ m sz' loc' _ h1 h hle hv=>
  rw [he] at h;cases h;rcases hv hn with ⟨b,cap,rfl,rfl⟩ | ⟨_,h2,_⟩
  ·exact ⟨b,cap,by rw [he,hn],rfl,hr.2⟩
  ·exact absurd h2 h0
theorem xC (hm:Mem g bs w) {x r:AV} {u:Value} {o:Nat} {e:c9} (hx:Rd g w x u) (h:nh x o bs=some (r,e)):
  e= .none∧ ∃b off,u= .pointer (some ⟨b,off,none⟩)∧Rd g w r (.pointer (some ⟨b,off+o,none⟩)):=by
 unfold nh at h;split at h
 ·cases h;obtain ⟨b,he,rfl⟩:=hx.gE;exact ⟨rfl,b,_,rfl,.ptr _ _ b he⟩
 ·rename_i k n i off;split at h
  ·rename_i sh sz es hb;split at h
   ·rename_i hn;cases h;obtain ⟨b,cap,he,rfl,_⟩:=hx.ss hm hb hn.1 (by omega);refine ⟨rfl,b,_,rfl,.cM k n i (off+o) n sz (some (b,cap)) _ rfl he (aa0 _) (fun _=> .inl ⟨b,cap,rfl,by rw [acE]⟩)⟩
   ·cases h
  ·cases h
 ·cases h;obtain ⟨b,off,rfl,hcs,hp⟩:=hx.Dr;refine ⟨rfl,b,off,rfl,Rd.Hc (fun j x hx=> ?_) (fun j x hx=> ?_)⟩
  ·rw [acC] at hx;have:=hcs _ _ hx
   rwa [<-acE] at this
  ·rw [acC] at hx;have:=hp _ _ hx
   rwa [<-acE] at this
 ·cases h
theorem vo {c:av} (hc:bP c P) (hm:Mem g bs w) {t:TypeId} {x r:AV} {u:Value} {f:Nat} {e:c9} (hx:Rd g w x u) (h:cN (c.ti t) x f bs=some (r,e)):
  e= .none∧cT ((do pure (Next.value (<-Instr.fieldAt t u f)):Sem Next).run P w) g w bs r:=by
 unfold cN at h;split at h
 ·rename_i i hti;obtain ⟨info,hi⟩:=bG (hc.ty t i hti);split at h
  ·rename_i fs hdesc;split at h
   ·rename_i ty o n hf;rw [hi.fields,hdesc] at hf;obtain ⟨fl,hfl,rfl,rfl,hsz⟩:=xB hf;split at h
    ·cases h
    ·rename_i n';obtain ⟨he,b,off,rfl,rr⟩:=xC hm hx h;refine ⟨he,.pure (v:=_) ?_ hm rr⟩;cases hinf:P.info? fl.type with
     | none=>rw [hinf] at hsz;simp at hsz
     | some inf=>rw [hinf] at hsz;simp only [aa1,Option.getD_some] at hsz;simp [Instr.fieldAt,run_underlying (hdesc▸hi.fq),hfl,Instr.sureAddr,fieldPlace,sizeOf,typeInfo,hinf,hsz,addr_add]
   ·cases h
  ·cases h
 ·cases h
structure df (g:Gh) (w:World) (sz:Nat) (es:List AV) (a:Option Addr) (cap:Nat):Prop where
 at_:es≠ []-> ∃b off,a=some ⟨b,off,none⟩∧ ∀(i:Nat) (e:AV),es[i]?=some e->sr g w b (off+i*sz) e.cells
 ok: ∀(i:Nat) (e:AV),es[i]?=some e->e.plain=true∧e.cells.length=sz
 nil:a=none->es= []∧cap=0
 cap:es.length<=cap
theorem Rd.FE {nl:Option Bool} {sz:Nat} {es:List AV} {v:Value} (h:Rd g w (.ag nl sz es) v):
  ∃a cap,v= .slice a es.length cap∧df g w sz es a cap∧(∀x,nl=some x->a.isNone=x)∧(∀b off,a=some ⟨b,off,none⟩-> ∀(i j:Nat) (e x:AV),es[i]?=some e->e.cells[j]?=some x->g.S b (off+i*sz+j)):=by
 cases h with
 | ag _ _ _ a cap b off vals hnl hnil hcap ha hp hc h=>
  refine ⟨a,cap,rfl,⟨fun hne=>⟨b,off,ha hne,fun i e he j x hx=>⟨vals i j,(hc i j e x he hx).2.1,h i j e x he hx,(hc i j e x he hx).2.2⟩⟩,hp,hnil,hcap⟩,hnl,fun b' off' ha' i j e x he hx=> ?_⟩;have hne:es≠ []:=by intro h0;rw [h0] at he;cases he
  have:=ha hne;rw [ha'] at this;simp only [Option.some.injEq,Addr.mk.injEq] at this;rw [this.1,this.2.1];exact (hc i j e x he hx).1
omit [Kn] in
theorem ah {α:Type} {l:List α} {i:Nat} {x:α} (h:l[i]?=some x):i<l.length:=by
 rcases abm i l.length with h' | h'
 ·exact h'
 ·rw [abv h'] at h;cases h
theorem nv.vI {sh:Hd} {sz:Nat} {es:List AV} {b cap:Nat} (h:nv g w sh sz es b cap) (hok: ∀(i:Nat) (e:AV),es[i]?=some e->e.plain=true∧e.cells.length=sz) {i:Nat} {e:AV} (he:es[i]?=some e):
  sr g w b (i*sz) e.cells:=by
 obtain ⟨c,ty,fz,hh,hsz,hcap,hf,hcs,_⟩:=h;intro j x hx;have hi:=ah he;have hj:=ah hx;rw [(hok i e he).2] at hj
 have hlt:i*sz+j<c.size:=by rw [hsz];have:(i+1)*sz<=cap*sz:=Nat.mul_le_mul_right _ (by omega);rw [abx] at this;omega
 have:=hcs i j e x _ he hx (show c[i*sz+j]?=some c[i*sz+j] by simp [hlt]);exact ⟨c[i*sz+j],by rw [eJ hh];simp [hlt],this.1,this.2⟩
theorem Rd.jN (hm:Mem g bs w) {k n:Nat} {v:Value} (h:Rd g w (.ax k n) v) {sh:Hd} {sz:Nat} {es:List AV} (hb:ad.at bs k= .sl sh sz es) (hn:n=es.length):
  ∃a cap,v= .slice a es.length cap∧df g w sz es a cap∧ ∃loc,g.e k= .sl n sz loc∧lI g w sh sz es loc∧((∃b,loc=some (b,cap)∧a=some ⟨b,0,none⟩)∨(loc=none∧es= []∧cap=0∧a=none)):=by
 obtain ⟨loc,he,hr⟩:=hm.sl k sh sz es hb;cases h with
 | ax _ _ m sz' loc' _ h1 h hle hv=>
  rw [he] at h;cases h;rcases hv hn with ⟨b,cap,rfl,rfl⟩ | ⟨rfl,h0,rfl⟩
  ·refine ⟨some ⟨b,0,none⟩,cap,by rw [hn],⟨fun _=>⟨b,0,rfl,fun i e hei=> ?_⟩,hr.1,(fun h=>by cases h),?_⟩,some (b,cap),by rw [he,hn],hr,.inl ⟨b,rfl,rfl⟩⟩
   ·rw [abz];exact nv.vI hr.2 hr.1 hei
   ·obtain ⟨_,_,_,_,_,hcap,_⟩:=hr.2;omega
  ·have hes:es= []:=by cases es with
    | nil=>rfl
    | cons x l=>simp at hn;omega
   subst hes;exact ⟨none,0,by simp,⟨fun h=>absurd rfl h,hr.1,fun _=>⟨rfl,rfl⟩,aa0 _⟩,none,by rw [he,hn],hr,.inr ⟨rfl,rfl,rfl,rfl⟩⟩
theorem Rd.qm (hm:Mem g bs w) {k n lo hi:Nat} {v:Value} (h:Rd g w (.gn k n lo hi) v) {sh:Hd} {sz:Nat} {es:List AV} (hb:ad.at bs k= .sl sh sz es) (hn:n=es.length):
  ∃b cap a,v= .slice (some a) (hi-lo) (cap-lo)∧(a=⟨b,lo*sz,none⟩∨cap=lo)∧g.e k= .sl n sz (some (b,cap))∧lI g w sh sz es (some (b,cap))∧df g w sz es (some ⟨b,0,none⟩) cap:=by
 obtain ⟨loc,he,hr⟩:=hm.sl k sh sz es hb;cases h with
 | gn _ _ _ _ m sz' loc' _ h1 h hle hv=>
  rw [he] at h;cases h;obtain ⟨b,cap,a,rfl,rfl,ha⟩:=hv hn;refine ⟨b,cap,a,rfl,ha,by rw [he,hn],hr,fun _=>⟨b,0,rfl,fun i e hei=> ?_⟩,hr.1,(fun h=>by cases h),?_⟩
  ·rw [abz];exact nv.vI hr.2 hr.1 hei
  ·obtain ⟨_,_,_,_,_,hcap,_⟩:=hr.2;omega
omit [Kn] in
theorem Dt {es:List AV} {h l i:Nat} {e:AV} (he:((es.take h).drop l)[i]?=some e):es[l+i]?=some e:=by
 rw [acC,acD] at he;split at he
 ·exact he
 ·cases he
theorem df.part {sz:Nat} {es:List AV} {b cap lo hi:Nat} {a:Addr} (h:df g w sz es (some ⟨b,0,none⟩) cap) (ha:a=⟨b,lo*sz,none⟩∨cap=lo) (hlh:lo<=hi) (hh:hi<=es.length):
  ((es.take hi).drop lo).length=hi-lo∧df g w sz ((es.take hi).drop lo) (some a) (cap-lo):=by
 have hlen:((es.take hi).drop lo).length=hi-lo:=by simp;omega
 have hcap:=h.cap;refine ⟨hlen,fun hne=> ?_,fun i e he=>h.ok _ _ (Dt he),(fun h=>by cases h),by omega⟩;have hpos:0<hi-lo:=by rw [<-hlen];exact List.length_pos_iff.2 hne
 rcases ha with rfl | ha
 ·refine ⟨b,lo*sz,rfl,fun i e he=> ?_⟩;have hes:es≠ []:=by intro h0;rw [h0] at hne;simp at hne
  obtain ⟨b',off,ha,hcs⟩:=h.at_ hes;cases ha;have:=hcs _ _ (Dt he)
  rwa [show 0+(lo+i)*sz=lo*sz+i*sz by rw [abx];omega] at this
 ·omega
theorem ou (hm:Mem g bs w) {x:AV} {v:Value} {sz:Nat} {es:List AV} (hx:Rd g w x v) (h:elems bs x=some (sz,es)): ∃a cap,v= .slice a es.length cap∧df g w sz es a cap:=by
 unfold elems at h;split at h
 ·cases h;obtain ⟨a,cap,h1,h2,_⟩:=hx.FE;exact ⟨a,cap,h1,h2⟩
 ·cases h;cases hx with
  | cv _ a=>exact ⟨a,0,rfl,⟨fun h=>absurd rfl h,fun i e h=>by simp at h,fun _=>⟨rfl,rfl⟩,aa0 _⟩⟩
 ·split at h
  ·rename_i hb;split at h
   ·rename_i hn;cases h;obtain ⟨a,cap,h1,h2,_⟩:=hx.jN hm hb hn;exact ⟨a,cap,h1,h2⟩
   ·cases h
  ·cases h
 ·split at h
  ·rename_i hb;split at h
   ·rename_i hn;cases h;obtain ⟨b,cap,a,rfl,ha,_,_,hel⟩:=hx.qm hm hb hn.1;obtain ⟨h1,h2⟩:=hel.part ha hn.2.1 (by omega);exact ⟨some a,_,by rw [h1],h2⟩
   ·cases h
  ·cases h
 ·cases h
theorem Iz {c:av} (hc:bP c P) (hm:Mem g bs w) {t ty:TypeId} {i:TI} (hti:c.ti t=some i) {x r:AV} {u:Value} {e:c9} (hx:Rd g w x u) (h:qh i.desc x bs=some (r,e)):
  e= .none∧ ∃v,(Builtin.len_ #[t] ty #[u]).run P w= .ok v w∧Rd g w r v:=by
 obtain ⟨info,hi⟩:=bG (hc.ty t i hti);unfold qh at h;split at h
 ·rename_i hdesc;split at h
  ·cases h;obtain rfl:=hx.cE;exact ⟨rfl,_,by simp [Builtin.len_,run_underlying (hdesc▸hi.fq)];rfl,by simp only [goInt,ByteArray.size,List.size_toArray];exact .int _ _⟩
  ·cases h
 ·rename_i hdesc;split at h
  ·rename_i sz es hel;cases h;obtain ⟨a,cap,rfl,_⟩:=ou hm hx hel;exact ⟨rfl,_,by simp [Builtin.len_,run_underlying (hdesc▸hi.fq)];rfl,.int _ _⟩
  ·cases h
 ·rename_i n el hdesc;cases h;exact ⟨rfl,_,by simp [Builtin.len_,run_underlying (hdesc▸hi.fq)];rfl,.int _ _⟩
 ·cases h
end
end Go.Am
