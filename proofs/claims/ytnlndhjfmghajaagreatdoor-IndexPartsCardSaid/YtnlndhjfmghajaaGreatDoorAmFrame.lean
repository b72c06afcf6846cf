/- What a row's input reads as, for the abstract machine: -/
import Derived.Test.YtnlndhjfmghajaaGreatDoorAmSeat
import Derived.ChangeBears
import Derived.WideShapes
import Derived.ProofKit
import Derived.OpenShut
import Derived.ShutString
import Derived.ChangeOld
import Derived.Carry
set_option linter.all false
namespace Go.Am
variable [Kn]
open Go.WideShapes
def aggU:Option TypeDesc→Bool
 | some (.struct _) | some (.array _ _)=>true
 | _=>false
def elemOfCells (agg:Bool) (cs:List AV):AV:=
 match agg with
 | true=> .agg cs
 | false=>cs.headD .any
variable {H:Type}
def avd (P:Program):Nat→TypeId→DataW H→List AV
 | 0,_,_=> []
 | n+1,t,d=>match P.underlying t,d with
  | some .bool,.lit (.bool b)=> [.bool b]
  | some (.int _),.lit (.int k m)=> [.int k m]
  | some .string,.lit (.string s)=> [.str s]
  | some (.pointer _),.nil=> [.nilp]
  | some (.pointer e),.ptr x=>if P.cellsOf e=0 then [.unk] else [.eptr (avd P n e x)]
  | some (.slice _),.nil=> [.lst (some true) 0 []]
  | some (.slice e),.slice es _=>if P.cellsOf e=0 then [.unk] else [.lst (some false) (P.cellsOf e) (es.map fun d=>elemOfCells (aggU (P.underlying e)) (avd P n e d))]
  | some (.struct fs),.agg ds=>(List.zipWith (fun f d=>avd P n f.type d) fs.toList ds).flatten
  | some (.array _ e),.agg ds=>(ds.map (avd P n e)).flatten
  | _,_=> [.unk]
structure CRd (w:World) (xs:List AV) (cs:List Value):Prop where
 len:xs.length=cs.length
 rd: ∀(j:Nat) (x:AV) (v:Value),xs[j]?=some x→cs[j]?=some v→Rd (allS w) w x v
 plain: ∀x∈xs,x.plain=true
 cell: ∀x∈xs,x.isCell=true
 one: ∀v∈cs,v.oneCell'=true
theorem CRd.one_of {w:World} {x:AV} {v:Value} (h:Rd (allS w) w x v) (hp:x.plain=true) (hc:x.isCell=true) (ho:v.oneCell'=true):CRd w [x] [v]:=
 ⟨rfl,fun j x' v' hx hv=>by
  cases j with
  | zero=>simp at hx hv;subst hx;subst hv;exact h
  | succ j=>simp at hx,by simpa using hp,by simpa using hc,by simpa using ho⟩
theorem CRd.append {w:World} {xs ys:List AV} {cs ds:List Value} (h:CRd w xs cs) (k:CRd w ys ds):CRd w (xs++ys) (cs++ds) where
 len:=by simp [h.len,k.len]
 rd:=fun j x v hx hv=>by
  rcases Nat.lt_or_ge j xs.length with hj | hj
  ·rw [List.getElem?_append_left hj] at hx
   rw [List.getElem?_append_left (by rw [←h.len];exact hj)] at hv
   exact h.rd j x v hx hv
  ·rw [List.getElem?_append_right hj] at hx
   rw [List.getElem?_append_right (by rw [←h.len];exact hj),←h.len] at hv
   exact k.rd _ x v hx hv
 plain:=fun x hx=>(List.mem_append.1 hx).elim (fun hx=>h.plain x hx) (fun hx=>k.plain x hx)
 cell:=fun x hx=>(List.mem_append.1 hx).elim (fun hx=>h.cell x hx) (fun hx=>k.cell x hx)
 one:=fun x hx=>(List.mem_append.1 hx).elim (fun hx=>h.one x hx) (fun hx=>k.one x hx)
theorem CRd.nil (w:World):CRd w [] []:=⟨rfl,fun j x v h=>by simp at h,fun _ h=>by simp at h,fun _ h=>by simp at h,fun _ h=>by simp at h⟩
omit [Kn] in
theorem mapM_get {α β:Type} {f:α→Option β}: ∀{l:List α} {r:List β},l.mapM f=some r→r.length=l.length∧ ∀(i:Nat) (a:α) (b:β),l[i]?=some a→r[i]?=some b→f a=some b
 | [],r,h=>by
  simp at h;subst h
  exact ⟨rfl,fun i a b h=>by simp at h⟩
 | a::l,r,h=>by
  rw [List.mapM_cons] at h
  simp only [Option.bind_eq_bind,Option.bind_eq_some_iff,Option.pure_def,Option.some.injEq] at h
  obtain ⟨b,hb,r',hr',rfl⟩:=h
  obtain ⟨h1,h2⟩:=mapM_get hr'
  refine ⟨by simp [h1],fun i a' b' ha hb'=> ?_⟩
  cases i with
  | zero=>simp at ha hb';subst ha;subst hb';exact hb
  | succ i=>simp at ha hb';exact h2 i a' b' ha hb'
theorem cells_get {w:World} {base:Nat} {a:Addr} {n:Nat} {cs:List Value} (h:w.cells? base a n=some cs):cs.length=n∧ ∀(j:Nat) (v:Value),cs[j]?=some v→w.cell? (a.add j)=some v:=by
 unfold World.cells? at h
 split at h
 ·obtain ⟨h1,h2⟩:=mapM_get h
  rw [List.length_range] at h1
  refine ⟨h1,fun j v hv=> ?_⟩
  have hj:=getElem?_lt hv
  exact h2 j j v (by rw [List.getElem?_range (by omega)]) hv
 ·cases h
theorem CRd.pieces (w:World): ∀(l:List (List AV)) (szs:List Nat) (cs:List Value),l.length=szs.length→cs.length=szs.sum→
  (∀(j:Nat) (xs:List AV) (sz:Nat),l[j]?=some xs→szs[j]?=some sz→CRd w xs ((cs.drop (szs.take j).sum).take sz))→CRd w l.flatten cs
 | [], [],cs,_,h,_=>by
  simp at h
  subst h
  exact CRd.nil w
 | xs::l,sz::szs,cs,hl,hs,h=>by
  have h0:=h 0 xs sz rfl rfl
  simp only [List.take_zero,List.sum_nil,List.drop_zero] at h0
  have hr:=CRd.pieces w l szs (cs.drop sz) (by simpa using hl) (by simp at hs⊢;omega) (fun j ys sz' hy hz=>by
   have:=h (j+1) ys sz' (by simpa using hy) (by simpa using hz)
   simp only [List.take_succ_cons,List.sum_cons] at this
   rwa [←List.drop_drop] at this)
  have:=h0.append hr
  rwa [List.take_append_drop] at this
 | [],_::_,_,h,_,_=>by simp at h
 | _::_, [],_,h,_,_=>by simp at h
theorem avd_one (P:Program) (n:Nat) (t:TypeId) (d:DataW H) (h:aggU (P.underlying t)=false):(avd P (n+1) t d).length=1:=by
 unfold avd
 split <;> first | rfl | (split <;> rfl) | (rename_i hu;rw [hu] at h;cases h)
theorem elem_ok {agg:Bool} {xs:List AV} {w:World} {cs:List Value} (h:CRd w xs cs) (h1:agg=false→xs.length=1):(elemOfCells agg xs).plain=true∧(elemOfCells agg xs).cells=xs:=by
 cases agg with
 | true=>
  refine ⟨?_,rfl⟩
  have: ∀l:List AV,(∀x∈l,x.plain=true)→plainAll l=true:=fun l=>by
   induction l with
   | nil=>intro _;rfl
   | cons x r ih=>intro hx;simp only [plainAll,Bool.and_eq_true];exact ⟨hx x List.mem_cons_self,ih fun y hy=>hx y (List.mem_cons_of_mem _ hy)⟩
  simp only [elemOfCells,AV.plain]
  exact this xs h.plain
 | false=>
  match xs,h1 rfl with
  | [x],_=>
   have hc:=h.cell x List.mem_cons_self
   refine ⟨h.plain x List.mem_cons_self,?_⟩
   simp only [elemOfCells,List.headD_cons]
   cases x <;> first | rfl | cases hc
theorem cell_at {w:World} {a:Addr} {v:Value} (h:w.cell? a=some v):a.spot=none∧a.block<w.heap.size:=by
 unfold World.cell? at h
 split at h
 ·rename_i hh
  split at h
  ·cases h
  ·rename_i hs
   exact ⟨by simpa using hs,lt_of_row hh⟩
 ·cases h
set_option maxHeartbeats 1000000 in
theorem trod_rd {enc:TypeId×Value→H} {P:Program} (hl:laidOutB P=true) {w:World} {base:Nat} {spare:Nat→Bool} {held:Bool}: ∀(n:Nat) (t:TypeId) (cs:List Value) (d:DataW H) (ps:List MemPlace),t<P.types.size→
  DataW.trod enc P w base spare held n t cs=some (d,ps)→CRd w (avd P n t d) cs
 | 0,_,_,_,_,_,h=>by cases h
 | n+1,t,cs,d,ps,ht,h=>by
  have ih:=fun t cs d ps ht h=>trod_rd (enc:=enc) hl (w:=w) (base:=base) (spare:=spare) (held:=held) n t cs d ps ht h
  unfold DataW.trod at h
  unfold avd
  split at h
  ·rename_i hu;cases h;rw [hu];exact .one_of (.bool _) rfl rfl rfl
  ·rename_i hu
   split at h
   ·rename_i hk;cases h;rw [hu];obtain ⟨rfl,_⟩:=hk;exact .one_of (.int _ _) rfl rfl rfl
   ·cases h
  ·rename_i hu
   split at h
   ·cases h;rw [hu];exact .one_of (.unk _ rfl) rfl rfl rfl
   ·cases h
  ·rename_i s hu
   split at h
   ·cases h;rw [hu]
    have:=Rd.str (g:=allS w) (w:=w) s.data.toList
    exact .one_of this rfl rfl rfl
   ·cases h
  ·rename_i hu;cases h;rw [hu];exact .one_of .nilp rfl rfl rfl
  ·rename_i e a hu
   rw [Option.map_eq_some_iff] at h
   obtain ⟨⟨x,q⟩,hx,h⟩:=h
   cases h
   rw [hu]
   rw [Option.bind_eq_some_iff] at hx
   obtain ⟨vs,hvs,hx⟩:=hx
   have hc:=ih e vs x q (kid_pointer hl ht hu) hx
   obtain ⟨hlen,hget⟩:=cells_get hvs
   simp only
   split
   ·exact .one_of (.unk _ rfl) rfl rfl rfl
   ·rename_i hz
    obtain ⟨v0,hv0⟩: ∃v0,vs[0]?=some v0:=by
     cases vs with
     | nil=>simp at hlen;omega
     | cons v _=>exact ⟨v,rfl⟩
    obtain ⟨b,off,spot⟩:=a
    obtain ⟨hsp,hblt⟩:=cell_at (hget 0 v0 hv0)
    have hsp':spot=none:=by simpa [Addr.add] using hsp
    subst hsp'
    have hblt':b<w.heap.size:=by simpa [Addr.add] using hblt
    refine .one_of (.eptr _ b off (fun j=>vs.getD j undef) (fun j x hj=> ?_) (fun j x hj=> ?_)) rfl rfl rfl
    ·have hjl:=getElem?_lt hj
     rw [hc.len] at hjl
     refine ⟨hc.plain x (List.mem_of_getElem? hj),hblt',?_⟩
     have:=hget j vs[j] (by simp [hjl])
     rw [addr_add] at this
     rw [this];simp [List.getD,hjl]
    ·have hjl:=getElem?_lt hj
     rw [hc.len] at hjl
     exact hc.rd j x _ hj (by simp [List.getD,hjl])
  ·rename_i hu;cases h;rw [hu]
   exact .one_of (.lst (some true) 0 [] none 0 0 0 (fun _ _=>undef) (fun x hx=>by cases hx;rfl) (fun _=>⟨rfl,rfl⟩) (Nat.le_refl _) (fun h=>absurd rfl h) (fun i e he=>by simp at he) (fun i j e x he=>by simp at he) (fun i j e x he=>by simp at he)) rfl rfl rfl
  ·rename_i e a len cap hu
   split at h
   ·rename_i hcond
    rw [Option.bind_eq_some_iff] at h
    obtain ⟨elems,helems,h⟩:=h
    rw [Option.map_eq_some_iff] at h
    obtain ⟨rest,hrest,h⟩:=h
    cases h
    rw [hu]
    simp only
    split
    ·exact .one_of (.unk _ rfl) rfl rfl rfl
    ·rename_i hz
     obtain ⟨hel,hget⟩:=mapM_get helems
     rw [List.length_range] at hel
     have hone: ∀(i:Nat) (p:DataW H×List MemPlace),elems[i]?=some p→ ∃vs,w.cells? base (a.add (i*P.cellsOf e)) (P.cellsOf e)=some vs∧DataW.trod enc P w base spare held n e vs=some p:=fun i p hp=>by
      have hi:=getElem?_lt hp
      have:=hget i i p (by rw [List.getElem?_range (by omega)]) hp
      rwa [Option.bind_eq_some_iff] at this
     have hn1:elems≠ []→ ∃m,n=m+1:=fun hne=>by
      cases n with
      | succ m=>exact ⟨m,rfl⟩
      | zero=>
       obtain ⟨p,hp⟩: ∃p,elems[0]?=some p:=by
        cases elems with
        | nil=>exact absurd rfl hne
        | cons p _=>exact ⟨p,rfl⟩
       obtain ⟨vs,_,h2⟩:=hone 0 p hp
       cases h2
     obtain ⟨b,off,spot⟩:=a
     have hsp:elems≠ []→spot=none∧b<w.heap.size:=fun hne=>by
      obtain ⟨p,hp⟩: ∃p,elems[0]?=some p:=by
       cases elems with
       | nil=>exact absurd rfl hne
       | cons p _=>exact ⟨p,rfl⟩
      obtain ⟨vs,h1,_⟩:=hone 0 p hp
      obtain ⟨hlen,hg⟩:=cells_get h1
      obtain ⟨v0,hv0⟩: ∃v0,vs[0]?=some v0:=by
       cases vs with
       | nil=>simp at hlen;omega
       | cons v _=>exact ⟨v,rfl⟩
      have:=cell_at (hg 0 v0 hv0)
      simpa [Addr.add] using this
     have hkid:=kid_slice hl ht hu
     have hdat: ∀(i:Nat) (p:DataW H×List MemPlace),elems[i]?=some p→spot=none∧b<w.heap.size∧ ∃vs,vs.length=P.cellsOf e∧(∀(j:Nat) (v:Value),vs[j]?=some v→w.cell? ⟨b,off+i*P.cellsOf e+j,none⟩=some v)∧CRd w (avd P n e p.1) vs∧
       (elemOfCells (aggU (P.underlying e)) (avd P n e p.1)).plain=true∧(elemOfCells (aggU (P.underlying e)) (avd P n e p.1)).cells=avd P n e p.1:=fun i p hp=>by
      have hne:elems≠ []:=fun h0=>by rw [h0] at hp;simp at hp
      obtain ⟨hs,hb⟩:=hsp hne
      obtain ⟨vs,h1,h2⟩:=hone i p hp
      obtain ⟨hlen,hg⟩:=cells_get h1
      have hc:=ih e vs p.1 p.2 hkid h2
      obtain ⟨m,hm⟩:=hn1 hne
      obtain ⟨k1,k2⟩:=elem_ok (agg:=aggU (P.underlying e)) hc (fun ha=>by rw [hm];exact avd_one P m e p.1 ha)
      subst hs
      refine ⟨rfl,hb,vs,hlen,fun j v hv=> ?_,hc,k1,k2⟩
      have:=hg j v hv
      rwa [addr_add,addr_add] at this
     have hel': ∀(i:Nat) (x:AV),((elems.map (·.1)).map fun d=>elemOfCells (aggU (P.underlying e)) (avd P n e d))[i]?=some x→ ∃p,elems[i]?=some p∧x=elemOfCells (aggU (P.underlying e)) (avd P n e p.1):=fun i x hx=>by
      rw [List.getElem?_map,List.getElem?_map] at hx
      cases hp:elems[i]? with
      | none=>rw [hp] at hx;cases hx
      | some p=>rw [hp] at hx;cases hx;exact ⟨p,rfl,rfl⟩
     have hlen:((elems.map (·.1)).map fun d=>elemOfCells (aggU (P.underlying e)) (avd P n e d)).length=len:=by simp [hel]
     have key:=Rd.lst (g:=allS w) (w:=w) (some false) (P.cellsOf e) ((elems.map (·.1)).map fun d=>elemOfCells (aggU (P.underlying e)) (avd P n e d)) (some ⟨b,off,spot⟩) cap b off (fun i j=>(w.cell? ⟨b,off+i*P.cellsOf e+j,none⟩).getD undef)
      (fun x hx=>by cases hx;rfl) (fun h=>by cases h) (by rw [hlen];exact hcond.2.1)
      (fun hne=>by
       have:elems≠ []:=fun h0=>hne (by rw [h0];rfl)
       rw [(hsp this).1])
      (fun i x hx=>by
       obtain ⟨p,hp,rfl⟩:=hel' i x hx
       obtain ⟨_,_,vs,hv,_,hc,k1,k2⟩:=hdat i p hp
       exact ⟨k1,by rw [k2,hc.len,hv]⟩)
      (fun i j x y hx hy=>by
       obtain ⟨p,hp,rfl⟩:=hel' i x hx
       obtain ⟨_,hb,vs,hv,hcell,hc,k1,k2⟩:=hdat i p hp
       rw [k2] at hy
       have hjl:=getElem?_lt hy
       rw [hc.len] at hjl
       have:=hcell j vs[j] (by simp [hjl])
       refine ⟨hb,by rw [this];rfl,?_⟩
       rw [this]
       exact hc.one _ (by simp))
      (fun i j x y hx hy=>by
       obtain ⟨p,hp,rfl⟩:=hel' i x hx
       obtain ⟨_,hb,vs,hv,hcell,hc,k1,k2⟩:=hdat i p hp
       rw [k2] at hy
       have hjl:=getElem?_lt hy
       rw [hc.len] at hjl
       have:=hcell j vs[j] (by simp [hjl])
       rw [this]
       exact hc.rd j y _ hy (by simp [hjl]))
     rw [hlen] at key
     exact .one_of key rfl rfl rfl
   ·cases h
  ·rename_i cs' fs hu
   split at h
   ·rename_i hcl
    rw [Option.map_eq_some_iff] at h
    obtain ⟨xs,hxs,h⟩:=h
    cases h
    rw [hu]
    simp only
    obtain ⟨hlen,hget⟩:=mapM_get hxs
    obtain ⟨hk1,hk2,hk3⟩:=kid_struct hl ht hu
    refine CRd.pieces w _ (fs.toList.map fun f=>P.cellsOf f.type) _ (by simp [hlen]) (by rw [hcl,hk2]) (fun j ys sz hy hsz=> ?_)
    rw [List.getElem?_map] at hsz
    cases hf:fs.toList[j]? with
    | none=>rw [hf] at hsz;cases hsz
    | some f=>
     rw [hf] at hsz;cases hsz
     rw [List.getElem?_zipWith,hf,List.getElem?_map] at hy
     cases hx:xs[j]? with
     | none=>rw [hx] at hy;cases hy
     | some x=>
      rw [hx] at hy;cases hy
      have:=ih f.type _ x.1 x.2 (hk1 f (List.mem_of_getElem? hf)) (hget j f x hf hx)
      rw [hk3 j f hf] at this
      rwa [List.map_take] at this
   ·cases h
  ·rename_i cs' m e hu
   split at h
   ·rename_i hcl
    rw [Option.map_eq_some_iff] at h
    obtain ⟨xs,hxs,h⟩:=h
    cases h
    rw [hu]
    simp only
    obtain ⟨hlen,hget⟩:=mapM_get hxs
    rw [List.length_range] at hlen
    obtain ⟨hk1,hk2⟩:=kid_array hl ht hu
    refine CRd.pieces w _ (List.replicate m (P.cellsOf e)) _ (by simp [hlen]) (by rw [hcl,hk2];simp) (fun j ys sz hy hsz=> ?_)
    have hj:=getElem?_lt hsz
    rw [List.length_replicate] at hj
    rw [List.getElem?_replicate,if_pos hj] at hsz
    cases hsz
    rw [List.getElem?_map,List.getElem?_map] at hy
    cases hx:xs[j]? with
    | none=>rw [hx] at hy;cases hy
    | some x=>
     rw [hx] at hy;cases hy
     have:=ih e _ x.1 x.2 hk1 (hget j j x (by rw [List.getElem?_range hj]) hx)
     rw [List.take_replicate,Nat.min_eq_left (by omega),List.sum_replicate_nat]
     exact this
   ·cases h
  all_goals first
   | cases h;done
   | (rename_i hu;rw [hu];exact .one_of (.unk _ rfl) rfl rfl rfl)
end Go.Am
namespace Go.Am
variable [Kn]
open Go.WideShapes
def argOf {H:Type} (P:Program) (n:Nat) (t:TypeId) (d:DataW H):AV:=elemOfCells (aggU (P.underlying t)) (avd P n t d)
theorem arg_rd {H:Type} {enc:TypeId×Value→H} {P:Program} (hl:laidOutB P=true) {w:World} {base:Nat} {spare:Nat→Bool} {held:Bool} {t:TypeId} {v:Value} {d:DataW H} {ps:List MemPlace} (ht:t<P.types.size)
  (hok:Value.okWide P w .any base t v) {b2:Nat} (h:DataW.Trod enc P w b2 spare held t v d ps): ∃n,DataW.trod enc P w b2 spare held n t v.cells.toList=some (d,ps)∧Rd (allS w) w (argOf P n t d) v:=by
 obtain ⟨n,hn⟩:=h
 have hc:=trod_rd hl n t _ d ps ht hn
 refine ⟨n,hn,?_⟩
 unfold argOf
 cases ha:aggU (P.underlying t) with
 | true=>
  obtain ⟨cs,rfl⟩: ∃cs,v= .agg cs:=by
   unfold aggU at ha
   unfold Value.okWide at hok
   split at ha
   ·rename_i hu;rw [hu] at hok;obtain ⟨cs,h1,_⟩:=hok;exact ⟨cs,h1⟩
   ·rename_i hu;rw [hu] at hok;obtain ⟨cs,h1,_⟩:=hok;exact ⟨cs,h1⟩
   ·cases ha
  have e:(Value.agg cs).cells=cs:=rfl
  rw [e] at hc
  exact .agg _ cs (by simpa using hc.len.symm) (fun i x u hx hu=>hc.rd i x u hx (by simpa using hu))
 | false=>
  obtain ⟨m,rfl⟩: ∃m,n=m+1:=by
   cases n with
   | zero=>cases hn
   | succ m=>exact ⟨m,rfl⟩
  have h1:=avd_one P m t d ha
  generalize avd P (m+1) t d=xs at h1 hc
  match xs,h1 with
  | [x],_=>
   have hv:v.cells= #[v]:=by
    cases v with
    | agg cs=>
     unfold Value.okWide at hok
     unfold aggU at ha
     exfalso
     split at hok
     ·rename_i hu;rw [hu] at ha;cases ha
     ·rename_i hu;rw [hu] at ha;cases ha
     ·unfold Cell.okWide at hok
      split at hok
      all_goals first
       | (rename_i hv;cases hv;done)
       | (unfold Cell.ok at hok;split at hok <;> simp_all)
    | _=>rfl
   rw [hv] at hc
   exact hc.rd 0 x v rfl rfl
end Go.Am
namespace Go.Am
variable [Kn]
open Go.ChangeShapes Go.WideShapes Go.RowKit
section
variable {H:Type} {enc:TypeId×Value→H} {P:Program}
theorem trodAll_below (hl:laidOutB P=true) {W W':World} (hb:Below W.heap.size W W'): ∀{ts:List TypeId} {vs:List Value} {ds:List (DataW H)} {ps:List MemPlace},(∀t∈ts,P.readableRec t=true∧t<P.types.size)→
  DataW.TrodAll enc P W 0 (fun _=>true) true ts vs ds ps→(∀x∈ps,x.block<W.heap.size)→DataW.TrodAll enc P W' 0 (fun b=>decide (b<W.heap.size)) true ts vs ds ps
 | [], [], [],ps,_,h,_=>h
 | t::ts,v::vs,d::ds,ps,hr,h,hlt=>by
  obtain ⟨p,q,h1,h2,rfl⟩:=h
  exact ⟨p,q,Below.trod hl (hr t List.mem_cons_self).1 (hr t List.mem_cons_self).2 h1 hb (fun x hx=>hlt x (List.mem_append_left _ hx)),
   trodAll_below hl hb (fun t ht=>hr t (List.mem_cons_of_mem _ ht)) h2 (fun x hx=>hlt x (List.mem_append_right _ hx)),rfl⟩
 | [], [],_::_,_,_,h,_=>h.elim
 | [],_::_,_,_,_,h,_=>h.elim
 | _::_, [],_,_,_,h,_=>h.elim
 | _::_,_::_, [],_,_,h,_=>h.elim
inductive Args (P:Program) (enc:TypeId×Value→H) (w:World):List TypeId→List (DataW H)→List AV→Prop where
 | nil:Args P enc w [] [] []
 | cons {t:TypeId} {d:DataW H} {ts:List TypeId} {ds:List (DataW H)} {xs:List AV} (n:Nat) (cs:List Value) (ps:List MemPlace) (h:DataW.trod enc P w 0 (fun _=>true) true n t cs=some (d,ps)) (r:Args P enc w ts ds xs):Args P enc w (t::ts) (d::ds) (argOf P n t d::xs)
theorem args_rd (hl:laidOutB P=true) {W:World} {base:Nat}: ∀{ts:List TypeId} {vs:List Value} {ds:List (DataW H)} {ps:List MemPlace},(∀t∈ts,t<P.types.size)→(∀(j:Nat) t v,ts[j]?=some t→vs[j]?=some v→Value.okWide P W .any base t v)→
  DataW.TrodAll enc P W 0 (fun _=>true) true ts vs ds ps→ ∃xs,Args P enc W ts ds xs∧RdAll (allS W) W xs vs
 | [], [], [],ps,_,_,_=>⟨[],.nil,.nil⟩
 | t::ts,v::vs,d::ds,ps,hr,hok,h=>by
  obtain ⟨p,q,h1,h2,rfl⟩:=h
  obtain ⟨xs,k1,k2⟩:=args_rd hl (fun t ht=>hr t (List.mem_cons_of_mem _ ht)) (fun j t v ht hv=>hok (j+1) t v (by simpa using ht) (by simpa using hv)) h2
  obtain ⟨n,h3,h4⟩:=arg_rd hl (hr t List.mem_cons_self) (hok 0 t v rfl rfl) h1
  exact ⟨_::xs,.cons n _ p h3 k1,.cons h4 k2⟩
 | [], [],_::_,_,_,_,h=>h.elim
 | [],_::_,_,_,_,_,h=>h.elim
 | _::_, [],_,_,_,_,h=>h.elim
 | _::_,_::_, [],_,_,_,h=>h.elim
def typesFine (P:Program) (ts:List TypeId):Bool:=ts.all fun t=>P.readableRec t&&decide (t<P.types.size)
theorem typesFine_spec {ts:List TypeId} (h:typesFine P ts=true): ∀t∈ts,P.readableRec t=true∧t<P.types.size:=fun t ht=>by
 have:=List.all_eq_true.1 h t ht
 simpa using this
end
end Go.Am
namespace Go.Am
open Go.ChangeShapes Go.WideShapes Go.RowKit
def shpFields (r:TypeId→List AV→Prop):List TypeId→List AV→Prop
 | [],xs=>xs= []
 | t::ts,xs=> ∃a b,xs=a++b∧r t a∧shpFields r ts b
def Shp (P:Program):Nat→TypeId→List AV→Prop
 | 0,_,_=>False
 | n+1,t,xs=>match P.underlying t with
  | some .bool=> ∃b,xs= [.bool b]
  | some (.int k)=> ∃m,xs= [.int k m]∧(Lit.int k m).wf=true
  | some .string=> ∃s,xs= [.str s]∧s.length≤maxLen
  | some (.pointer e)=>xs= [.nilp]∨P.cellsOf e=0∨ ∃cs,xs= [.eptr cs]∧Shp P n e cs
  | some (.slice e)=>xs= [.lst (some true) 0 []]∨P.cellsOf e=0∨ ∃es,xs= [.lst (some false) (P.cellsOf e) es]∧es.length≤maxLen∧ ∀x∈es,∃cs,x=elemOfCells (aggU (P.underlying e)) cs∧Shp P n e cs
  | some (.struct fs)=>shpFields (Shp P n) (fs.toList.map (·.type)) xs
  | some (.array m e)=> ∃l:List (List AV),l.length=m∧xs=l.flatten∧ ∀ys∈l,Shp P n e ys
  | _=>True
theorem shpFields_of {r:TypeId→List AV→Prop}: ∀(ts:List TypeId) (l:List (List AV)),l.length=ts.length→(∀(j:Nat) t ys,ts[j]?=some t→l[j]?=some ys→r t ys)→shpFields r ts l.flatten
 | [], [],_,_=>rfl
 | t::ts,a::l,hl,h=>⟨a,l.flatten,rfl,h 0 t a rfl rfl,shpFields_of ts l (by simpa using hl) fun j t ys h1 h2=>h (j+1) t ys (by simpa using h1) (by simpa using h2)⟩
 | [],_::_,h,_=>by simp at h
 | _::_, [],h,_=>by simp at h
variable {H:Type}
set_option maxHeartbeats 1000000 in
theorem trod_shp {enc:TypeId×Value→H} {P:Program} {w:World} {base:Nat} {spare:Nat→Bool} {held:Bool}: ∀(n:Nat) (t:TypeId) (cs:List Value) (d:DataW H) (ps:List MemPlace),
  DataW.trod enc P w base spare held n t cs=some (d,ps)→Shp P n t (avd P n t d)
 | 0,_,_,_,_,h=>by cases h
 | n+1,t,cs,d,ps,h=>by
  have ih:=fun t cs d ps h=>trod_shp (enc:=enc) (P:=P) (w:=w) (base:=base) (spare:=spare) (held:=held) n t cs d ps h
  unfold DataW.trod at h
  unfold avd Shp
  split at h
  ·rename_i hu;cases h;rw [hu];exact ⟨_,rfl⟩
  ·rename_i hu
   split at h
   ·rename_i hk;cases h;rw [hu];obtain ⟨rfl,hw⟩:=hk;exact ⟨_,rfl,hw⟩
   ·cases h
  ·rename_i hu
   split at h
   ·cases h;rw [hu];trivial
   ·cases h
  ·rename_i s hu
   split at h
   ·rename_i hsz
    cases h;rw [hu]
    refine ⟨_,rfl,?_⟩
    have:s.data.toList.length=s.size:=by simp
    rw [this];exact hsz
   ·cases h
  ·rename_i hu;cases h;rw [hu];exact .inl rfl
  ·rename_i e a hu
   rw [Option.map_eq_some_iff] at h
   obtain ⟨⟨x,q⟩,hx,h⟩:=h
   cases h
   rw [hu]
   rw [Option.bind_eq_some_iff] at hx
   obtain ⟨vs,hvs,hx⟩:=hx
   have hc:=ih e vs x q hx
   simp only
   by_cases hz:P.cellsOf e=0
   ·exact .inr (.inl hz)
   ·rw [if_neg hz];exact .inr (.inr ⟨_,rfl,hc⟩)
  ·rename_i hu;cases h;rw [hu];exact .inl rfl
  ·rename_i e a len cap hu
   split at h
   ·rename_i hcond
    rw [Option.bind_eq_some_iff] at h
    obtain ⟨elems,helems,h⟩:=h
    rw [Option.map_eq_some_iff] at h
    obtain ⟨rest,hrest,h⟩:=h
    cases h
    rw [hu]
    simp only
    by_cases hz:P.cellsOf e=0
    ·exact .inr (.inl hz)
    ·rw [if_neg hz]
     obtain ⟨hel,hget⟩:=mapM_get helems
     rw [List.length_range] at hel
     refine .inr (.inr ⟨_,rfl,by simp [hel];omega,fun x hx=> ?_⟩)
     simp only [List.map_map,List.mem_map] at hx
     obtain ⟨p,hp,rfl⟩:=hx
     obtain ⟨i,hi⟩:=List.getElem?_of_mem hp
     have hil:=getElem?_lt hi
     have:=hget i i p (by rw [List.getElem?_range (by omega)]) hi
     rw [Option.bind_eq_some_iff] at this
     obtain ⟨vs,_,h2⟩:=this
     exact ⟨_,rfl,ih e vs p.1 p.2 h2⟩
   ·cases h
  ·rename_i cs' fs hu
   split at h
   ·rw [Option.map_eq_some_iff] at h
    obtain ⟨xs,hxs,h⟩:=h
    cases h
    rw [hu]
    simp only
    obtain ⟨hlen,hget⟩:=mapM_get hxs
    refine shpFields_of _ _ (by simp [hlen]) fun j t ys ht hy=> ?_
    rw [List.getElem?_map] at ht
    cases hf:fs.toList[j]? with
    | none=>rw [hf] at ht;cases ht
    | some f=>
     rw [hf] at ht;cases ht
     rw [List.getElem?_zipWith,hf,List.getElem?_map] at hy
     cases hx:xs[j]? with
     | none=>rw [hx] at hy;cases hy
     | some x=>
      rw [hx] at hy;cases hy
      exact ih f.type _ x.1 x.2 (hget j f x hf hx)
   ·cases h
  ·rename_i cs' m e hu
   split at h
   ·rw [Option.map_eq_some_iff] at h
    obtain ⟨xs,hxs,h⟩:=h
    cases h
    rw [hu]
    simp only
    obtain ⟨hlen,hget⟩:=mapM_get hxs
    rw [List.length_range] at hlen
    refine ⟨_,by simp [hlen],rfl,fun ys hy=> ?_⟩
    simp only [List.map_map,List.mem_map] at hy
    obtain ⟨p,hp,rfl⟩:=hy
    obtain ⟨i,hi⟩:=List.getElem?_of_mem hp
    have hil:=getElem?_lt hi
    exact ih e _ p.1 p.2 (hget i i p (by rw [List.getElem?_range (by omega)]) hi)
   ·cases h
  all_goals first
   | cases h;done
   | (rename_i hu;rw [hu];trivial)
def ShpArgs (P:Program):List TypeId→List AV→Prop
 | [],xs=>xs= []
 | t::ts,xs=> ∃n cs r,xs=elemOfCells (aggU (P.underlying t)) cs::r∧Shp P n t cs∧ShpArgs P ts r
theorem Args.shp {P:Program} {enc:TypeId×Value→H} {w:World}: ∀{ts:List TypeId} {ds:List (DataW H)} {xs:List AV},Args P enc w ts ds xs→ShpArgs P ts xs
 | _,_,_,.nil=>rfl
 | _,_,_,.cons n cs ps h r=>⟨n,_,_,rfl,trod_shp n _ cs _ ps h,r.shp⟩
section
variable {P:Program} {n:Nat} {t:TypeId} {xs:List AV}
theorem Shp.bool (h:Shp P n t xs) (hu:P.underlying t=some .bool): ∃b,xs= [.bool b]:=by
 cases n with
 | zero=>exact h.elim
 | succ n=>unfold Shp at h;rw [hu] at h;exact h
theorem Shp.int {k:IntKind} (h:Shp P n t xs) (hu:P.underlying t=some (.int k)): ∃m,xs= [.int k m]∧(Lit.int k m).wf=true:=by
 cases n with
 | zero=>exact h.elim
 | succ n=>unfold Shp at h;rw [hu] at h;exact h
theorem Shp.str (h:Shp P n t xs) (hu:P.underlying t=some .string): ∃s,xs= [.str s]∧s.length≤maxLen:=by
 cases n with
 | zero=>exact h.elim
 | succ n=>unfold Shp at h;rw [hu] at h;exact h
theorem Shp.slice {e:TypeId} (h:Shp P n t xs) (hu:P.underlying t=some (.slice e)) (hz:P.cellsOf e≠0): ∃nl sz es,xs= [.lst (some nl) sz es]∧(nl=true→sz=0∧es= [])∧(nl=false→sz=P.cellsOf e)∧es.length≤maxLen∧ ∀x∈es,∃m cs,x=elemOfCells (aggU (P.underlying e)) cs∧Shp P m e cs:=by
 cases n with
 | zero=>exact h.elim
 | succ n=>
  unfold Shp at h
  rw [hu] at h
  rcases h with h | h | ⟨es,h1,h2,h3⟩
  ·exact ⟨true,0, [],h,fun _=>⟨rfl,rfl⟩,(fun h=>by cases h),Nat.zero_le _,fun x hx=>by cases hx⟩
  ·exact absurd h hz
  ·exact ⟨false,_,es,h1,(fun h=>by cases h),fun _=>rfl,h2,fun x hx=>let ⟨cs,k1,k2⟩:=h3 x hx;⟨n,cs,k1,k2⟩⟩
theorem Shp.struct {fs:Array Field} (h:Shp P n t xs) (hu:P.underlying t=some (.struct fs)): ∃m,shpFields (Shp P m) (fs.toList.map (·.type)) xs:=by
 cases n with
 | zero=>exact h.elim
 | succ n=>unfold Shp at h;rw [hu] at h;exact ⟨n,h⟩
theorem Shp.array {k:Nat} {e:TypeId} (h:Shp P n t xs) (hu:P.underlying t=some (.array k e)): ∃m,∃l:List (List AV),l.length=k∧xs=l.flatten∧ ∀ys∈l,Shp P m e ys:=by
 cases n with
 | zero=>exact h.elim
 | succ n=>unfold Shp at h;rw [hu] at h;exact ⟨n,h⟩
end
end Go.Am
namespace Go.Am
open Go.ChangeShapes Go.WideShapes Go.RowKit
theorem map_of_all {α β:Type} (f:α→β) (p:α→Prop): ∀(l:List β),(∀x∈l,∃a,p a∧x=f a)→ ∃m:List α,l=m.map f∧ ∀a∈m,p a
 | [],_=>⟨[],rfl,fun _ h=>by cases h⟩
 | x::l,h=>by
  obtain ⟨a,pa,rfl⟩:=h x List.mem_cons_self
  obtain ⟨m,rfl,hm⟩:=map_of_all f p l fun y hy=>h y (List.mem_cons_of_mem _ hy)
  exact ⟨a::m,rfl,fun b hb=>by
   rcases List.mem_cons.1 hb with rfl | hb
   ·exact pa
   ·exact hm b hb⟩
theorem Shp.sliceMap {P:Program} {n:Nat} {t e:TypeId} {xs:List AV} {α:Type} (f:α→AV) (p:α→Prop) (h:Shp P n t xs) (hu:P.underlying t=some (.slice e)) (sz:Nat) (hs:P.cellsOf e=sz) (hz:sz≠0)
  (hf: ∀m cs,Shp P m e cs→ ∃a,p a∧elemOfCells (aggU (P.underlying e)) cs=f a):
  ∃(nl:Bool) (z:Nat) (l:List α),xs= [.lst (some nl) z (l.map f)]∧(∀i,i<l.length→z=sz)∧(nl=true→z=0∧l= [])∧l.length≤maxLen∧ ∀a∈l,p a:=by
 obtain ⟨nl,z,es,rfl,h1,h2,h3,h4⟩:=h.slice hu (by rw [hs];exact hz)
 obtain ⟨l,rfl,hp⟩:=map_of_all f p es fun x hx=>by
  obtain ⟨m,cs,rfl,hc⟩:=h4 x hx
  obtain ⟨a,pa,ha⟩:=hf m cs hc
  exact ⟨a,pa,ha⟩
 rw [List.length_map] at h3
 refine ⟨nl,z,l,rfl,fun i hi=> ?_,fun hn=> ?_,h3,hp⟩
 ·cases nl with
  | true=>obtain ⟨_,he⟩:=h1 rfl;rw [List.map_eq_nil_iff] at he;rw [he] at hi;exact absurd hi (Nat.not_lt_zero _)
  | false=>rw [h2 rfl,hs]
 ·obtain ⟨a,b⟩:=h1 hn
  exact ⟨a,List.map_eq_nil_iff.1 b⟩
end Go.Am
