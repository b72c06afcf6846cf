/- What a row's input reads as, for the abstract machine: -/
import Derived.Test.YtfgbpngakkhdcaaGreatDoorAmSeat
import Derived.ChangeBears
import Derived.WideShapes
import Derived.ProofKit
import Derived.OpenShut
import Derived.ShutString
import Derived.ChangeOld
import Derived.Carry
open Bool renaming false->ι,true->R
open Go renaming DataW->X,MemPlace->T,Program->O,TypeId->G,Value->Q,World->V
open List renaming length->Ê,getD->μ,getElem?_append_left->U,getElem?_append_right->S,getElem?_map->I,getElem?_of_mem->γ,getElem?_range->L,getElem?_zipWith->Y,length_range->M,map_map->η,mem_cons_of_mem->N,mem_cons_self->J,mem_map->θ,mem_of_getElem?->Z
open Option renaming some->K,bind_eq_some_iff->C,map_eq_some_iff->B
open Option.some renaming injEq->κ
open _root_ renaming Bool->ε,List->F,Nat->δ,absurd->ζ
set_option linter.all false
namespace Go.Am
variable [Kn]
open Go.WideShapes
def jL:Option TypeDesc->ε
 | some (.struct _) | some (.array _ _)=>R
 | _=>ι
def aR (agg:ε) (cs:F AV):AV:=
 match agg with
 | true=> .agg cs
 | false=>cs.headD .any
variable {H:Type}
def Av (P:O):δ->G->X H->F AV
 | 0,_,_=> []
 | n+1,t,d=>match P.underlying t,d with
  | some .bool,.lit (.bool b)=> [.bool b]
  | some (.int _),.lit (.int k m)=> [.int k m]
  | some .string,.lit (.string s)=> [.str s]
  | some (.pointer _),.nil=> [.cn]
  | some (.pointer e),.ptr x=>if P.cellsOf e=0 then [.jZ] else [.dB (Av P n e x)]
  | some (.slice _),.nil=> [.ah (K R) 0 []]
  | some (.slice e),.slice es _=>if P.cellsOf e=0 then [.jZ] else [.ah (K ι) (P.cellsOf e) (es.map fun d=>aR (jL (P.underlying e)) (Av P n e d))]
  | some (.struct fs),.agg ds=>(List.zipWith (fun f d=>Av P n f.type d) fs.toList ds).flatten
  | some (.array _ e),.agg ds=>(ds.map (Av P n e)).flatten
  | _,_=> [.jZ]
structure DI (w:V) (xs:F AV) (cs:F Q):Prop where
 len:Ê xs=Ê cs
 rd: ∀(j:δ) (x:AV) (v:Q),xs[j]?=K x->cs[j]?=K v->Rd (uK w) w x v
 plain: ∀x∈xs,x.plain=R
 cell: ∀x∈xs,x.cO=R
 one: ∀v∈cs,v.oneCell'=R
theorem DI.kH {w:V} {x:AV} {v:Q} (h:Rd (uK w) w x v) (hp:x.plain=R) (hc:x.cO=R) (ho:v.oneCell'=R):DI w [x] [v]:=
 ⟨rfl,fun j x' v' hx hv=>by
  cases j with
  | zero=>simp at hx hv;subst hx;subst hv;exact h
  | succ j=>simp at hx,by simpa using hp,by simpa using hc,by simpa using ho⟩
theorem DI.append {w:V} {xs ys:F AV} {cs ds:F Q} (h:DI w xs cs) (k:DI w ys ds):DI w (xs++ys) (cs++ds) where
 len:=by simp [h.len,k.len]
 rd:=fun j x v hx hv=>by
  rcases Nat.lt_or_ge j (Ê xs) with hj | hj
  ·rw [U hj] at hx;rw [U (by rw [<-h.len];exact hj)] at hv;exact h.rd j x v hx hv
  ·rw [S hj] at hx;rw [S (by rw [<-h.len];exact hj),<-h.len] at hv;exact k.rd _ x v hx hv
 plain:=fun x hx=>(List.mem_append.1 hx).elim (fun hx=>h.plain x hx) (fun hx=>k.plain x hx)
 cell:=fun x hx=>(List.mem_append.1 hx).elim (fun hx=>h.cell x hx) (fun hx=>k.cell x hx)
 one:=fun x hx=>(List.mem_append.1 hx).elim (fun hx=>h.one x hx) (fun hx=>k.one x hx)
theorem DI.nil (w:V):DI w [] []:=⟨rfl,fun j x v h=>by simp at h,fun _ h=>by simp at h,fun _ h=>by simp at h,fun _ h=>by simp at h⟩
omit [Kn] in
theorem jm {α β:Type} {f:α->Option β}: ∀{l:F α} {r:F β},l.mapM f=K r->Ê r=Ê l/\ ∀(i:δ) (a:α) (b:β),l[i]?=K a->r[i]?=K b->f a=K b
 | [],r,h=>by
  simp at h;subst h;exact ⟨rfl,fun i a b h=>by simp at h⟩
 | a::l,r,h=>by
  rw [List.mapM_cons] at h;simp only [Option.bind_eq_bind,C,Option.pure_def,κ] at h;obtain ⟨b,hb,r',Ě,rfl⟩:=h;obtain ⟨h1,h2⟩:=jm Ě;refine ⟨by simp [h1],fun i a' b' ha ď=> ?_⟩;cases i with
  | zero=>simp at ha ď;subst ha;subst ď;exact hb
  | succ i=>simp at ha ď;exact h2 i a' b' ha ď
theorem uL {w:V} {base:δ} {a:Addr} {n:δ} {cs:F Q} (h:w.cells? base a n=K cs):Ê cs=n/\ ∀(j:δ) (v:Q),cs[j]?=K v->w.cell? (a.add j)=K v:=by
 unfold World.cells? at h;split at h
 ·obtain ⟨h1,h2⟩:=jm h;rw [M] at h1;refine ⟨h1,fun j v hv=> ?_⟩;have hj:=al hv;exact h2 j j v (by rw [L (by omega)]) hv
 ·cases h
theorem DI.pieces (w:V): ∀(l:F (F AV)) (ċ:F δ) (cs:F Q),Ê l=ċ.length->Ê cs=ċ.sum->
  (∀(j:δ) (xs:F AV) (sz:δ),l[j]?=K xs->ċ[j]?=K sz->DI w xs ((cs.drop (ċ.take j).sum).take sz))->DI w l.flatten cs
 | [], [],cs,_,h,_=>by
  simp at h;subst h;exact DI.nil w
 | xs::l,sz::ċ,cs,hl,hs,h=>by
  have h0:=h 0 xs sz rfl rfl;simp only [List.take_zero,List.sum_nil,List.drop_zero] at h0
  have hr:=DI.pieces w l ċ (cs.drop sz) (by simpa using hl) (by simp at hs⊢;omega) (fun j ys ě hy hz=>by
   have:=h (j+1) ys ě (by simpa using hy) (by simpa using hz);simp only [List.take_succ_cons,List.sum_cons] at this
   rwa [<-List.drop_drop] at this)
  have:=h0.append hr
  rwa [List.take_append_drop] at this
 | [],_::_,_,h,_,_=>by simp at h
 | _::_, [],_,h,_,_=>by simp at h
theorem I7 (P:O) (n:δ) (t:G) (d:X H) (h:jL (P.underlying t)=ι):(Av P (n+1) t d).length=1:=by unfold Av;split <;> first | rfl | (split <;> rfl) | (rename_i hu;rw [hu] at h;cases h)
theorem P9 {agg:ε} {xs:F AV} {w:V} {cs:F Q} (h:DI w xs cs) (h1:agg=false->Ê xs=1):(aR agg xs).plain=R/\(aR agg xs).cells=xs:=by
 cases agg with
 | true=>
  refine ⟨?_,rfl⟩
  have: ∀l:F AV,(∀x∈l,x.plain=R)->ak l=true:=fun l=>by
   induction l with
   | nil=>intro _;rfl
   | cons x r ih=>intro hx;simp only [ak,Bool.and_eq_true];exact ⟨hx x J,ih fun y hy=>hx y (N _ hy)⟩
  simp only [aR,AV.plain];exact this xs h.plain
 | false=>
  match xs,h1 rfl with
  | [x],_=>have hc:=h.cell x J;refine ⟨h.plain x J,?_⟩;simp only [aR,List.headD_cons];cases x <;> first | rfl | cases hc
theorem I8 {w:V} {a:Addr} {v:Q} (h:w.cell? a=K v):a.spot=none/\a.block<w.heap.size:=by
 unfold World.cell? at h;split at h
 ·rename_i hh;split at h
  ·cases h
  ·rename_i hs;exact ⟨by simpa using hs,bV hh⟩
 ·cases h
set_option maxHeartbeats 1000000 in
theorem I9 {enc:G×Q->H} {P:O} (hl:laidOutB P=R) {w:V} {base:δ} {spare:δ->ε} {held:ε}: ∀(n:δ) (t:G) (cs:F Q) (d:X H) (ps:F T),t<P.types.size->
  DataW.trod enc P w base spare held n t cs=K (d,ps)->DI w (Av P n t d) cs
 | 0,_,_,_,_,_,h=>by cases h
 | n+1,t,cs,d,ps,ht,h=>by
  have ih:=fun t cs d ps ht h=>I9 (enc:=enc) hl (w:=w) (base:=base) (spare:=spare) (held:=held) n t cs d ps ht h;unfold DataW.trod at h;unfold Av;split at h
  ·rename_i hu;cases h;rw [hu];exact .kH (.bool _) rfl rfl rfl
  ·rename_i hu;split at h
   ·rename_i hk;cases h;rw [hu];obtain ⟨rfl,_⟩:=hk;exact .kH (.int _ _) rfl rfl rfl
   ·cases h
  ·rename_i hu;split at h
   ·cases h;rw [hu];exact .kH (.jZ _ rfl) rfl rfl rfl
   ·cases h
  ·rename_i s hu;split at h
   ·cases h;rw [hu];have:=Rd.str (g:=uK w) (w:=w) s.data.toList;exact .kH this rfl rfl rfl
   ·cases h
  ·rename_i hu;cases h;rw [hu];exact .kH .cn rfl rfl rfl
  ·rename_i e a hu;rw [B] at h;obtain ⟨⟨x,q⟩,hx,h⟩:=h;cases h;rw [hu];rw [C] at hx;obtain ⟨vs,ę,hx⟩:=hx;have hc:=ih e vs x q (kid_pointer hl ht hu) hx;obtain ⟨Ā,ā⟩:=uL ę;simp only;split
   ·exact .kH (.jZ _ rfl) rfl rfl rfl
   ·rename_i hz
    obtain ⟨v0,đ⟩: ∃v0,vs[0]?=K v0:=by
     cases vs with
     | nil=>simp at Ā;omega
     | cons v _=>exact ⟨v,rfl⟩
    obtain ⟨b,off,spot⟩:=a;obtain ⟨Đ,Ē⟩:=I8 (ā 0 v0 đ);have ē:spot=none:=by simpa [Addr.add] using Đ
    subst ē;have Č:b<w.heap.size:=by simpa [Addr.add] using Ē
    refine .kH (.dB _ b off (fun j=>vs.getD j undef) (fun j x hj=> ?_) (fun j x hj=> ?_)) rfl rfl rfl
    ·have ă:=al hj;rw [hc.len] at ă;refine ⟨hc.plain x (Z hj),Č,?_⟩;have:=ā j vs[j] (by simp [ă]);rw [addr_add] at this;rw [this];simp [μ,ă]
    ·have ă:=al hj;rw [hc.len] at ă;exact hc.rd j x _ hj (by simp [μ,ă])
  ·rename_i hu;cases h;rw [hu];exact .kH (.ah (K R) 0 [] none 0 0 0 (fun _ _=>undef) (fun x hx=>by cases hx;rfl) (fun _=>⟨rfl,rfl⟩) (Nat.le_refl _) (fun h=>ζ rfl h) (fun i e he=>by simp at he) (fun i j e x he=>by simp at he) (fun i j e x he=>by simp at he)) rfl rfl rfl
  ·rename_i e a len cap hu;split at h
   ·rename_i Ć;rw [C] at h;obtain ⟨elems,Ă,h⟩:=h;rw [B] at h;obtain ⟨rest,č,h⟩:=h;cases h;rw [hu];simp only;split
    ·exact .kH (.jZ _ rfl) rfl rfl rfl
    ·rename_i hz;obtain ⟨Ď,ā⟩:=jm Ă;rw [M] at Ď
     have ć: ∀(i:δ) (p:X H×F T),elems[i]?=K p-> ∃vs,w.cells? base (a.add (i*P.cellsOf e)) (P.cellsOf e)=K vs/\DataW.trod enc P w base spare held n e vs=K p:=fun i p hp=>by
      have hi:=al hp;have:=ā i i p (by rw [L (by omega)]) hp
      rwa [C] at this
     have Ĝ:elems≠ []-> ∃m,n=m+1:=fun hne=>by
      cases n with
      | succ m=>exact ⟨m,rfl⟩
      | zero=>
       obtain ⟨p,hp⟩: ∃p,elems[0]?=K p:=by
        cases elems with
        | nil=>exact ζ rfl hne
        | cons p _=>exact ⟨p,rfl⟩
       obtain ⟨vs,_,h2⟩:=ć 0 p hp;cases h2
     obtain ⟨b,off,spot⟩:=a
     have Đ:elems≠ []->spot=none/\b<w.heap.size:=fun hne=>by
      obtain ⟨p,hp⟩: ∃p,elems[0]?=K p:=by
       cases elems with
       | nil=>exact ζ rfl hne
       | cons p _=>exact ⟨p,rfl⟩
      obtain ⟨vs,h1,_⟩:=ć 0 p hp;obtain ⟨Ā,hg⟩:=uL h1
      obtain ⟨v0,đ⟩: ∃v0,vs[0]?=K v0:=by
       cases vs with
       | nil=>simp at Ā;omega
       | cons v _=>exact ⟨v,rfl⟩
      have:=I8 (hg 0 v0 đ);simpa [Addr.add] using this
     have Ĕ:=kid_slice hl ht hu
     have Ĉ: ∀(i:δ) (p:X H×F T),elems[i]?=K p->spot=none/\b<w.heap.size/\ ∃vs,Ê vs=P.cellsOf e/\(∀(j:δ) (v:Q),vs[j]?=K v->w.cell? ⟨b,off+i*P.cellsOf e+j,none⟩=K v)/\DI w (Av P n e p.1) vs/\
       (aR (jL (P.underlying e)) (Av P n e p.1)).plain=R/\(aR (jL (P.underlying e)) (Av P n e p.1)).cells=Av P n e p.1:=fun i p hp=>by
      have hne:elems≠ []:=fun h0=>by rw [h0] at hp;simp at hp
      obtain ⟨hs,hb⟩:=Đ hne;obtain ⟨vs,h1,h2⟩:=ć i p hp;obtain ⟨Ā,hg⟩:=uL h1;have hc:=ih e vs p.1 p.2 Ĕ h2;obtain ⟨m,hm⟩:=Ĝ hne;obtain ⟨k1,k2⟩:=P9 (agg:=jL (P.underlying e)) hc (fun ha=>by rw [hm];exact I7 P m e p.1 ha);subst hs;refine ⟨rfl,hb,vs,Ā,fun j v hv=> ?_,hc,k1,k2⟩;have:=hg j v hv
      rwa [addr_add,addr_add] at this
     have ĉ: ∀(i:δ) (x:AV),((elems.map (·.1)).map fun d=>aR (jL (P.underlying e)) (Av P n e d))[i]?=K x-> ∃p,elems[i]?=K p/\x=aR (jL (P.underlying e)) (Av P n e p.1):=fun i x hx=>by
      rw [I,I] at hx;cases hp:elems[i]? with
      | none=>rw [hp] at hx;cases hx
      | some p=>rw [hp] at hx;cases hx;exact ⟨p,rfl,rfl⟩
     have Ā:((elems.map (·.1)).map fun d=>aR (jL (P.underlying e)) (Av P n e d)).length=len:=by simp [Ď]
     have key:=Rd.ah (g:=uK w) (w:=w) (K ι) (P.cellsOf e) ((elems.map (·.1)).map fun d=>aR (jL (P.underlying e)) (Av P n e d)) (K ⟨b,off,spot⟩) cap b off (fun i j=>(w.cell? ⟨b,off+i*P.cellsOf e+j,none⟩).getD undef)
      (fun x hx=>by cases hx;rfl) (fun h=>by cases h) (by rw [Ā];exact Ć.2.1)
      (fun hne=>by
       have:elems≠ []:=fun h0=>hne (by rw [h0];rfl);rw [(Đ this).1])
      (fun i x hx=>by
       obtain ⟨p,hp,rfl⟩:=ĉ i x hx;obtain ⟨_,_,vs,hv,_,hc,k1,k2⟩:=Ĉ i p hp;exact ⟨k1,by rw [k2,hc.len,hv]⟩)
      (fun i j x y hx hy=>by
       obtain ⟨p,hp,rfl⟩:=ĉ i x hx;obtain ⟨_,hb,vs,hv,Ą,hc,k1,k2⟩:=Ĉ i p hp;rw [k2] at hy;have ă:=al hy;rw [hc.len] at ă;have:=Ą j vs[j] (by simp [ă]);refine ⟨hb,by rw [this];rfl,?_⟩;rw [this];exact hc.one _ (by simp))
      (fun i j x y hx hy=>by
       obtain ⟨p,hp,rfl⟩:=ĉ i x hx;obtain ⟨_,hb,vs,hv,Ą,hc,k1,k2⟩:=Ĉ i p hp;rw [k2] at hy;have ă:=al hy;rw [hc.len] at ă;have:=Ą j vs[j] (by simp [ă]);rw [this];exact hc.rd j y _ hy (by simp [ă]))
     rw [Ā] at key;exact .kH key rfl rfl rfl
   ·cases h
  ·rename_i ĕ fs hu;split at h
   ·rename_i Ė;rw [B] at h;obtain ⟨xs,Ċ,h⟩:=h;cases h;rw [hu];simp only;obtain ⟨Ā,ā⟩:=jm Ċ;obtain ⟨ė,Ę,ĝ⟩:=kid_struct hl ht hu;refine DI.pieces w _ (fs.toList.map fun f=>P.cellsOf f.type) _ (by simp [Ā]) (by rw [Ė,Ę]) (fun j ys sz hy ą=> ?_);rw [I] at ą;cases hf:fs.toList[j]? with
    | none=>rw [hf] at ą;cases ą
    | some f=>
     rw [hf] at ą;cases ą;rw [Y,hf,I] at hy;cases hx:xs[j]? with
     | none=>rw [hx] at hy;cases hy
     | some x=>
      rw [hx] at hy;cases hy;have:=ih f.type _ x.1 x.2 (ė f (Z hf)) (ā j f x hf hx);rw [ĝ j f hf] at this
      rwa [List.map_take] at this
   ·cases h
  ·rename_i ĕ m e hu;split at h
   ·rename_i Ė;rw [B] at h;obtain ⟨xs,Ċ,h⟩:=h;cases h;rw [hu];simp only;obtain ⟨Ā,ā⟩:=jm Ċ;rw [M] at Ā;obtain ⟨ė,Ę⟩:=kid_array hl ht hu;refine DI.pieces w _ (List.replicate m (P.cellsOf e)) _ (by simp [Ā]) (by rw [Ė,Ę];simp) (fun j ys sz hy ą=> ?_);have hj:=al ą;rw [List.length_replicate] at hj;rw [List.getElem?_replicate,if_pos hj] at ą;cases ą;rw [I,I] at hy;cases hx:xs[j]? with
    | none=>rw [hx] at hy;cases hy
    | some x=>rw [hx] at hy;cases hy;have:=ih e _ x.1 x.2 ė (ā j j x (by rw [L hj]) hx);rw [List.take_replicate,Nat.min_eq_left (by omega),List.sum_replicate_nat];exact this
   ·cases h
  all_goals first
   | cases h;done
   | (rename_i hu;rw [hu];exact .kH (.jZ _ rfl) rfl rfl rfl)
end Go.Am
namespace Go.Am
variable [Kn]
open Go.WideShapes
def MN {H:Type} (P:O) (n:δ) (t:G) (d:X H):AV:=aR (jL (P.underlying t)) (Av P n t d)
theorem Uo {H:Type} {enc:G×Q->H} {P:O} (hl:laidOutB P=R) {w:V} {base:δ} {spare:δ->ε} {held:ε} {t:G} {v:Q} {d:X H} {ps:F T} (ht:t<P.types.size)
  (hok:Value.okWide P w .any base t v) {b2:δ} (h:DataW.Trod enc P w b2 spare held t v d ps): ∃n,DataW.trod enc P w b2 spare held n t v.cells.toList=K (d,ps)/\Rd (uK w) w (MN P n t d) v:=by
 obtain ⟨n,hn⟩:=h;have hc:=I9 hl n t _ d ps ht hn;refine ⟨n,hn,?_⟩;unfold MN;cases ha:jL (P.underlying t) with
 | true=>
  obtain ⟨cs,rfl⟩: ∃cs,v= .agg cs:=by
   unfold jL at ha;unfold Value.okWide at hok;split at ha
   ·rename_i hu;rw [hu] at hok;obtain ⟨cs,h1,_⟩:=hok;exact ⟨cs,h1⟩
   ·rename_i hu;rw [hu] at hok;obtain ⟨cs,h1,_⟩:=hok;exact ⟨cs,h1⟩
   ·cases ha
  have e:(Value.agg cs).cells=cs:=rfl;rw [e] at hc;exact .agg _ cs (by simpa using hc.len.symm) (fun i x u hx hu=>hc.rd i x u hx (by simpa using hu))
 | false=>
  obtain ⟨m,rfl⟩: ∃m,n=m+1:=by
   cases n with
   | zero=>cases hn
   | succ m=>exact ⟨m,rfl⟩
  have h1:=I7 P m t d ha;generalize Av P (m+1) t d=xs at h1 hc
  match xs,h1 with
  | [x],_=>
   have hv:v.cells= #[v]:=by
    cases v with
    | agg cs=>
     unfold Value.okWide at hok;unfold jL at ha;exfalso;split at hok
     ·rename_i hu;rw [hu] at ha;cases ha
     ·rename_i hu;rw [hu] at ha;cases ha
     ·unfold Cell.okWide at hok;split at hok
      all_goals first
       | (rename_i hv;cases hv;done)
       | (unfold Cell.ok at hok;split at hok <;> simp_all)
    | _=>rfl
   rw [hv] at hc;exact hc.rd 0 x v rfl rfl
end Go.Am
namespace Go.Am
variable [Kn]
open Go.ChangeShapes Go.WideShapes Go.RowKit
section
variable {H:Type} {enc:G×Q->H} {P:O}
theorem lY (hl:laidOutB P=R) {W W':V} (hb:Below W.heap.size W W'): ∀{ts:F G} {vs:F Q} {ds:F (X H)} {ps:F T},(∀t∈ts,P.readableRec t=R/\t<P.types.size)->
  DataW.TrodAll enc P W 0 (fun _=>R) R ts vs ds ps->(∀x∈ps,x.block<W.heap.size)->DataW.TrodAll enc P W' 0 (fun b=>decide (b<W.heap.size)) R ts vs ds ps
 | [], [], [],ps,_,h,_=>h
 | t::ts,v::vs,d::ds,ps,hr,h,hlt=>by
  obtain ⟨p,q,h1,h2,rfl⟩:=h
  exact ⟨p,q,Below.trod hl (hr t J).1 (hr t J).2 h1 hb (fun x hx=>hlt x (List.mem_append_left _ hx)),
   lY hl hb (fun t ht=>hr t (N _ ht)) h2 (fun x hx=>hlt x (List.mem_append_right _ hx)),rfl⟩
 | [], [],_::_,_,_,h,_=>h.elim
 | [],_::_,_,_,_,h,_=>h.elim
 | _::_, [],_,_,_,h,_=>h.elim
 | _::_,_::_, [],_,_,h,_=>h.elim
inductive Em (P:O) (enc:G×Q->H) (w:V):F G->F (X H)->F AV->Prop where
 | nil:Em P enc w [] [] []
 | cons {t:G} {d:X H} {ts:F G} {ds:F (X H)} {xs:F AV} (n:δ) (cs:F Q) (ps:F T) (h:DataW.trod enc P w 0 (fun _=>R) R n t cs=K (d,ps)) (r:Em P enc w ts ds xs):Em P enc w (t::ts) (d::ds) (MN P n t d::xs)
theorem CO (hl:laidOutB P=R) {W:V} {base:δ}: ∀{ts:F G} {vs:F Q} {ds:F (X H)} {ps:F T},(∀t∈ts,t<P.types.size)->(∀(j:δ) t v,ts[j]?=K t->vs[j]?=K v->Value.okWide P W .any base t v)->
  DataW.TrodAll enc P W 0 (fun _=>R) R ts vs ds ps-> ∃xs,Em P enc W ts ds xs/\bL (uK W) W xs vs
 | [], [], [],ps,_,_,_=>⟨[],.nil,.nil⟩
 | t::ts,v::vs,d::ds,ps,hr,hok,h=>by
  obtain ⟨p,q,h1,h2,rfl⟩:=h;obtain ⟨xs,k1,k2⟩:=CO hl (fun t ht=>hr t (N _ ht)) (fun j t v ht hv=>hok (j+1) t v (by simpa using ht) (by simpa using hv)) h2;obtain ⟨n,h3,h4⟩:=Uo hl (hr t J) (hok 0 t v rfl rfl) h1;exact ⟨_::xs,.cons n _ p h3 k1,.cons h4 k2⟩
 | [], [],_::_,_,_,_,h=>h.elim
 | [],_::_,_,_,_,_,h=>h.elim
 | _::_, [],_,_,_,_,h=>h.elim
 | _::_,_::_, [],_,_,_,h=>h.elim
def KC (P:O) (ts:F G):ε:=ts.all fun t=>P.readableRec t&&decide (t<P.types.size)
theorem o9 {ts:F G} (h:KC P ts=R): ∀t∈ts,P.readableRec t=R/\t<P.types.size:=fun t ht=>by
 have:=List.all_eq_true.1 h t ht;simpa using this
end
end Go.Am
namespace Go.Am
open Go.ChangeShapes Go.WideShapes Go.RowKit
def qe (r:G->F AV->Prop):F G->F AV->Prop
 | [],xs=>xs= []
 | t::ts,xs=> ∃a b,xs=a++b/\r t a/\qe r ts b
def ot (P:O):δ->G->F AV->Prop
 | 0,_,_=>False
 | n+1,t,xs=>match P.underlying t with
  | some .bool=> ∃b,xs= [.bool b]
  | some (.int k)=> ∃m,xs= [.int k m]/\(Lit.int k m).wf=R
  | some .string=> ∃s,xs= [.str s]/\Ê s<=maxLen
  | some (.pointer e)=>xs= [.cn]\/P.cellsOf e=0\/ ∃cs,xs= [.dB cs]/\ot P n e cs
  | some (.slice e)=>xs= [.ah (K R) 0 []]\/P.cellsOf e=0\/ ∃es,xs= [.ah (K ι) (P.cellsOf e) es]/\Ê es<=maxLen/\ ∀x∈es,∃cs,x=aR (jL (P.underlying e)) cs/\ot P n e cs
  | some (.struct fs)=>qe (ot P n) (fs.toList.map (·.type)) xs
  | some (.array m e)=> ∃l:F (F AV),Ê l=m/\xs=l.flatten/\ ∀ys∈l,ot P n e ys
  | _=>True
theorem tf {r:G->F AV->Prop}: ∀(ts:F G) (l:F (F AV)),Ê l=Ê ts->(∀(j:δ) t ys,ts[j]?=K t->l[j]?=K ys->r t ys)->qe r ts l.flatten
 | [], [],_,_=>rfl
 | t::ts,a::l,hl,h=>⟨a,l.flatten,rfl,h 0 t a rfl rfl,tf ts l (by simpa using hl) fun j t ys h1 h2=>h (j+1) t ys (by simpa using h1) (by simpa using h2)⟩
 | [],_::_,h,_=>by simp at h
 | _::_, [],h,_=>by simp at h
variable {H:Type}
set_option maxHeartbeats 1000000 in
theorem En {enc:G×Q->H} {P:O} {w:V} {base:δ} {spare:δ->ε} {held:ε}: ∀(n:δ) (t:G) (cs:F Q) (d:X H) (ps:F T),
  DataW.trod enc P w base spare held n t cs=K (d,ps)->ot P n t (Av P n t d)
 | 0,_,_,_,_,h=>by cases h
 | n+1,t,cs,d,ps,h=>by
  have ih:=fun t cs d ps h=>En (enc:=enc) (P:=P) (w:=w) (base:=base) (spare:=spare) (held:=held) n t cs d ps h;unfold DataW.trod at h;unfold Av ot;split at h
  ·rename_i hu;cases h;rw [hu];exact ⟨_,rfl⟩
  ·rename_i hu;split at h
   ·rename_i hk;cases h;rw [hu];obtain ⟨rfl,hw⟩:=hk;exact ⟨_,rfl,hw⟩
   ·cases h
  ·rename_i hu;split at h
   ·cases h;rw [hu];trivial
   ·cases h
  ·rename_i s hu;split at h
   ·rename_i ą;cases h;rw [hu];refine ⟨_,rfl,?_⟩;have:s.data.toList.length=s.size:=by simp
    rw [this];exact ą
   ·cases h
  ·rename_i hu;cases h;rw [hu];exact .inl rfl
  ·rename_i e a hu;rw [B] at h;obtain ⟨⟨x,q⟩,hx,h⟩:=h;cases h;rw [hu];rw [C] at hx;obtain ⟨vs,ę,hx⟩:=hx;have hc:=ih e vs x q hx;simp only;by_cases hz:P.cellsOf e=0
   ·exact .inr (.inl hz)
   ·rw [if_neg hz];exact .inr (.inr ⟨_,rfl,hc⟩)
  ·rename_i hu;cases h;rw [hu];exact .inl rfl
  ·rename_i e a len cap hu;split at h
   ·rename_i Ć;rw [C] at h;obtain ⟨elems,Ă,h⟩:=h;rw [B] at h;obtain ⟨rest,č,h⟩:=h;cases h;rw [hu];simp only;by_cases hz:P.cellsOf e=0
    ·exact .inr (.inl hz)
    ·rw [if_neg hz];obtain ⟨Ď,ā⟩:=jm Ă;rw [M] at Ď;refine .inr (.inr ⟨_,rfl,by simp [Ď];omega,fun x hx=> ?_⟩);simp only [η,θ] at hx;obtain ⟨p,hp,rfl⟩:=hx;obtain ⟨i,hi⟩:=γ hp;have Ğ:=al hi;have:=ā i i p (by rw [L (by omega)]) hi;rw [C] at this;obtain ⟨vs,_,h2⟩:=this;exact ⟨_,rfl,ih e vs p.1 p.2 h2⟩
   ·cases h
  ·rename_i ĕ fs hu;split at h
   ·rw [B] at h;obtain ⟨xs,Ċ,h⟩:=h;cases h;rw [hu];simp only;obtain ⟨Ā,ā⟩:=jm Ċ;refine tf _ _ (by simp [Ā]) fun j t ys ht hy=> ?_;rw [I] at ht;cases hf:fs.toList[j]? with
    | none=>rw [hf] at ht;cases ht
    | some f=>
     rw [hf] at ht;cases ht;rw [Y,hf,I] at hy;cases hx:xs[j]? with
     | none=>rw [hx] at hy;cases hy
     | some x=>rw [hx] at hy;cases hy;exact ih f.type _ x.1 x.2 (ā j f x hf hx)
   ·cases h
  ·rename_i ĕ m e hu;split at h
   ·rw [B] at h;obtain ⟨xs,Ċ,h⟩:=h;cases h;rw [hu];simp only;obtain ⟨Ā,ā⟩:=jm Ċ;rw [M] at Ā;refine ⟨_,by simp [Ā],rfl,fun ys hy=> ?_⟩;simp only [η,θ] at hy;obtain ⟨p,hp,rfl⟩:=hy;obtain ⟨i,hi⟩:=γ hp;have Ğ:=al hi;exact ih e _ p.1 p.2 (ā i i p (by rw [L (by omega)]) hi)
   ·cases h
  all_goals first
   | cases h;done
   | (rename_i hu;rw [hu];trivial)
def gl (P:O):F G->F AV->Prop
 | [],xs=>xs= []
 | t::ts,xs=> ∃n cs r,xs=aR (jL (P.underlying t)) cs::r/\ot P n t cs/\gl P ts r
theorem Em.shp {P:O} {enc:G×Q->H} {w:V}: ∀{ts:F G} {ds:F (X H)} {xs:F AV},Em P enc w ts ds xs->gl P ts xs
 | _,_,_,.nil=>rfl
 | _,_,_,.cons n cs ps h r=>⟨n,_,_,rfl,En n _ cs _ ps h,r.shp⟩
section
variable {P:O} {n:δ} {t:G} {xs:F AV}
theorem ot.bool (h:ot P n t xs) (hu:P.underlying t=K .bool): ∃b,xs= [.bool b]:=by
 cases n with
 | zero=>exact h.elim
 | succ n=>unfold ot at h;rw [hu] at h;exact h
theorem ot.int {k:IntKind} (h:ot P n t xs) (hu:P.underlying t=K (.int k)): ∃m,xs= [.int k m]/\(Lit.int k m).wf=true:=by
 cases n with
 | zero=>exact h.elim
 | succ n=>unfold ot at h;rw [hu] at h;exact h
theorem ot.str (h:ot P n t xs) (hu:P.underlying t=K .string): ∃s,xs= [.str s]/\Ê s<=maxLen:=by
 cases n with
 | zero=>exact h.elim
 | succ n=>unfold ot at h;rw [hu] at h;exact h
theorem ot.slice {e:G} (h:ot P n t xs) (hu:P.underlying t=K (.slice e)) (hz:P.cellsOf e≠0): ∃nl sz es,xs= [.ah (K nl) sz es]/\(nl=true->sz=0/\es= [])/\(nl=false->sz=P.cellsOf e)/\Ê es<=maxLen/\ ∀x∈es,∃m cs,x=aR (jL (P.underlying e)) cs/\ot P m e cs:=by
 cases n with
 | zero=>exact h.elim
 | succ n=>
  unfold ot at h;rw [hu] at h;rcases h with h | h | ⟨es,h1,h2,h3⟩
  ·exact ⟨R,0, [],h,fun _=>⟨rfl,rfl⟩,(fun h=>by cases h),Nat.zero_le _,fun x hx=>by cases hx⟩
  ·exact ζ h hz
  ·exact ⟨ι,_,es,h1,(fun h=>by cases h),fun _=>rfl,h2,fun x hx=>let ⟨cs,k1,k2⟩:=h3 x hx;⟨n,cs,k1,k2⟩⟩
theorem ot.struct {fs:Array Field} (h:ot P n t xs) (hu:P.underlying t=K (.struct fs)): ∃m,qe (ot P m) (fs.toList.map (·.type)) xs:=by
 cases n with
 | zero=>exact h.elim
 | succ n=>unfold ot at h;rw [hu] at h;exact ⟨n,h⟩
theorem ot.array {k:δ} {e:G} (h:ot P n t xs) (hu:P.underlying t=K (.array k e)): ∃m,∃l:F (F AV),Ê l=k/\xs=l.flatten/\ ∀ys∈l,ot P m e ys:=by
 cases n with
 | zero=>exact h.elim
 | succ n=>unfold ot at h;rw [hu] at h;exact ⟨n,h⟩
end
end Go.Am
namespace Go.Am
open Go.ChangeShapes Go.WideShapes Go.RowKit
theorem xW {α β:Type} (f:α->β) (p:α->Prop): ∀(l:F β),(∀x∈l,∃a,p a/\x=f a)-> ∃m:F α,l=m.map f/\ ∀a∈m,p a
 | [],_=>⟨[],rfl,fun _ h=>by cases h⟩
 | x::l,h=>by
  obtain ⟨a,pa,rfl⟩:=h x J;obtain ⟨m,rfl,hm⟩:=xW f p l fun y hy=>h y (N _ hy)
  exact ⟨a::m,rfl,fun b hb=>by
   rcases List.mem_cons.1 hb with rfl | hb
   ·exact pa
   ·exact hm b hb⟩
theorem ot.ki {P:O} {n:δ} {t e:G} {xs:F AV} {α:Type} (f:α->AV) (p:α->Prop) (h:ot P n t xs) (hu:P.underlying t=K (.slice e)) (sz:δ) (hs:P.cellsOf e=sz) (hz:sz≠0)
  (hf: ∀m cs,ot P m e cs-> ∃a,p a/\aR (jL (P.underlying e)) cs=f a):
  ∃(nl:ε) (z:δ) (l:F α),xs= [.ah (K nl) z (l.map f)]/\(∀i,i<Ê l->z=sz)/\(nl=true->z=0/\l= [])/\Ê l<=maxLen/\ ∀a∈l,p a:=by
 obtain ⟨nl,z,es,rfl,h1,h2,h3,h4⟩:=h.slice hu (by rw [hs];exact hz)
 obtain ⟨l,rfl,hp⟩:=xW f p es fun x hx=>by
  obtain ⟨m,cs,rfl,hc⟩:=h4 x hx;obtain ⟨a,pa,ha⟩:=hf m cs hc;exact ⟨a,pa,ha⟩
 rw [List.length_map] at h3;refine ⟨nl,z,l,rfl,fun i hi=> ?_,fun hn=> ?_,h3,hp⟩
 ·cases nl with
  | true=>obtain ⟨_,he⟩:=h1 rfl;rw [List.map_eq_nil_iff] at he;rw [he] at hi;exact ζ hi (Nat.not_lt_zero _)
  | false=>rw [h2 rfl,hs]
 ·obtain ⟨a,b⟩:=h1 hn;exact ⟨a,List.map_eq_nil_iff.1 b⟩
end Go.Am
