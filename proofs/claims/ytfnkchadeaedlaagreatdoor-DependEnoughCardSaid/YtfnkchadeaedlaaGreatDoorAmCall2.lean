/-
 Calls of the abstract machine are sound, second part: a call's results, lent slices, a call as an operation.
-/
import Derived.Test.YtfnkchadeaedlaaGreatDoorAmCall
import Derived.RangeFuncRecord
set_option linter.all false
namespace Go.Am
variable [Kn]
def CPost (g:Gh) (w:World) (bs':List Box) (r:AV) (e:Ending) (w':World):Prop:=
 ∃v g',e= .returned v∧Mem g' bs' w'∧Le g w g' w'∧Fr g w g' w'∧Rd g' w' r v
def Enters (P:Program) (f:FuncId):Prop:= ∃fn,P.funcs[f]?=some fn∧(fn.name== "runtime.NumGoroutine")=false∧fn.body.isNone=false
structure CfOk (P:Program) (cf:CallF):Prop where
 fn: ∀f xs bs r bs',cf (.fn f) xs bs=some (r,bs')→Enters P f∧ ∀g w (vs:Array Value),Mem g bs w→RdAll g w xs vs.toList→Calls P f vs w (CPost g w bs' r)
 yld: ∀k s env xs bs r bs',cf (.yld k s env) xs bs=some (r,bs')→ ∀g w v (vs:Array Value),Mem g bs w→Rd g w (.yld k s env) v→RdAll g w xs vs.toList→
  ∃l fn tmps asg body,v= .func (.yield l) #[] #[]∧(Instr.yield l vs).run P w= .ok (.round l fn tmps asg body) w∧RoundIn Fence.wide 0 P l fn tmps asg body w (CPost g w bs' r)
def OvOk (P:Program) (c:Cfg):Prop:= ∀f G,c.ov f=some G→ ∀xs r,G xs=some r→plainAll xs=true→Enters P f∧ ∀g w (vs:Array Value),Mem g [] w→RdAll g w xs vs.toList→Calls P f vs w (CPost g w [] r)
section
variable {P:Program} {g:Gh} {bs:List Box} {w:World}
theorem results_run {c:Cfg} (hc:CfgTy c P) (hm:Mem g bs w) {t:Env} {a:Act} (ht:TRel g w t a) {F:ResultVar→Sem Value} (h1: ∀i,F (.tmp i)=pure (a.tmps.getD i undef)) (h2: ∀p ty,F (.cell p ty)=do loadVar ty (←asAddr (a.tmps.getD p undef))):
  ∀(l:List ResultVar) (rs:List AV),resultsA c t bs l=some rs→ ∃vs,(l.mapM F).run P w= .ok vs w∧RdAll g w rs vs
 | [],rs,h=>by cases h;exact ⟨[],rfl,.nil⟩
 | r::l,rs,h=>by
  simp only [resultsA] at h
  split at h
  ·rename_i x xs hx hxs
   cases h
   obtain ⟨vs,hv,rv⟩:=results_run hc hm ht h1 h2 l xs hxs
   unfold resultA at hx
   split at hx
   ·rename_i i
    cases hx
    exact ⟨a.tmps.getD i undef::vs,by simp only [List.mapM_cons,Sem.run_bind,h1,Sem.run_pure,Result.andThen_ok,hv],.cons (ht.get i) rv⟩
   ·rename_i p ty
    split at hx
    ·rename_i k off hp
     split at hx
     ·rename_i ty0 cs i hb hi
      obtain ⟨info,hti⟩:=ty_is (hc.ty ty i hi)
      have hrp:=ht.get p
      rw [hp] at hrp
      obtain ⟨b,hge,hu⟩:=hrp.ptr_inv
      obtain ⟨b',hge',cc,hh,hn,hcs⟩:=hm.var k ty0 cs hb
      rw [hge] at hge';cases hge'
      have hcells:CellsAt g w b 0 cs:=fun j x hx=>by
       have hj:=getElem?_lt hx
       have hj':j<cc.size:=by omega
       exact ⟨cc[j],by rw [Nat.zero_add,cell_row hh];simp [hj'],hcs j x _ hx (by simp [hj'])⟩
      obtain ⟨z,hz,rz⟩:=load_run (P:=P) hti hcells hx
      rw [Nat.zero_add] at hz
      have hF:(F (.cell p ty)).run P w= .ok z w:=by rw [h2];simp [hu,asAddr,hz]
      exact ⟨z::vs,by simp only [List.mapM_cons,Sem.run_bind,hF,Sem.run_pure,Result.andThen_ok,hv],.cons rz rv⟩
     ·cases hx
    ·cases hx
  ·cases h
theorem oneOr_run {c:Cfg} (hc:CfgTy c P) (hm:Mem g bs w) {t:Env} {a:Act} (ht:TRel g w t a) {fn:Func} {rs:List AV} (h:resultsA c t bs fn.results.toList=some rs): ∃v,(results fn a.tmps).run P w= .ok v w∧Rd g w (oneOr rs) v:=by
 have key: ∃vs,(results fn a.tmps).run P w= .ok (if h:vs.toArray.size=1 then vs.toArray[0] else .tuple vs.toArray) w∧RdAll g w rs vs:=by
  unfold results
  rw [Array.mapM_eq_mapM_toList]
  simp only [Sem.run_bind,Sem.run_map]
  obtain ⟨vs,hv,rv⟩:=results_run (P:=P) hc hm ht (F:=fun | .tmp t=>pure (a.tmps.getD t undef) | .cell p ty=>do loadVar ty (←asAddr (a.tmps.getD p undef))) (fun _=>rfl) (fun _ _=>rfl) _ _ h
  exact ⟨vs,by erw [hv];rfl,rv⟩
 obtain ⟨vs,hrun,rv⟩:=key
 refine ⟨_,hrun,?_⟩
 cases rv with
 | nil=>exact .tup _ _ rfl (fun i c v h=>by simp at h)
 | @cons x v xs ws hx ht'=>
  cases ht' with
  | nil=>exact hx
  | @cons y u ys us hy ht''=>
   obtain ⟨k1,k2⟩:=(RdAll.cons hx (RdAll.cons hy ht'')).get
   rw [dif_neg (by simp)]
   exact .tup _ _ (by simp at k1;simp [k1]) (fun i c v hc hv=>k2 i c v hc (by simpa using hv))
theorem handOver_run {g0:Gh} {w0:World} {bs0:List Box} (hm0:Mem g0 bs0 w0) {s:St} (hm:Mem g s.b w) (hl:Le g0 w0 g w) (hf:Fr g0 w0 g w) {v:Value} {x r:AV} {bs':List Box} (hx:Rd g w x v) (h:handOver bs0.length s x=some (r,bs')):
  ∃g',Mem g' bs' w∧Le g0 w0 g' w∧Fr g0 w0 g' w∧Rd g' w r v:=by
 unfold handOver at h
 split at h
 ·rename_i d hd
  split at h
  ·rename_i hu
   cases h
   have hle:Le g0 w0 (g.hand s.b bs0.length) w:=⟨fun b o hs=> .inl (hl.S b o hs),hl.cell,fun k=>by
    simp only [Gh.hand]
    split
    ·exact hl.e k
    ·rw [hm0.no k (by simp [Box.at,List.getD_eq_getElem?_getD,List.getElem?_eq_none (by omega:bs0.length≤k)])];exact .no _⟩
   obtain ⟨m',f'⟩:=hm.hand bs0.length
   refine ⟨g.hand s.b bs0.length,?_,hle,hf.trans f',hand_rd hm _ x r v hx hd hu⟩
   unfold St.cut
   split
   ·rename_i hlen
    exact (hm.hand_all (by simpa using hlen)).1
   ·exact m'
  ·cases h
   exact ⟨g,hm,hl,hf,hx⟩
 ·cases h
theorem lendAll_rd (hm:Mem g bs w) {args:List AV}: ∀{xs l:List AV} {vs:List Value},RdAll g w xs vs→(∀z∈leavesAll xs,z∈args)→lendAll bs xs=some l→plainAll l=true→RdAll (g.lent bs args) w l vs:=by
 intro xs l vs hx
 induction hx generalizing l with
 | nil=>intro _ h _;cases h;exact .nil
 | cons h _ ih=>
  intro hin hl hp
  simp only [lendAll] at hl
  simp only [leavesAll] at hin
  split at hl
  ·rename_i a r ha hr
   cases hl
   simp only [plainAll,Bool.and_eq_true] at hp
   exact .cons (lend_rd hm h (fun z hz=>hin z (List.mem_append_left _ hz)) ha hp.1) (ih (fun z hz=>hin z (List.mem_append_right _ hz)) hr hp.2)
  ·cases hl
theorem lent_back (hm:Mem g bs w) {args:List AV} {v r:AV} {e:Eff} {id:Nat} (hp:v.plain=true) (h:lentBack v args bs=some (r,e)) {bs':List Box} (he:e.on bs id=some bs') {en:Ending} {w':World}
  (hc:CPost (g.lent bs args) w [] v en w'):CPost g w bs' r en w':=by
 obtain ⟨val,g',rfl,m',l',f',rv⟩:=hc
 have hno: ∀b,b<w.heap.size→w'.heap[b]?=w.heap[b]?∧ ∀o,g'.S b o→(g.lent bs args).S b o:=fun b hb=>by
  obtain ⟨h1,_,h3⟩:=f'.frame b hb (fun k=>by simp [Gh.lent,GE.blk])
  exact ⟨h1,h3⟩
 have hold: ∀b,b<w.heap.size→w'.heap[b]?=w.heap[b]?:=fun b hb=>(hno b hb).1
 unfold lentBack at h
 split at h
 ·rename_i hfl
  cases h;cases he
  simp only [Bool.or_eq_true,Bool.not_eq_true'] at hfl
  rcases hfl with hfl | hfl
  ·obtain ⟨m1,l1⟩:=hm.after (w':=w') (S':=g.S) (sh':=fun _=>false) (bs':=bs) (fun k=>by cases Box.at bs k <;> simp) hold (fun _ _ h=>h) (fun k sh sz es b o h=>by cases h)
    (fun b o hs=>⟨Nat.lt_of_lt_of_le (hm.stab b o hs).1 f'.size,fun _=> .inl hs⟩)
   exact ⟨val,{S:=g.S,e:=g.e},rfl,m1,l1,⟨f'.size,fun b hb hne=>⟨hold b hb,hne,fun _ h=>h⟩,f'.os,f'.tape,f'.output⟩,rv.of_flat hfl⟩
  ·have hls: ∀b o,(g.lent bs args).S b o→g.S b o:=fun b o hs=>by
    rcases hs with hs | ⟨k,sh,sz,es,hin,_⟩
    ·exact hs
    ·rw [hasOsl_not hfl k] at hin;cases hin
   obtain ⟨m1,l1⟩:=hm.after (w':=w') (S':=g'.S) (sh':=fun _=>false) (bs':=bs) (fun k=>by cases Box.at bs k <;> simp) hold (fun b o h=>l'.S b o (.inl h)) (fun k sh sz es b o h=>by cases h)
    (fun b o hs=>⟨(m'.stab b o hs).1,fun hb=> .inl (hls b o ((hno b hb).2 o hs))⟩)
   exact ⟨val,{S:=g'.S,e:=g.e},rfl,m1,l1,⟨f'.size,fun b hb hne=>⟨hold b hb,hne,fun o ho=>hls b o ((hno b hb).2 o ho)⟩,f'.os,f'.tape,f'.output⟩,rv.of_plain (g:=g') (g':={S:=g'.S,e:=g.e}) (w:=w') (w':=w') (fun _ _ h=>h) (fun _ _ _=>rfl) hp⟩
 ·cases h;cases he
  obtain ⟨m1,l1⟩:=hm.after (w':=w') (S':=g'.S) (sh':=fun k=>args.any (leadsTo k)) (bs':=shareAll bs args) (fun k=>at_share bs args k) hold (fun b o h=>l'.S b o (.inl h))
   (fun k sh sz es b o hk hb hblk ho=>by
    exact l'.S b o (.inr ⟨k,sh,sz,es,hk,hb,hblk,ho⟩))
   (fun b o hs=>⟨(m'.stab b o hs).1,fun hb=>by
    rcases (hno b hb).2 o hs with h1 | ⟨k,sh,sz,es,hin,h2,h3,h4⟩
    ·exact .inl h1
    ·exact .inr ⟨k,sh,sz,es,hin,h2,h3,h4⟩⟩)
  refine ⟨val,{S:=g'.S,e:=g.e},rfl,m1,l1,⟨f'.size,fun b hb hne=>⟨hold b hb,hne,fun o ho=> ?_⟩,f'.os,f'.tape,f'.output⟩,rv.of_plain (g:=g') (g':={S:=g'.S,e:=g.e}) (w:=w') (w':=w') (fun _ _ h=>h) (fun _ _ _=>rfl) hp⟩
  rcases (hno b hb).2 o ho with h1 | ⟨k,sh,sz,es,hin,h2,h3,h4⟩
  ·exact h1
  ·exact absurd h3 (hne k)
omit [Kn] in
theorem plain_cell {e x:AV} {j:Nat} (h:e.plain=true) (hx:e.cells[j]?=some x):x.plain=true:=by
 cases e with
 | agg cs=>exact plainAll_get (cs:=cs) (by simpa only [AV.plain] using h) hx
 | _=>cases j with
  | zero=>simp only [AV.cells,List.getElem?_cons_zero,Option.some.injEq] at hx;subst hx;exact h
  | succ j=>simp [AV.cells] at hx
omit [Kn] in
theorem at_push (b:List Box) (x:Box) (k:Nat):Box.at (b++ [x]) k=if k=b.length then x else Box.at b k:=by
 simp only [Box.at,List.getD_eq_getElem?_getD]
 by_cases h1:k<b.length
 ·rw [List.getElem?_append_left h1,if_neg (by omega)]
 ·by_cases h2:k=b.length
  ·subst h2;simp
  ·rw [if_neg h2,List.getElem?_eq_none (by simp;omega),List.getElem?_eq_none (by omega)]
omit [Kn] in
theorem share_none: ∀{args:List AV} {bs:List Box},hasOsl args=false→shareAll bs args=bs
 | [],_,_=>rfl
 | x::r,bs,h=>by
  cases x <;> simp only [hasOsl,Bool.true_eq_false] at h <;> (simp only [shareAll];exact share_none h)
theorem lent_new (hm:Mem g bs w) {args:List AV} {n:Nat} {sh:Hd} {sz:Nat} {es:List AV} {en:Ending} {w':World}
  (hlk:sh.link=none) (hc:CPost (g.lent bs args) w [.sl sh sz es] (.osl 0 n) en w'):CPost g w (shareAll bs args++ [.sl sh sz es]) (.osl bs.length n) en w':=by
 obtain ⟨val,g',rfl,m',l',f',rv⟩:=hc
 have hno: ∀b,b<w.heap.size→w'.heap[b]?=w.heap[b]?∧ ∀o,g'.S b o→(g.lent bs args).S b o:=fun b hb=>by
  obtain ⟨h1,_,h3⟩:=f'.frame b hb (fun k=>by simp [Gh.lent,GE.blk])
  exact ⟨h1,h3⟩
 have hold: ∀b,b<w.heap.size→w'.heap[b]?=w.heap[b]?:=fun b hb=>(hno b hb).1
 obtain ⟨m1,l1⟩:=hm.after (w':=w') (S':=g'.S) (sh':=fun k=>args.any (leadsTo k)) (bs':=shareAll bs args) (fun k=>at_share bs args k) hold (fun b o h=>l'.S b o (.inl h))
  (fun k sh sz es b o hk hb hblk ho=>by
   exact l'.S b o (.inr ⟨k,sh,sz,es,hk,hb,hblk,ho⟩))
  (fun b o hs=>⟨(m'.stab b o hs).1,fun hb=>by
   rcases (hno b hb).2 o hs with h1 | ⟨k,sh,sz,es,hin,h2,h3,h4⟩
   ·exact .inl h1
   ·exact .inr ⟨k,sh,sz,es,hin,h2,h3,h4⟩⟩)
 have hlen:(shareAll bs args).length=bs.length:=share_length args bs
 obtain ⟨loc,hge,hsl⟩:=m'.sl 0 sh sz es rfl
 have hblk: ∀b,(g'.e 0).blk=some b→w.heap.size≤b:=fun b hb=>by
  rcases Nat.lt_or_ge b w.heap.size with h | h
  ·obtain ⟨_,h2,_⟩:=f'.frame b h (fun k=>by simp [Gh.lent,GE.blk])
   exact absurd hb (h2 0)
  ·exact h
 let G:Gh:={S:=g'.S,e:=fun j=>if j=bs.length then g'.e 0 else g.e j}
 have hGn:G.e bs.length=g'.e 0:=by simp [G]
 have hGo: ∀j,j≠bs.length→G.e j=g.e j:=fun j h=>by simp [G,h]
 have hfree:g.e bs.length= .no:=hm.no _ (by simp [Box.at])
 have hlG:Le {S:=g'.S,e:=g.e} w' G w':=⟨fun _ _ h=>h,fun _ _ _=>rfl,fun j=>by
  by_cases h:j=bs.length
  ·subst h;rw [hfree];exact .no _
  ·rw [hGo j h];exact .same _⟩
 have hsl':SlRel G w' sh sz es loc:=by
  refine ⟨hsl.1,?_⟩
  cases loc with
  | none=>exact hsl.2
  | some p=>
   obtain ⟨c,ty,fz,q1,q2,q3,q4,q5,q6⟩:=hsl.2
   exact ⟨c,ty,fz,q1,q2,q3,q4,fun i j e x v a1 a2 a3=>⟨(q5 i j e x v a1 a2 a3).1.of_plain (g:=g') (g':=G) (w:=w') (w':=w') (fun _ _ h=>h) (fun _ _ _=>rfl) (plain_cell (hsl.1 i e a1).1 a2),(q5 i j e x v a1 a2 a3).2⟩,q6.1,fun _ _ _ _ h=>(by rw [hlk] at h;cases h)⟩
 have m2:Mem G (shareAll bs args++ [.sl sh sz es]) w':=by
  refine ⟨fun k hk=> ?_,fun k ty cs hk=> ?_,fun k sh' sz' es' hk=> ?_,fun k st hk=> ?_,fun k es clock hk=> ?_,fun k hk=> ?_,fun k o hk=> ?_,fun k l b hk hl=> ?_,fun b o hs=> ?_,fun p hp=>⟨(m1.kn p hp).1,fun k hk=> ?_⟩⟩
  ·rw [at_push,hlen] at hk
   split at hk
   ·cases hk
   ·rename_i h;rw [hGo k h];exact m1.no k hk
  ·rw [at_push,hlen] at hk
   split at hk
   ·cases hk
   ·rename_i h
    obtain ⟨b,h1,h2⟩:=m1.var k ty cs hk
    exact ⟨b,by rw [hGo k h];exact h1,h2.mono hlG rfl⟩
  ·rw [at_push,hlen] at hk
   split at hk
   ·rename_i h
    cases hk
    subst h
    exact ⟨loc,by rw [hGn];exact hge,hsl'⟩
   ·rename_i h
    obtain ⟨loc,h1,h2⟩:=m1.sl k sh' sz' es' hk
    exact ⟨loc,by rw [hGo k h];exact h1,h2.mono hlG (fun _ _=>rfl)⟩
  ·rw [at_push,hlen] at hk
   split at hk
   ·cases hk
   ·rename_i h
    obtain ⟨b,r,h1,h2⟩:=m1.loop k st hk
    exact ⟨b,r,by rw [hGo k h];exact h1,h2⟩
  ·rw [at_push,hlen] at hk
   split at hk
   ·cases hk
   ·rename_i h
    obtain ⟨b,h1,h2⟩:=m1.mp k es clock hk
    exact ⟨b,by rw [hGo k h];exact h1,h2.mono hlG rfl⟩
  ·rw [at_push,hlen] at hk
   split at hk
   ·cases hk
   ·rename_i h;rw [hGo k h];exact m1.gone k hk
  ·rw [at_push,hlen] at hk
   split at hk
   ·cases hk
   ·rename_i h;rw [hGo k h];obtain ⟨b,h1,h2⟩:=m1.it k o hk;exact ⟨b,h1,h2.le hlG rfl⟩
  ·by_cases h1:k=bs.length
   ·by_cases h2:l=bs.length
    ·rw [h1,h2]
    ·subst h1
     rw [hGn] at hk
     rw [hGo l h2] at hl
     have:=hblk b hk
     have:=hm.blk_lt hl
     omega
   ·by_cases h2:l=bs.length
    ·subst h2
     rw [hGn] at hl
     rw [hGo k h1] at hk
     have:=hblk b hl
     have:=hm.blk_lt hk
     omega
    ·rw [hGo k h1] at hk
     rw [hGo l h2] at hl
     exact hm.inj k l b hk hl
  ·obtain ⟨h1,h2⟩:=m1.stab b o hs
   refine ⟨h1,fun k hk=> ?_⟩
   by_cases h:k=bs.length
   ·subst h
    rw [hGn] at hk
    obtain ⟨ty,sz',es',h3,h4⟩:=(m'.stab b o hs).2 0 hk
    have h3:Box.sl sh sz es= .sl ⟨true,ty,none⟩ sz' es':=h3
    exact ⟨ty,sz',es',by rw [at_push,hlen,if_pos rfl];exact h3,h4⟩
   ·rw [hGo k h] at hk
    obtain ⟨ty,sz',es',h3,h4⟩:=h2 k hk
    exact ⟨ty,sz',es',by rw [at_push,hlen,if_neg h];exact h3,h4⟩
  ·by_cases h:k=bs.length
   ·subst h
    rw [hGn] at hk
    exact (m'.kn p hp).2 0 hk
   ·rw [hGo k h] at hk
    exact (m1.kn p hp).2 k hk
 refine ⟨val,G,rfl,m2,l1.trans hlG,⟨f'.size,fun b hb hne=>⟨hold b hb,fun k hk=> ?_,fun o ho=> ?_⟩,f'.os,f'.tape,f'.output⟩,?_⟩
 ·by_cases h:k=bs.length
  ·subst h
   rw [hGn] at hk
   have:=hblk b hk
   omega
  ·rw [hGo k h] at hk
   exact hne k hk
 ·rcases (hno b hb).2 o ho with h1 | ⟨k,sh,sz,es,hin,h2,h3,h4⟩
  ·exact h1
  ·exact absurd h3 (hne k)
 ·cases rv with
  | osl _ _ m sz' loc' _ h1 h hle hv=>exact .osl _ _ m sz' loc' _ h1 (by rw [hGn];exact h) hle hv
theorem callP_sound {c:Cfg} {cf:CallF} (hcf:CfOk P cf) (hov:OvOk P c) (hm:Mem g bs w) {f:FuncId} {args:List AV} {vs:Array Value} (hx:RdAll g w args vs.toList) {r:AV} {e:Eff} {id:Nat}
  (h:callP c cf f args bs=some (r,e)) {bs':List Box} (he:e.on bs id=some bs'):Enters P f∧Calls P f vs w (CPost g w bs' r):=by
 have all: ∀{v:AV} {bs1:List Box},cf (.fn f) args bs=some (v,bs1)→(some (v,Eff.all bs1):Out)=some (r,e)→Enters P f∧Calls P f vs w (CPost g w bs' r):=fun {v bs1} h1 h2=>by
  cases h2;cases he
  obtain ⟨h3,h4⟩:=hcf.fn _ _ _ _ _ h1
  exact ⟨h3,h4 g w vs hm hx⟩
 unfold callP at h
 split at h
 ·split at h
  ·rename_i h1;exact all h1 h
  ·cases h
 unfold callL at h
 split at h
 ·rename_i l hl
  split at h
  ·rename_i hp
   have hlr:=lendAll_rd hm (args:=leavesAll args) hx (fun _ h=>h) hl hp
   split at h
   ·rename_i G hG
    split at h
    ·rename_i v hv
     split at h
     ·rename_i hvp
      obtain ⟨h1,h2⟩:=hov f G hG l v hv hp
      exact ⟨h1,(h2 _ w vs (mem_lent hm (leavesAll args)) hlr).mono fun en w' hc=>lent_back hm hvp h he hc⟩
     ·cases h
    ·cases h
   ·split at h
    ·rename_i v hv
     split at h
     ·rename_i hvp
      obtain ⟨h1,h2⟩:=hcf.fn _ _ _ _ _ hv
      exact ⟨h1,(h2 _ w vs (mem_lent hm (leavesAll args)) hlr).mono fun en w' hc=>lent_back hm hvp h he hc⟩
     ·cases h
    ·rename_i hv
     split at h
     ·rename_i hfr
      obtain ⟨h1,h2⟩:=hcf.fn _ _ _ _ _ hv
      obtain ⟨rfl,hb,hlk⟩:=fresh1_eq hfr
      rw [hb] at h2
      refine ⟨h1,(h2 _ w vs (mem_lent hm (leavesAll args)) hlr).mono fun en w' hc=> ?_⟩
      have h5:=lent_new hm hlk hc
      split at h
      ·cases h;cases he;exact h5
      ·rename_i hno
       cases h;cases he
       rw [share_none hno] at h5
       exact h5
     ·split at h
      ·rename_i h1;exact all h1 h
      ·cases h
    ·cases h
  ·split at h
   ·rename_i h1;exact all h1 h
   ·cases h
 ·cases h
def OvbOk (P:Program) (c:Cfg):Prop:= ∀f G,c.ovb f=some G→ ∀xs bs r bs',G xs bs=some (r,bs')→Enters P f∧ ∀g w (vs:Array Value),Mem g bs w→RdAll g w xs vs.toList→Calls P f vs w (CPost g w bs' r)
def ExtOk (P:Program) (c:Cfg):Prop:= ∀f G,c.ext f=some G→ ∀xs r,G xs=some r→ ∀g w (vs:Array Value),RdAll g w xs vs.toList→ ∃v,(callFunc f vs).run P w= .ok (.value v) w∧Rd g w r v
structure OvAll (P:Program) (c:Cfg):Prop where
 ov:OvOk P c
 ovb:OvbOk P c
 ext:ExtOk P c
theorem callA_sound {c:Cfg} {cf:CallF} (hcf:CfOk P cf) (hov:OvAll P c) (hm:Mem g bs w) {f:FuncId} {args:List AV} {vs:Array Value} (hx:RdAll g w args vs.toList) {r:AV} {e:Eff} {id:Nat}
  (h:callA c cf f args bs=some (r,e)) {bs':List Box} (he:e.on bs id=some bs'):Enters P f∧Calls P f vs w (CPost g w bs' r):=by
 unfold callA at h
 split at h
 ·rename_i G hG
  split at h
  ·rename_i hv
   cases h;cases he
   obtain ⟨h3,h4⟩:=hov.ovb f G hG _ _ _ _ hv
   exact ⟨h3,h4 g w vs hm hx⟩
  ·cases h
 ·exact callP_sound hcf hov.ov hm hx h he
end
end Go.Am
