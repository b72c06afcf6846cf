/- Each operation of the abstract machine is sound, part: -/
import Derived.Maps.RangeRun
import Derived.Test.YtnlndhjfmghajaaGreatDoorAmOps4
import Derived.MapKept
import Derived.RangeFuncRecord
set_option linter.all false
namespace Go.Am
variable [Kn]
section
variable {P:Program} {g:Gh} {bs:List Box} {w:World}
theorem ba_beq (a b:List UInt8):(ByteArray.mk a.toArray==ByteArray.mk b.toArray)=(a==b):=by
 rw [beq_toListBytes,bytes_toList,bytes_toList]
theorem key_cell {x:AV} (h:keyAV x=true) (hx: ∀cs,x≠ .agg cs):cellAV x=true:=by
 cases x <;> first
  | exact h
  | exact absurd rfl (hx _)
theorem cell_val {g g':Gh} {w w':World} {x:AV} {u v:Value} (hk:cellAV x=true) (hu:Rd g w x u) (hv:Rd g' w' x v):u=v∧ ∀n,Instr.sameBits n u u=true:=by
 cases x <;> simp only [cellAV,Bool.false_eq_true] at hk
 ·obtain rfl:=hu.int_inv;obtain rfl:=hv.int_inv;exact ⟨rfl,fun n=>by cases n <;> simp [Instr.sameBits]⟩
 ·obtain rfl:=hu.bool_inv;obtain rfl:=hv.bool_inv;exact ⟨rfl,fun n=>by cases n <;> simp [Instr.sameBits]⟩
 ·obtain rfl:=hu.str_inv;obtain rfl:=hv.str_inv;exact ⟨rfl,fun n=>by cases n <;> simp [Instr.sameBits,ba_beq]⟩
theorem key_val {g g':Gh} {w w':World} {x:AV} {u v:Value} (hk:keyAV x=true) (hu:Rd g w x u) (hv:Rd g' w' x v):u=v∧ ∀n,Instr.sameBits (n+1) u u=true:=by
 cases x with
 | agg cs=>
  obtain ⟨us,rfl,hun,hu'⟩:=hu.agg_inv
  obtain ⟨vs,rfl,hvn,hv'⟩:=hv.agg_inv
  simp only [keyAV,List.all_eq_true] at hk
  have each: ∀(i:Nat) (h:i<us.size),us[i]?=vs[i]?∧ ∀n,Instr.sameBits n us[i] us[i]=true:=fun i h=>by
   have h1:i<cs.length:=by omega
   have h2:i<vs.size:=by omega
   have hc:cs[i]?=some cs[i]:=List.getElem?_eq_getElem h1
   have e:=cell_val (hk _ (List.getElem_mem h1)) (hu' i _ us[i] hc (by simp [h])) (hv' i _ vs[i] hc (by simp [h2]))
   exact ⟨by simp [h,h2,e.1],e.2⟩
  refine ⟨by
   congr 1
   apply Array.ext_getElem?
   intro i
   by_cases h:i<us.size
   ·exact (each i h).1
   ·rw [Array.getElem?_eq_none (by omega),Array.getElem?_eq_none (by omega)],fun n=> ?_⟩
  simp only [Instr.sameBits,beq_self_eq_true,Bool.true_and,List.all_eq_true]
  rintro ⟨a,b⟩ hab
  obtain ⟨i,hi,h⟩:=List.mem_iff_getElem.1 hab
  simp only [List.getElem_zip,Prod.mk.injEq] at h
  obtain ⟨h1,h2⟩:=h
  have hi':i<us.size:=by simp at hi;exact hi
  have e:=(each i hi').2 n
  simp only [Array.getElem_toList] at h1 h2
  rw [←h1,←h2]
  exact e
 | _=>
  have hk:=key_cell hk (fun _ e=>by cases e)
  exact ⟨(cell_val hk hu hv).1,fun n=>(cell_val hk hu hv).2 (n+1)⟩
theorem same_cell {a b:AV} (h:sameCell a b=true):a=b:=by
 unfold sameCell at h
 split at h
 ·simp only [Bool.and_eq_true,decide_eq_true_eq,beq_iff_eq] at h;rw [h.1,h.2]
 ·simp only [beq_iff_eq] at h;rw [h]
 ·simp only [beq_iff_eq] at h;rw [h]
 ·cases h
theorem same_cells: ∀{a b:List AV},sameCells a b=true→a=b
 | [], [],_=>rfl
 | a::r,b::s,h=>by
  simp only [sameCells,Bool.and_eq_true] at h
  rw [same_cell h.1,same_cells h.2]
 | [],_::_,h=>by cases h
 | _::_, [],h=>by cases h
theorem same_key {a b:AV} (h:sameKey a b=true):a=b:=by
 unfold sameKey at h
 split at h
 ·rw [same_cells h]
 ·exact same_cell h
theorem stays_run (w:World) {k:AV} {u v:Value} (hk:keyAV k=true) (hu:Rd g w k u) (hv:Rd g w k v):(Instr.keyThatStays u v).run P w= .ok v w:=by
 obtain ⟨rfl,h⟩:=key_val hk hu hv
 unfold Instr.keyThatStays
 rw [show (10000:Nat)=9999+1 from rfl,h 9999]
 simp
theorem check_fields {c:Cfg} (hc:CfgTy c P) {fine:TypeId→AV→Bool} {em:Bool} {n:Nat} {cs:List AV} {vs:Array Value}
  (hf: ∀t x v,fine t x=true→Rd g w x v→(Instr.checkKey em n t v).run P w= .ok () w) (hn:vs.size=cs.length) (hvs: ∀(i:Nat) (c:AV) (v:Value),cs[i]?=some c→vs[i]?=some v→Rd g w c v):
  ∀(fs:List Field),keyFields (partT c) fine cs (fs.map fun f=>(f.type,f.offset,((P.info? f.type).map (·.size)).getD 0))=true→
   (forIn fs PUnit.unit (fun f _=>do
    if f.name≠ "_" then do Instr.checkKey em n f.type (←part f.type vs f.offset);pure (ForInStep.yield PUnit.unit)
    else pure (ForInStep.yield PUnit.unit)):Sem PUnit).run P w= .ok PUnit.unit w
 | [],_=>by simp
 | f::fs,h=>by
  simp only [List.map_cons,keyFields] at h
  split at h
  ·rename_i a ha
   simp only [Bool.and_eq_true] at h
   obtain ⟨u,hu,hr⟩:=partT_run hc hn hvs ha
   have:=hf f.type a u h.1 hr
   have ih:=check_fields hc hf hn hvs fs h.2
   simp only [List.forIn_cons,Sem.run_bind]
   by_cases hnm:f.name= "_"
   ·rw [if_neg (by simp [hnm])]
    simp only [Sem.run_pure,Result.andThen_ok]
    exact ih
   ·rw [if_pos hnm]
    simp only [Sem.run_bind,hu,Result.andThen_ok,this,Sem.run_pure]
    exact ih
  ·cases h
theorem check_items {c:Cfg} (hc:CfgTy c P) {fine:TypeId→AV→Bool} {em:Bool} {n:Nat} {cs:List AV} {vs:Array Value} {e:TypeId} {j:TI} {info:TypeInfo} (hj:TyIs P e j info)
  (hf: ∀t x v,fine t x=true→Rd g w x v→(Instr.checkKey em n t v).run P w= .ok () w) (hn:vs.size=cs.length) (hvs: ∀(i:Nat) (c:AV) (v:Value),cs[i]?=some c→vs[i]?=some v→Rd g w c v):
  ∀(is:List Nat),keyItems (partT c) fine e j.size cs is=true→
   (forIn is PUnit.unit (fun i _=>do
    let s←sizeOf e
    let x←part e vs (i*s)
    Instr.checkKey em n e x
    pure (ForInStep.yield PUnit.unit)):Sem PUnit).run P w= .ok PUnit.unit w
 | [],_=>by simp
 | i::is,h=>by
  simp only [keyItems] at h
  split at h
  ·rename_i a ha
   simp only [Bool.and_eq_true] at h
   obtain ⟨u,hu,hr⟩:=partT_run hc hn hvs ha
   have h1:=hf e a u h.1 hr
   have ih:=check_items hc hj hf hn hvs is h.2
   simp only [List.forIn_cons,Sem.run_bind,sizeOf,typeInfo,run_program,Result.andThen_ok,hj.info,Sem.run_pure,hj.size,hu,h1] at ih⊢
   exact ih
  ·cases h
theorem andThen_of {α:Type} {r:Result α} {x:α} {w:World} (h:r= .ok x w):(r.andThen fun _ w'=>(pure ():Sem Unit).run P w')= .ok () w:=by
 rw [h];rfl
theorem check_run {c:Cfg} (hc:CfgTy c P) (em:Bool): ∀(d n:Nat) (t:TypeId) (x:AV) (v:Value),keyFine c d t x=true→Rd g w x v→(Instr.checkKey em (n+d) t v).run P w= .ok () w
 | 0,_,_,_,_,h,_=>by cases h
 | d+1,n,t,x,v,h,hx=>by
  unfold keyFine at h
  split at h
  ·rename_i i hti
   obtain ⟨info,hi⟩:=ty_is (hc.ty t i hti)
   rw [show n+(d+1)=(n+d)+1 from rfl,Instr.checkKey]
   split at h
   ·rename_i fs hdesc
    have hu:P.underlying t=some (.struct fs):=hdesc▸hi.und
    split at h
    ·obtain ⟨vs,rfl,hn,hvs⟩:=hx.agg_inv
     simp only [Sem.run_bind,run_underlying hu,Result.andThen_ok]
     rw [←Array.forIn_toList]
     rw [hi.fields,hdesc] at h
     exact andThen_of (check_fields hc (fun t x v h hx=>check_run hc em d n t x v h hx) hn hvs fs.toList h)
    ·cases h
   ·rename_i len e hdesc
    have hu:P.underlying t=some (.array len e):=hdesc▸hi.und
    split at h
    ·rename_i cs j hj
     obtain ⟨jinfo,hj'⟩:=ty_is (hc.ty e j hj)
     obtain ⟨vs,rfl,hn,hvs⟩:=hx.agg_inv
     simp only [Sem.run_bind,run_underlying hu,Result.andThen_ok]
     simp only [Std.Legacy.Range.forIn_eq_forIn_range',Std.Legacy.Range.size,Nat.sub_zero,Nat.add_one_sub_one,Nat.div_one]
     rw [List.range_eq_range'] at h
     exact andThen_of (check_items hc hj' (fun t x v h hx=>check_run hc em d n t x v h hx) hn hvs _ h)
    ·cases h
   ·cases h
   ·rename_i h1 h2 h3
    simp only [Sem.run_bind,run_underlying hi.und,Result.andThen_ok]
    generalize i.desc=D at h1 h2 h3
    split
    ·exact absurd rfl (h3 _)
    ·exact absurd rfl (h2 _ _)
    ·exact absurd rfl (h1 _)
    ·exact absurd rfl (h3 _)
    ·exact absurd rfl (h3 _)
    ·exact absurd rfl (h2 _ _)
    ·exact absurd rfl (h1 _)
    ·rfl
  ·cases h
theorem same_now {c:Cfg} (hc:CfgTy c P) {kt:TypeId} {d:TypeDesc} (hu:P.underlying kt=some d) {n:Nat} {x y:AV} {u v:Value} {b:Bool} (h:eqRec c n kt x y=some b) (hx:Rd g w x u) (hy:Rd g w y v):
  Instr.sameNow d u v=some b∨Instr.sameNow d u v=none:=by
 cases n with
 | zero=>cases h
 | succ n=>
  unfold eqRec at h
  cases ht:c.ti kt with
  | none=>rw [ht] at h;cases h
  | some i=>
   obtain ⟨info,hi⟩:=ty_is (hc.ty kt i ht)
   have hd:i.desc=d:=by have:=hi.und;rw [hu] at this;exact (Option.some.inj this).symm
   rw [ht] at h
   simp only [hd] at h
   split at h
   ·obtain ⟨us,rfl,_,_⟩:=hx.agg_inv
    cases d <;> exact .inr rfl
   ·cases d with
    | int k0=>
     unfold eqCell at h
     simp only at h
     split at h
     ·obtain rfl:=hx.int_inv;obtain rfl:=hy.int_inv
      split at h
      ·rename_i hk
       cases h
       exact .inl (by simp [Instr.sameNow,hk])
      ·cases h
     ·cases h
    | string=>
     unfold eqCell at h
     simp only at h
     split at h
     ·obtain rfl:=hx.str_inv;obtain rfl:=hy.str_inv
      cases h
      refine .inl ?_
      simp only [Instr.sameNow,Option.some.injEq]
      exact ba_beq _ _
     ·cases h
    | bool=>
     unfold eqCell at h
     simp only at h
     split at h
     ·obtain rfl:=hx.bool_inv;obtain rfl:=hy.bool_inv
      cases h
      exact .inl (by simp [Instr.sameNow])
     ·cases h
    | _=>exact .inr (by cases u <;> rfl)
theorem find_both {c:Cfg} (hc:CfgTy c P) (hvs:Vars g w) {kt:TypeId} {d:TypeDesc} (hu:P.underlying kt=some d) {k:AV} {v:Value} (hk:Rd g w k v): ∀(es:List (AV×AV×Nat)) (ents:List MapEntry) (i:Nat) (r:Option (Nat×AV×AV×Nat)),
  es.length=ents.length→(∀(j:Nat) (e:AV×AV×Nat) (m:MapEntry),es[j]?=some e→ents[j]?=some m→Rd g w e.1 m.key)→findA (eqRec c 20 kt) k es i=some r→
  ∃q,(Instr.findNow d v ents i=some q∨Instr.findNow d v ents i=none)∧(Instr.findAsking kt v ents i).run P w= .ok q w∧
   match r with
   | none=>q=none
   | some (j,e)=> ∃n m,j=i+n∧es[n]?=some e∧ents[n]?=some m∧q=some (j,m.val)
 | [], [],i,r,_,_,h=>by
  cases h
  exact ⟨none,.inl rfl,by simp [Instr.findAsking],rfl⟩
 | [],_::_,_,_,h,_,_=>by simp at h
 | _::_, [],_,_,h,_,_=>by simp at h
 | e::es,m::ents,i,r,hl,hr,h=>by
  have h0:=hr 0 e m rfl rfl
  simp only [findA] at h
  cases he:eqRec c 20 kt k e.1 with
  | none=>rw [he] at h;cases h
  | some b=>
   rw [he] at h
   have hrun:(Op.equal kt v m.key).run P w= .ok b w:=by
    have:=eqRec_run hc hvs 20 9980 kt k e.1 v m.key b he hk h0
    exact this
   have hnow:=same_now hc hu he hk h0
   cases b with
   | true=>
    cases h
    refine ⟨some (i,m.val),?_,by simp [Instr.findAsking,hrun],0,m,rfl,rfl,rfl,rfl⟩
    rcases hnow with hnow | hnow
    ·exact .inl (by simp [Instr.findNow,hnow])
    ·exact .inr (by simp [Instr.findNow,hnow])
   | false=>
    obtain ⟨q,q1,q2,q3⟩:=find_both hc hvs hu hk es ents (i+1) r (by simpa using hl) (fun j e' m' h1 h2=>hr (j+1) e' m' (by simpa using h1) (by simpa using h2)) h
    refine ⟨q,?_,by simp [Instr.findAsking,hrun,q2],?_⟩
    ·rcases hnow with hnow | hnow
     ·simp only [Instr.findNow,hnow];exact q1
     ·exact .inr (by simp [Instr.findNow,hnow])
    ·cases r with
     | none=>exact q3
     | some p=>
      obtain ⟨j,e'⟩:=p
      obtain ⟨n,m',h1,h2,h3,h4⟩:=q3
      exact ⟨n+1,m',by omega,by simpa using h2,by simpa using h3,h4⟩
theorem find_run {c:Cfg} (hc:CfgTy c P) (hvs:Vars g w) {kt:TypeId} {d:TypeDesc} (hu:P.underlying kt=some d) {k:AV} {v:Value} (hk:Rd g w k v) {es:List (AV×AV×Nat)} {ents:List MapEntry} {r:Option (Nat×AV×AV×Nat)}
  (hl:es.length=ents.length) (hr: ∀(j:Nat) (e:AV×AV×Nat) (m:MapEntry),es[j]?=some e→ents[j]?=some m→Rd g w e.1 m.key) (h:findA (eqRec c 20 kt) k es 0=some r):
  ∃q,(Instr.findKey kt v ents).run P w= .ok q w∧
   match r with
   | none=>q=none
   | some (j,e)=> ∃m,es[j]?=some e∧ents[j]?=some m∧q=some (j,m.val):=by
 obtain ⟨q,q1,q2,q3⟩:=find_both hc hvs hu hk es ents 0 r hl hr h
 refine ⟨q,?_,?_⟩
 ·unfold Instr.findKey
  rcases q1 with q1 | q1
  ·simp [run_underlying hu,q1]
  ·simp [run_underlying hu,q1,q2]
 ·cases r with
  | none=>exact q3
  | some p=>
   obtain ⟨n,m,h1,h2,h3,h4⟩:=q3
   obtain rfl:p.1=n:=by simpa using h1
   exact ⟨m,h2,h3,h4⟩
theorem ofCell_cells (v:Value):(ofCell v).cells= [ofCell v]:=by
 unfold ofCell
 split <;> rfl
theorem zeroV_run {c:Cfg} (hc:CfgTy c P) {t:TypeId} {i:TI} (hti:c.ti t=some i) {z:AV} (hz:zeroA i=some z): ∃v,(zeroValue t).run P w= .ok v w∧Rd g w z v:=by
 obtain ⟨info,hi⟩:=ty_is (hc.ty t i hti)
 unfold zeroA at hz
 split at hz
 ·rename_i cs hcs
  have hzz:=hi.zero
  rw [hcs] at hzz
  cases hv:info.zero with
  | none=>rw [hv] at hzz;cases hzz
  | some v=>
   rw [hv] at hzz
   simp only [Option.map_some,Option.some.injEq] at hzz
   subst hzz
   have hok:=hi.zok
   rw [hv] at hok
   refine ⟨v,by simp [zeroValue,typeInfo,hi.info,hv],?_⟩
   have hr:=rd_val g w v
   split at hz
   ·rename_i hag
    rw [hag] at hok
    cases v <;> simp only [zvOk,Bool.not_true,Bool.false_eq_true] at hok
    cases hz
    exact hr
   ·rename_i hag
    rw [hag] at hok
    split at hz
    ·rename_i x hx
     cases hz
     have hv2:ofVal v=ofCell v:=by cases v <;> first | rfl | (simp only [zvOk,Bool.false_eq_true] at hok)
     rw [hv2,ofCell_cells] at hx
     cases hx
     rw [←hv2]
     exact hr
    ·cases hz
 ·cases hz
theorem Rd.nilm_inv {v:Value} (h:Rd g w .nilm v):v= .map none:=by cases h;rfl
theorem valOk_of {x:AV} (h:x.plain=true):valOk x=true:=by
 unfold valOk
 split
 ·rfl
 ·rfl
 ·exact h
theorem Rd.mapv_inv {k:Nat} {v:Value} (h:Rd g w (.mapv k) v): ∃b,g.e k= .mp b∧v= .map (some b):=by
 cases h;exact ⟨_,‹_›,rfl⟩
theorem lookup_run {t kt el:TypeId} {u v z:Value} {ok b:Bool} {ents:Array MapEntry} {q:Option (Nat×Value)} (hu:P.underlying t=some (.map kt el)) (h1:(u= .map none∧ents= #[])∨ ∃b clock,u= .map (some b)∧w.heap[b]?=some (.map ents clock))
  (hck:(Instr.checkKey ents.isEmpty 10000 kt v).run P w= .ok () w) (hq:(Instr.findKey kt v ents.toList).run P w= .ok q w) (hz:(∃j,q=some (j,z)∧b=true)∨(q=none∧b=false∧(zeroValue el).run P w= .ok z w)):
  (Instr.lookup t u v ok).run P w= .ok (if ok=true then .tuple #[z,.bool b] else z) w:=by
 rcases h1 with ⟨rfl,rfl⟩ | ⟨r,clock,rfl,hh⟩
 ·rw [show (#[]:Array MapEntry).isEmpty=true from rfl] at hck
  rcases hz with ⟨j,rfl,rfl⟩ | ⟨rfl,rfl,hz⟩
  ·simp only [Instr.lookup,Sem.run_bind,run_underlying hu,Result.andThen_ok,Sem.run_pure,show (#[]:Array MapEntry).isEmpty=true from rfl,hck,hq]
  ·simp only [Instr.lookup,Sem.run_bind,run_underlying hu,Result.andThen_ok,Sem.run_pure,show (#[]:Array MapEntry).isEmpty=true from rfl,hck,hq,hz]
 ·rcases hz with ⟨j,rfl,rfl⟩ | ⟨rfl,rfl,hz⟩
  ·simp only [Instr.lookup,Sem.run_bind,run_underlying hu,Result.andThen_ok,Sem.run_pure,MapKept.run_getObj_map hh,hck,hq]
  ·simp only [Instr.lookup,Sem.run_bind,run_underlying hu,Result.andThen_ok,Sem.run_pure,MapKept.run_getObj_map hh,hck,hq,hz]
theorem lookup_sound {c:Cfg} (hc:CfgTy c P) (hm:Mem g bs w) {t:TypeId} {x k r:AV} {u v:Value} {ok:Bool} {e:Eff} (hx:Rd g w x u) (hk:Rd g w k v) (h:lookupA c (c.ti t) x k ok bs=some (r,e)):
  e= .none∧OpOk ((do pure (Next.value (←Instr.lookup t u v ok)):Sem Next).run P w) g w bs r:=by
 unfold lookupA at h
 split at h
 ·rename_i i hti
  obtain ⟨info,hi⟩:=ty_is (hc.ty t i hti)
  split at h
  ·rename_i kt el hdesc
   have hu:P.underlying t=some (.map kt el):=hdesc▸hi.und
   split at h
   ·rename_i es hes
    split at h
    ·rename_i hfine
     have hent: ∃ents:Array MapEntry,((u= .map none∧ents= #[])∨ ∃b clock,u= .map (some b)∧w.heap[b]?=some (.map ents clock))∧ents.size=es.length∧
       ∀(i:Nat) (e:AV×AV×Nat) (m:MapEntry),es[i]?=some e→ents[i]?=some m→Rd g w e.1 m.key∧Rd g w e.2.1 m.val:=by
      unfold entriesA at hes
      split at hes
      ·cases hes
       exact ⟨#[],.inl ⟨hx.nilm_inv,rfl⟩,rfl,fun i e m h=>by simp at h⟩
      ·split at hes
       ·rename_i b es' clock hb
        cases hes
        obtain ⟨b',hg,hu'⟩:=hx.mapv_inv
        obtain ⟨b2,hg2,ents,hh,hn,hall⟩:=hm.mp _ _ _ hb
        rw [hg] at hg2;cases hg2
        exact ⟨ents,.inr ⟨_,_,hu',hh⟩,hn,fun i e m h1 h2=>⟨(hall i e m h1 h2).1.2,(hall i e m h1 h2).2.1.2⟩⟩
       ·cases hes
      ·cases hes
     obtain ⟨ents,he1,he2,he3⟩:=hent
     have hck:=check_run hc ents.isEmpty 8 9992 kt k v hfine hk
     have hkt: ∃d,P.underlying kt=some d:=by
      unfold keyFine at hfine
      split at hfine
      ·rename_i j hj
       obtain ⟨_,hj'⟩:=ty_is (hc.ty kt j hj)
       exact ⟨_,hj'.und⟩
      ·cases hfine
     obtain ⟨d,hd⟩:=hkt
     cases hf:findA (eqRec c 20 kt) k es 0 with
     | none=>rw [hf] at h;cases h
     | some res=>
      rw [hf] at h
      obtain ⟨q,hq,hq2⟩:=find_run hc hm.vars hd hk (ents:=ents.toList) (by simpa using he2.symm) (fun j e m h1 h2=>(he3 j e m h1 (by simpa using h2)).1) hf
      have hbase: ∀z b,(Instr.lookup t u v ok).run P w= .ok (if ok=true then .tuple #[z,.bool b] else z) w→Rd g w r (if ok=true then .tuple #[z,.bool b] else z)→OpOk ((do pure (Next.value (←Instr.lookup t u v ok)):Sem Next).run P w) g w bs r:=
       fun z b hz hrr=> .pure (wrap_run P w _ _ _ hz) hm hrr
      cases res with
      | none=>
       subst hq2
       simp only at h
       split at h
       ·rename_i j hj
        cases hz:zeroA j with
        | none=>rw [hz] at h;cases h
        | some z=>
         rw [hz] at h
         simp only [Option.map_some,Option.some.injEq,Prod.mk.injEq] at h
         obtain ⟨rfl,rfl⟩:=h
         obtain ⟨zv,hz1,hz2⟩:=zeroV_run (g:=g) (w:=w) hc hj hz
         refine ⟨rfl,hbase zv false (lookup_run hu he1 hck hq (.inr ⟨rfl,rfl,hz1⟩)) ?_⟩
         cases ok with
         | true=>exact .tup _ _ rfl (fun i x v h1 h2=>by
           rcases i with _ | _ | i
           ·simp at h1 h2;rw [←h1,←h2];exact hz2
           ·simp at h1 h2;rw [←h1,←h2];exact .bool _
           ·simp at h1)
         | false=>exact hz2
       ·cases h
      | some p=>
       obtain ⟨j,e'⟩:=p
       obtain ⟨m,h1,h2,rfl⟩:=hq2
       simp only [Option.some.injEq,Prod.mk.injEq] at h
       obtain ⟨rfl,rfl⟩:=h
       have hrd:=(he3 j e' m h1 (by simpa using h2)).2
       refine ⟨rfl,hbase m.val true (lookup_run hu he1 hck hq (.inl ⟨_,rfl,rfl⟩)) ?_⟩
       cases ok with
       | true=>exact .tup _ _ rfl (fun i x v h1 h2=>by
         rcases i with _ | _ | i
         ·simp at h1 h2;rw [←h1,←h2];exact hrd
         ·simp at h1 h2;rw [←h1,←h2];exact .bool _
         ·simp at h1)
       | false=>exact hrd
    ·cases h
   ·cases h
  ·cases h
 ·cases h
def celled:Obj→Bool
 | .cells _ _ _=>true
 | _=>false
theorem cell_put {w:World} {D:Nat} {x y:Obj} (h:w.heap[D]?=some x) (hx:celled x=false) (hy:celled y=false) (b o:Nat):(w.putObj D y).cell? ⟨b,o,none⟩=w.cell? ⟨b,o,none⟩:=by
 by_cases e:b=D
 ·subst e
  simp only [World.cell?,h,World.putObj_heap_same (lt_of_row h)]
  cases x <;> cases y <;> simp [celled] at hx hy <;> rfl
 ·simp only [World.cell?,World.putObj_heap_other e]
theorem map_upd (hm:Mem g bs w) {k b:Nat} {es es':List (AV×AV×Nat)} {clock clock':Nat} {ents ents':Array MapEntry} (hb:Box.at bs k= .mp es clock) (hg:g.e k= .mp b) (hh:w.heap[b]?=some (.map ents clock))
  (hn:ents'.size=es'.length) (hall: ∀(i:Nat) (e:AV×AV×Nat) (m:MapEntry),es'[i]?=some e→ents'[i]?=some m→(keyAV e.1=true∧Rd g w e.1 m.key)∧(valOk e.2.1=true∧Rd g w e.2.1 m.val)∧m.born=e.2.2∧m.born<clock')
  {r:Result Next} {nx:Next} {v:Value} {d:AV} (hr:r= .ok nx (w.putObj b (.map ents' clock'))) (hnx:nx= .value v∨(nx= .skip∧v=undef)) (hd:Rd g w d v):OpOk r g w (bs.set k (.mp es' clock')) d:=by
 have hlt:=lt_of_row hh
 have hk:k<bs.length:=at_lt (by rw [hb];simp)
 have hcell: ∀b2 o,g.S b2 o→(w.putObj b (.map ents' clock')).cell? ⟨b2,o,none⟩=w.cell? ⟨b2,o,none⟩:=fun b2 o _=>cell_put hh rfl rfl b2 o
 have hle:Le g w (g.put2 k (.mp b) g.S) (w.putObj b (.map ents' clock')):=⟨fun _ _ h=>h,hcell,fun j=>by
  by_cases e:k=j
  ·subst e;rw [Gh.put2_same,hg];exact .same _
  ·rw [Gh.put2_other _ _ _ e];exact .same _⟩
 obtain ⟨m',l',f'⟩:=hm.upd (id:=k) (x:= .mp es' clock') (ge:= .mp b) (S':=g.S) (w':=w.putObj b (.map ents' clock')) hk (fun _ _ h=>h) hcell (by rw [hg];exact .same _)
  (fun b2 _ hne=>World.putObj_heap_other (fun e=>hne (by rw [hg,e];rfl))) (by simp) (fun b2 hb2=> .inl (by rw [hg];exact hb2)) (by simp) (fun _ _ h=>by cases h) (fun _ _ _ h=>by cases h) (fun _ _ h=> .inl h)
  (fun b2 o hs hb2=>by
   obtain ⟨ty,sz,es,h3,_⟩:=(hm.stab b2 o hs).2 k (by rw [hg];exact hb2)
   rw [hb] at h3;cases h3) rfl rfl rfl (fun _ h=>by cases h)
  (fun es2 clock2 h=>by
   cases h
   exact ⟨b,rfl,ents',World.putObj_heap_same hlt,hn,fun i e m h1 h2=>let ⟨⟨k1,k2⟩,⟨k3,k4⟩,k5⟩:=hall i e m h1 h2;⟨⟨k1,k2.mono hle⟩,⟨k3,k4.mono hle⟩,k5⟩⟩)
 exact ⟨nx,v,_,_,hr,hnx,m',l',f',hd.mono hle⟩
theorem run_setObj_put {b:Nat} {ents:Array MapEntry} {clock:Nat} (o:Obj) (h:w.heap[b]?=some (.map ents clock)):(setObj b o).run P w= .ok () (w.putObj b o):=MapKept.run_setObj_map o h
theorem key_desc {c:Cfg} (hc:CfgTy c P) {kt:TypeId} {k:AV} (h:keyFine c 8 kt k=true): ∃d,P.underlying kt=some d:=by
 unfold keyFine at h
 split at h
 ·rename_i j hj
  obtain ⟨_,hj'⟩:=ty_is (hc.ty kt j hj)
  exact ⟨_,hj'.und⟩
 ·cases h
theorem lt_modify {α:Type} {l:Array α} {i j:Nat} {f:α→α} {m:α} (h:(l.modify i f)[j]?=some m): ∃m0,l[j]?=some m0∧m=if i=j then f m0 else m0:=by
 rw [Array.getElem?_modify] at h
 split at h
 ·rename_i e
  cases hl:l[j]? with
  | none=>rw [hl] at h;cases h
  | some m0=>rw [hl] at h;cases h;exact ⟨m0,rfl,by rw [if_pos e]⟩
 ·rename_i e
  exact ⟨m,h,by rw [if_neg e]⟩
theorem mapUpdate_sound {c:Cfg} (hc:CfgTy c P) (hm:Mem g bs w) {t:TypeId} {m k x r:AV} {u v z:Value} {id:Nat} {e:Eff} (hu:Rd g w m u) (hk:Rd g w k v) (hx:Rd g w x z) (h:mapUpdateA c (c.ti t) m k x bs=some (r,e)) {bs':List Box} (he:e.on bs id=some bs'):
  OpOk ((do Instr.mapUpdate t u v z;pure Next.skip:Sem Next).run P w) g w bs' r:=by
 unfold mapUpdateA at h
 split at h
 ·rename_i i hti
  obtain ⟨info,hi⟩:=ty_is (hc.ty t i hti)
  split at h
  ·rename_i kt el hdesc
   have hut:P.underlying t=some (.map kt el):=hdesc▸hi.und
   split at h
   ·rename_i b
    split at h
    ·rename_i es clock hb
     split at h
     ·rename_i hok
      simp only [Bool.and_eq_true] at hok
      obtain ⟨⟨hfine,hkey⟩,hpl⟩:=hok
      obtain ⟨b',hg,rfl⟩:=hu.mapv_inv
      obtain ⟨b2,hg2,ents,hh,hn,hall⟩:=hm.mp _ _ _ hb
      rw [hg] at hg2;cases hg2
      have hck:=check_run hc false 8 9992 kt k v hfine hk
      obtain ⟨d,hd⟩:=key_desc hc hfine
      cases hf:findA (eqRec c 20 kt) k es 0 with
      | none=>rw [hf] at h;cases h
      | some res=>
       rw [hf] at h
       obtain ⟨q,hq,hq2⟩:=find_run hc hm.vars hd hk (ents:=ents.toList) (by simpa using hn.symm) (fun j e m h1 h2=>(hall j e m h1 (by simpa using h2)).1.2) hf
       cases res with
       | none=>
        subst hq2
        cases h;cases he
        refine map_upd hm hb hg hh (ents':=ents.push {key:=v,val:=z,born:=clock}) (by simp [hn]) (fun i e m h1 h2=> ?_) (nx:= .skip) (v:=undef) ?_ (.inr ⟨rfl,rfl⟩) (.tup _ _ rfl (fun i c v h=>by simp at h))
        ·rw [Array.getElem?_push] at h2
         by_cases hi':i=ents.size
         ·rw [if_pos hi'] at h2
          cases h2
          rw [hi',hn,List.getElem?_append_right (Nat.le_refl _)] at h1
          simp only [Nat.sub_self,List.getElem?_cons_zero,Option.some.injEq] at h1
          subst h1
          exact ⟨⟨hkey,hk⟩,⟨hpl,hx⟩,rfl,Nat.lt_succ_self _⟩
         ·rw [if_neg hi'] at h2
          have hlt:i<ents.size:=by
           rcases Nat.lt_or_ge i ents.size with h' | h'
           ·exact h'
           ·rw [Array.getElem?_eq_none h'] at h2;cases h2
          rw [List.getElem?_append_left (by omega)] at h1
          obtain ⟨a1,a2,a3,a4⟩:=hall i e m h1 h2
          exact ⟨a1,a2,a3,by omega⟩
        ·simp only [Instr.mapUpdate,Sem.run_bind,run_underlying hut,Result.andThen_ok,MapKept.run_getObj_map hh,hck,hq,run_setObj_put _ hh,Sem.run_pure]
       | some p=>
        obtain ⟨j,e'⟩:=p
        obtain ⟨m,h1,h2,rfl⟩:=hq2
        simp only at h
        split at h
        ·rename_i hsame
         cases h;cases he
         have h2':ents[j]?=some m:=by simpa using h2
         have hke:=same_key hsame
         obtain ⟨a1,a2,a3,a4⟩:=hall j e' m h1 h2'
         have hst:=stays_run (P:=P) w hkey (hke▸a1.2) hk
         refine map_upd hm hb hg hh (ents':=ents.modify j fun e=>{e with key:=v,val:=z}) (by simp [hn]) (fun i e m' g1 g2=> ?_) (nx:= .skip) (v:=undef) ?_ (.inr ⟨rfl,rfl⟩) (.tup _ _ rfl (fun i c v h=>by simp at h))
         ·obtain ⟨m0,k1,rfl⟩:=lt_modify g2
          rw [List.getElem?_set] at g1
          by_cases hij:j=i
          ·subst hij
           rw [if_pos rfl] at g1⊢
           split at g1
           ·cases g1
            rw [h2'] at k1;cases k1
            exact ⟨⟨hkey,hk⟩,⟨hpl,hx⟩,a3,a4⟩
           ·cases g1
          ·rw [if_neg hij] at g1⊢
           exact hall i e m0 g1 k1
         ·simp only [Instr.mapUpdate,Sem.run_bind,run_underlying hut,Result.andThen_ok,MapKept.run_getObj_map hh,hck,hq,h2',Option.map_some,Option.getD_some,hst,run_setObj_put _ hh,Sem.run_pure]
        ·cases h
     ·cases h
    ·cases h
   ·cases h
  ·cases h
 ·cases h
theorem mapEntry_sound {c:Cfg} (hc:CfgTy c P) (hm:Mem g bs w) {t:TypeId} {m k r:AV} {u v:Value} {id:Nat} {e:Eff} (hu:Rd g w m u) (hk:Rd g w k v) (h:mapEntryA c (c.ti t) m k bs=some (r,e)) {bs':List Box} (he:e.on bs id=some bs'):
  OpOk ((do pure (Next.value (←Instr.mapEntry t u v)):Sem Next).run P w) g w bs' r:=by
 have two: ∀{x:AV} {z:Value} {n:Nat},Rd g w x z→Rd g w (.tup [x,.int .i64 n]) (.tuple #[z,goInt n]):=fun hz=> .tup _ _ rfl (fun i x v h1 h2=>by
  rcases i with _ | _ | i
  ·simp at h1 h2;rw [←h1,←h2];exact hz
  ·simp at h1 h2;rw [←h1,←h2];exact .int _ _
  ·simp at h1)
 unfold mapEntryA at h
 split at h
 ·rename_i i hti
  obtain ⟨info,hi⟩:=ty_is (hc.ty t i hti)
  split at h
  ·rename_i kt el hdesc
   have hut:P.underlying t=some (.map kt el):=hdesc▸hi.und
   split at h
   ·rename_i b
    split at h
    ·rename_i es clock hb
     split at h
     ·rename_i hok
      simp only [Bool.and_eq_true] at hok
      obtain ⟨hfine,hkey⟩:=hok
      obtain ⟨b',hg,rfl⟩:=hu.mapv_inv
      obtain ⟨b2,hg2,ents,hh,hn,hall⟩:=hm.mp _ _ _ hb
      rw [hg] at hg2;cases hg2
      have hck:=check_run hc false 8 9992 kt k v hfine hk
      obtain ⟨d,hd⟩:=key_desc hc hfine
      cases hf:findA (eqRec c 20 kt) k es 0 with
      | none=>rw [hf] at h;cases h
      | some res=>
       rw [hf] at h
       obtain ⟨q,hq,hq2⟩:=find_run hc hm.vars hd hk (ents:=ents.toList) (by simpa using hn.symm) (fun j e m h1 h2=>(hall j e m h1 (by simpa using h2)).1.2) hf
       cases res with
       | none=>
        subst hq2
        simp only at h
        split at h
        ·rename_i j hj
         split at h
         ·rename_i z hz
          split at h
          ·rename_i hpl
           cases h;cases he
           obtain ⟨zv,hz1,hz2⟩:=zeroV_run (g:=g) (w:=w) hc hj hz
           refine map_upd hm hb hg hh (ents':=ents.push {key:=v,val:=zv,born:=clock}) (by simp [hn]) (fun i e m h1 h2=> ?_) ?_ (.inl rfl) (two hz2)
           ·rw [Array.getElem?_push] at h2
            by_cases hi':i=ents.size
            ·rw [if_pos hi'] at h2
             cases h2
             rw [hi',hn,List.getElem?_append_right (Nat.le_refl _)] at h1
             simp only [Nat.sub_self,List.getElem?_cons_zero,Option.some.injEq] at h1
             subst h1
             exact ⟨⟨hkey,hk⟩,⟨valOk_of hpl,hz2⟩,rfl,Nat.lt_succ_self _⟩
            ·rw [if_neg hi'] at h2
             have hlt:i<ents.size:=by
              rcases Nat.lt_or_ge i ents.size with h' | h'
              ·exact h'
              ·rw [Array.getElem?_eq_none h'] at h2;cases h2
             rw [List.getElem?_append_left (by omega)] at h1
             obtain ⟨a1,a2,a3,a4⟩:=hall i e m h1 h2
             exact ⟨a1,a2,a3,by omega⟩
           ·simp only [Instr.mapEntry,Sem.run_bind,run_underlying hut,Result.andThen_ok,MapKept.run_getObj_map hh,hck,hq,hz1,run_setObj_put _ hh,Sem.run_pure]
          ·cases h
         ·cases h
        ·cases h
       | some p=>
        obtain ⟨j,e'⟩:=p
        obtain ⟨m,h1,h2,rfl⟩:=hq2
        simp only at h
        split at h
        ·rename_i hsame
         cases h;cases he
         have h2':ents[j]?=some m:=by simpa using h2
         have hke:=same_key hsame
         obtain ⟨a1,a2,a3,a4⟩:=hall j e' m h1 h2'
         have hst:=stays_run (P:=P) w hkey (hke▸a1.2) hk
         refine map_upd hm hb hg hh (ents':=ents.modify j fun e=>{e with key:=v}) (by simp [hn]) (fun i e m' g1 g2=> ?_) (v:= .tuple #[m.val,goInt e'.2.2]) ?_ (.inl rfl) (two a2.2)
         ·obtain ⟨m0,k1,rfl⟩:=lt_modify g2
          obtain ⟨b1,b2,b3,b4⟩:=hall i e m0 g1 k1
          by_cases hij:j=i
          ·subst hij
           rw [if_pos rfl]
           rw [h1] at g1;cases g1
           exact ⟨⟨b1.1,hke▸hk⟩,b2,b3,b4⟩
          ·rw [if_neg hij]
           exact ⟨b1,b2,b3,b4⟩
         ·simp only [Instr.mapEntry,Sem.run_bind,run_underlying hut,Result.andThen_ok,MapKept.run_getObj_map hh,hck,hq,h2',Option.map_some,Option.getD_some,hst,run_setObj_put _ hh,Sem.run_pure,a3]
        ·cases h
     ·cases h
    ·cases h
   ·cases h
  ·cases h
 ·cases h
theorem born_run {n:Int}: ∀(es:List (AV×AV×Nat)) (ents:List MapEntry) (i:Nat) (p:Nat×AV×AV×Nat),es.length=ents.length→(∀(j:Nat) (e:AV×AV×Nat) (m:MapEntry),es[j]?=some e→ents[j]?=some m→m.born=e.2.2)→bornA n es i=some p→
  ∃k,p.1=i+k∧es[k]?=some p.2∧ents.findIdx? (fun e=>(e.born:Int)==n)=some k
 | [],_,_,_,_,_,h=>by cases h
 | _::_, [],_,_,h,_,_=>by simp at h
 | e::es,m::ents,i,p,hl,hr,h=>by
  have h0:=hr 0 e m rfl rfl
  simp only [bornA] at h
  split at h
  ·rename_i heq
   cases h
   exact ⟨0,rfl,rfl,by simp [List.findIdx?_cons,h0,heq]⟩
  ·rename_i hne
   obtain ⟨k,k1,k2,k3⟩:=born_run es ents (i+1) p (by simpa using hl) (fun j e' m' h1 h2=>hr (j+1) e' m' (by simpa using h1) (by simpa using h2)) h
   refine ⟨k+1,by omega,by simpa using k2,?_⟩
   have:((m.born:Int)==n)=false:=by rw [h0];simpa using hne
   simp [List.findIdx?_cons,this,k3]
theorem findIdx_find {α:Type} (p:α→Bool): ∀(l:List α) (k:Nat) (x:α),l.findIdx? p=some k→l[k]?=some x→l.find? p=some x
 | [],k,x,h,_=>by simp at h
 | a::r,k,x,h,hx=>by
  rw [List.findIdx?_cons] at h
  rw [List.find?_cons]
  cases ha:p a with
  | true=>
   rw [ha] at h
   simp only [if_true,Option.some.injEq] at h
   subst h
   simp only [List.getElem?_cons_zero] at hx
   exact hx
  | false=>
   rw [ha] at h
   simp only [Bool.false_eq_true,if_false,Option.map_eq_some_iff] at h
   obtain ⟨j,hj,rfl⟩:=h
   simp only
   exact findIdx_find p r j x hj (by simpa using hx)
theorem entry_sound (hm:Mem g bs w) {x r:AV} {u:Value} {e:Eff} (hx:Rd g w x u) (h:entryA x bs=some (r,e)):
  e= .none∧OpOk ((do pure (Next.value (←Instr.entry u)):Sem Next).run P w) g w bs r:=by
 unfold entryA at h
 split at h
 ·rename_i k
  split at h
  ·rename_i m seen clock hk
   split at h
   ·rename_i n es clock' hlast hmp
    split at h
    ·rename_i hcl
     subst hcl
     split at h
     ·rename_i j e' hborn
      cases h
      refine ⟨rfl,?_⟩
      cases hx with
      | itv _ b hg=>
       obtain ⟨b',hg',hr⟩:=hm.it k _ hk
       rw [hg] at hg';cases hg'
       obtain ⟨hmk,bm,hgm,hh⟩:=hr
       obtain ⟨bm',hgm',ents,hhm,hsz,hrel⟩:=hm.mp m es _ hmp
       rw [hgm] at hgm';cases hgm'
       obtain ⟨q,k1,k2,k3⟩:=born_run (n:=(n:Int)) es ents.toList 0 _ (by simpa using hsz.symm) (fun j e m h1 h2=>(hrel j e m h1 (by simpa using h2)).2.2.1) hborn
       have hq:=getElem?_lt k2
       have hq2:q<ents.size:=by omega
       have hget:ents.toList[q]?=some ents[q]:=by simp [hq2]
       have hfind:=findIdx_find _ ents.toList q _ k3 hget
       have hfind2:ents.find? (fun e=>e.born==n)=some ents[q]:=by
        have h9:ents.toList.find? (fun e=>e.born==n)=ents.find? (fun e=>e.born==n):=by
         cases ents with | mk l=>simp only [List.find?_toArray]
        rw [←h9,←hfind]
        congr 1
        funext e
        rw [Bool.eq_iff_iff]
        simp only [beq_iff_eq]
        omega
       obtain ⟨r1,r2,_⟩:=hrel q e' ents[q] k2 (Array.getElem?_eq_getElem hq2)
       have hback:seen.toArray.back?=some n:=by
        rw [Array.back?_eq_getElem?]
        rw [List.getLast?_eq_getElem?] at hlast
        simpa using hlast
       have hrun:(Instr.entry (.pointer (some ⟨b,0,none⟩))).run P w= .ok (.tuple #[ents[q].key,ents[q].val]) w:=by
        have g1:(getObj b).run P w= .ok (.mapIter (some bm) clock' seen.toArray clock') w:=by simp [getObj,Sem.run,hh]
        have g2:(getObj bm).run P w= .ok (.map ents clock') w:=MapKept.run_getObj_map hhm
        simp [Instr.entry,g1,g2,hback,hfind2]
       refine .pure (wrap_run P w _ _ _ hrun) hm (.tup _ _ rfl (fun i c v hc hv=> ?_))
       match i,hc,hv with
       | 0,hc,hv=>cases hc;cases hv;exact r1.2
       | 1,hc,hv=>cases hc;cases hv;exact r2.2
     ·cases h
    ·cases h
   ·cases h
  ·cases h
 ·cases h
theorem entryStore_sound (hm:Mem g bs w) {t:TypeId} {m s x r:AV} {u v z:Value} {id:Nat} {e:Eff} (hu:Rd g w m u) (hk:Rd g w s v) (hx:Rd g w x z) (h:entryStoreA m s x bs=some (r,e)) {bs':List Box} (he:e.on bs id=some bs'):
  OpOk ((do Instr.entryStore t u v z;pure Next.skip:Sem Next).run P w) g w bs' r:=by
 unfold entryStoreA at h
 split at h
 ·rename_i b kk n
  split at h
  ·rename_i es clock hb
   split at h
   ·rename_i hpl
    split at h
    ·rename_i j e' hborn
     cases h;cases he
     obtain rfl:=hk.int_inv
     obtain ⟨b',hg,rfl⟩:=hu.mapv_inv
     obtain ⟨b2,hg2,ents,hh,hn,hall⟩:=hm.mp _ _ _ hb
     rw [hg] at hg2;cases hg2
     obtain ⟨k,k1,k2,k3⟩:=born_run es ents.toList 0 _ (by simpa using hn.symm) (fun j e m h1 h2=>(hall j e m h1 (by simpa using h2)).2.2.1) hborn
     obtain rfl:j=k:=by simpa using k1
     have k3':ents.findIdx? (fun e=>(e.born:Int)==n)=some j:=by
      have h9:ents.toList.findIdx? (fun e=>(e.born:Int)==n)=ents.findIdx? (fun e=>(e.born:Int)==n):=by
       cases ents with | mk l=>simp only [List.findIdx?_toArray]
      rw [←h9];exact k3
     refine map_upd hm hb hg hh (ents':=ents.modify j fun e=>{e with val:=z}) (by rw [Array.size_modify,List.length_set];exact hn) (fun i e m' g1 g2=> ?_) (nx:= .skip) (v:=undef) ?_ (.inr ⟨rfl,rfl⟩) (.tup _ _ rfl (fun i c v h=>by simp at h))
     ·obtain ⟨m0,q1,rfl⟩:=lt_modify g2
      rw [List.getElem?_set] at g1
      by_cases hij:j=i
      ·subst hij
       rw [if_pos rfl] at g1⊢
       split at g1
       ·cases g1
        obtain ⟨a1,a2,a3,a4⟩:=hall j _ m0 k2 q1
        exact ⟨a1,⟨hpl,hx⟩,a3,a4⟩
       ·cases g1
      ·rw [if_neg hij] at g1⊢
       exact hall i e m0 g1 q1
     ·simp only [Instr.entryStore,Sem.run_bind,Result.andThen_ok,MapKept.run_getObj_map hh,asInt,asIntOf,Sem.run_pure,k3',run_setObj_put _ hh]
    ·cases h
   ·cases h
  ·cases h
 ·cases h
theorem makeMap_sound {c:Cfg} (hc:CfgTy c P) (hm:Mem g bs w) {t:TypeId} {o:Option AV} {ov:Option Value} {r:AV} {id:Nat} {e:Eff} (ho: ∀x,o=some x→ ∃v,ov=some v∧Rd g w x v) (hno:o=none→ov=none) (h:makeMapA o (c.ti t) id=some (r,e)) {bs':List Box} (he:e.on bs id=some bs'):
  OpOk ((do pure (Next.value (←Instr.makeMap t ov)):Sem Next).run P w) g w bs' r:=by
 unfold makeMapA at h
 split at h
 ·rename_i i hti
  obtain ⟨info,hi⟩:=ty_is (hc.ty t i hti)
  split at h
  ·rename_i kt el hdesc
   have hut:P.underlying t=some (.map kt el):=hdesc▸hi.und
   have hrun:r= .mapv id∧e= .new (.mp [] 0)∧(Instr.makeMap t ov).run P w= .ok (.map (some w.heap.size)) (w.alloc (.map #[] 0)):=by
    split at h
    ·cases h
     rw [hno rfl]
     exact ⟨rfl,rfl,by simp [Instr.makeMap]⟩
    ·cases h
     obtain ⟨v,rfl,hv⟩:=ho _ rfl
     obtain rfl:=hv.int_inv
     exact ⟨rfl,rfl,by simp [Instr.makeMap,run_underlying hut,asInt,asIntOf]⟩
    ·cases h
   obtain ⟨rfl,rfl,hrun⟩:=hrun
   simp only [Eff.on] at he
   split at he
   ·rename_i hd
    cases he
    have hid:=getElem?_lt hd
    have hd':Box.at bs id= .dead:=by simp [Box.at,List.getD_eq_getElem?_getD,hd]
    have hold: ∀b,b<w.heap.size→(w.alloc (.map #[] 0)).heap[b]?=w.heap[b]?:=fun b hb=>alloc_old w _ hb
    have hsz:w.heap.size≤(w.alloc (.map #[] 0)).heap.size:=by simp
    have hblk: ∀b,(GE.mp w.heap.size).blk=some b→w.heap.size≤b:=fun b hb=>by simp [GE.blk] at hb;omega
    obtain ⟨m',l'⟩:=hm.new (x:= .mp [] 0) (ge:= .mp w.heap.size) hid hd' hold hsz hblk (by simp) (fun _ _ h=>by cases h) (fun _ _ _ h=>by cases h) (fun _ h=>by cases h)
     (fun es clock h=>by cases h;exact ⟨_,rfl, #[],alloc_new w _,rfl,fun i e m h=>by simp at h⟩)
    exact ⟨_,_,_,_,wrap_run P w _ _ _ hrun,.inl rfl,m',l',Fr.new hsz hold hblk rfl rfl rfl,.mapv id _ (Gh.put_same _ _ _)⟩
   ·cases he
  ·cases h
 ·cases h
theorem range_sound {c:Cfg} (hc:CfgTy c P) (hm:Mem g bs w) {t:TypeId} {x r:AV} {u:Value} {id:Nat} {e:Eff} (hx:Rd g w x u) (h:rangeA (c.ti t) x bs id=some (r,e)) {bs':List Box} (he:e.on bs id=some bs'):
  OpOk ((do pure (Next.value (←Instr.range t u)):Sem Next).run P w) g w bs' r:=by
 unfold rangeA at h
 split at h
 ·rename_i i hti
  obtain ⟨info,hi⟩:=ty_is (hc.ty t i hti)
  split at h
  ·rename_i s hdesc
   cases h
   obtain rfl:=hx.str_inv
   have hrun:(Instr.range t (.string ⟨s.toArray⟩)).run P w= .ok (.pointer (some ⟨w.heap.size,0,none⟩)) (w.alloc (.stringIter ⟨s.toArray⟩ 0)):=by
    simp [Instr.range,run_underlying (hdesc▸hi.und)]
   simp only [Eff.on] at he
   split at he
   ·rename_i hd
    cases he
    have hid:=getElem?_lt hd
    have hd':Box.at bs id= .dead:=by simp [Box.at,List.getD_eq_getElem?_getD,hd]
    have hold: ∀b,b<w.heap.size→(w.alloc (.stringIter ⟨s.toArray⟩ 0)).heap[b]?=w.heap[b]?:=fun b hb=>alloc_old w _ hb
    have hsz:w.heap.size≤(w.alloc (.stringIter ⟨s.toArray⟩ 0)).heap.size:=by simp
    have hblk: ∀b,(GE.mp w.heap.size).blk=some b→w.heap.size≤b:=fun b hb=>by simp [GE.blk] at hb;omega
    obtain ⟨m',l'⟩:=hm.new (x:= .iter (.str s 0)) (ge:= .mp w.heap.size) hid hd' hold hsz hblk (by simp) (fun _ _ h=>by cases h) (fun _ _ _ h=>by cases h)
     (hit:=fun o' h=>by cases h;exact ⟨_,rfl,alloc_new w _⟩)
    exact ⟨_,_,_,_,wrap_run P w _ _ _ hrun,.inl rfl,m',l',Fr.new hsz hold hblk rfl rfl rfl,.itv id _ (Gh.put_same _ _ _)⟩
   ·cases he
  ·rename_i kt el m hdesc
   split at h
   ·rename_i es clock hb
    split at h
    ·rename_i hmid
     cases h
     have hmid:=of_decide_eq_true hmid
     cases hx with
     | mapv _ bm hg=>
      obtain ⟨bm',hg',ents,hh,hrest⟩:=hm.mp m es clock hb
      rw [hg] at hg';cases hg'
      have hrun:=run_range_map (P:=P) w t kt el bm ents clock (hdesc▸hi.und) hh
      simp only [Eff.on] at he
      split at he
      ·rename_i hd
       cases he
       have hid:=getElem?_lt hd
       have hd':Box.at bs id= .dead:=by simp [Box.at,List.getD_eq_getElem?_getD,hd]
       have hold: ∀b,b<w.heap.size→(w.alloc (.mapIter (some bm) clock #[] clock)).heap[b]?=w.heap[b]?:=fun b hb=>alloc_old w _ hb
       have hsz:w.heap.size≤(w.alloc (.mapIter (some bm) clock #[] clock)).heap.size:=by simp
       have hblk: ∀b,(GE.mp w.heap.size).blk=some b→w.heap.size≤b:=fun b hb=>by simp [GE.blk] at hb;omega
       obtain ⟨m',l'⟩:=hm.new (x:= .iter (.map m [] clock)) (ge:= .mp w.heap.size) hid hd' hold hsz hblk (by simp) (fun _ _ h=>by cases h) (fun _ _ _ h=>by cases h)
        (hit:=fun o' h=>by cases h;exact ⟨_,rfl,hmid,bm,by rw [Gh.put_other _ _ (by omega)];exact hg,alloc_new w _⟩)
       exact ⟨_,_,_,_,wrap_run P w _ _ _ hrun,.inl rfl,m',l',Fr.new hsz hold hblk rfl rfl rfl,.itv id _ (Gh.put_same _ _ _)⟩
      ·cases he
    ·cases h
   ·cases h
  ·cases h
 ·cases h
theorem next_sound (hm:Mem g bs w) {t:TypeId} {x r:AV} {u:Value} {str:Bool} {id:Nat} {e:Eff} (hx:Rd g w x u) (h:nextA x str bs=some (r,e)) {bs':List Box} (he:e.on bs id=some bs'):
  OpOk ((do pure (Next.value (←Instr.next u str t)):Sem Next).run P w) g w bs' r:=by
 unfold nextA at h
 split at h
 ·rename_i k
  split at h
  ·rename_i s pos hb
   cases hx with
   | itv _ b hg=>
    obtain ⟨b',hg',hh⟩:=hm.it k (.str s pos) hb
    have hh:w.heap[b']?=some (.stringIter ⟨s.toArray⟩ pos):=hh
    rw [hg] at hg';cases hg'
    have hk:k<bs.length:=at_lt (by rw [hb];simp)
    have hlt:=lt_of_row hh
    have hsz:(ByteArray.mk s.toArray).size=s.length:=by show s.toArray.size=_;simp
    split at h
    ·rename_i hpos
     cases h;cases he
     simp only [decide_eq_true_eq] at hpos
     have hcell: ∀b2 o,g.S b2 o→(w.putObj b (.stringIter ⟨s.toArray⟩ (pos+(runeAt s pos).2))).cell? ⟨b2,o,none⟩=w.cell? ⟨b2,o,none⟩:=fun b2 o _=>cell_put hh rfl rfl b2 o
     obtain ⟨m',l',f'⟩:=hm.upd (id:=k) (x:= .iter (.str s (pos+(runeAt s pos).2))) (ge:= .mp b) (S':=g.S) (w':=w.putObj b (.stringIter ⟨s.toArray⟩ (pos+(runeAt s pos).2))) hk (fun _ _ h=>h) hcell (by rw [hg];exact .same _)
      (fun b2 _ hne=>World.putObj_heap_other (fun e=>hne (by rw [hg,e];rfl))) (by simp) (fun b2 hb2=> .inl (by rw [hg];exact hb2)) (by simp) (fun _ _ h=>by cases h) (fun _ _ _ h=>by cases h) (fun _ _ h=> .inl h)
      (fun b2 o hs hb2=>by
       obtain ⟨ty,sz,es,h3,_⟩:=(hm.stab b2 o hs).2 k (by rw [hg];exact hb2)
       rw [hb] at h3;cases h3) rfl rfl rfl (hit:=fun o' h=>by cases h;exact ⟨b,rfl,World.putObj_heap_same hlt⟩)
     refine ⟨_,.tuple #[.bool true,.int .i64 pos,.int .i32 (runeAt s pos).1],_,_,?_,.inl rfl,m',l',f',.tup _ _ rfl (fun i c v hc hv=> ?_)⟩
     ·have hr:(Instr.next (.pointer (some ⟨b,0,none⟩)) true t).run P w= .ok (.tuple #[.bool true,.int .i64 pos,.int .i32 (runeAt s pos).1]) (w.putObj b (.stringIter ⟨s.toArray⟩ (pos+(runeAt s pos).2))):=by
       have h1:(getObj b).run P w= .ok (.stringIter ⟨s.toArray⟩ pos) w:=by simp [getObj,Sem.run,hh]
       have h2:pos<(ByteArray.mk s.toArray).size:=by rw [hsz];exact hpos
       simp only [Instr.next,Sem.run_bind,h1,Result.andThen_ok,h2,if_true]
       simp [setObj,Sem.run,hh,runeAt,goInt,World.putObj]
      exact wrap_run P w _ _ _ hr
     ·match i,hc,hv with
      | 0,hc,hv=>cases hc;cases hv;exact .bool _
      | 1,hc,hv=>cases hc;cases hv;exact .int _ _
      | 2,hc,hv=>cases hc;cases hv;exact .int _ _
    ·rename_i hpos
     cases h;cases he
     simp only [decide_eq_false_iff_not] at hpos
     rw [set_at hb]
     refine .pure (v:= .tuple #[.bool false]) ?_ hm (.tup _ _ rfl (fun i c v hc hv=> ?_))
     ·have hr:(Instr.next (.pointer (some ⟨b,0,none⟩)) true t).run P w= .ok (.tuple #[.bool false]) w:=by
       have h1:(getObj b).run P w= .ok (.stringIter ⟨s.toArray⟩ pos) w:=by simp [getObj,Sem.run,hh]
       have h2: ¬ pos<(ByteArray.mk s.toArray).size:=by rw [hsz];exact hpos
       simp only [Instr.next,Sem.run_bind,h1,Result.andThen_ok,h2,if_false]
       rfl
      exact wrap_run P w _ _ _ hr
     ·match i,hc,hv with
      | 0,hc,hv=>cases hc;cases hv;exact .bool _
  ·cases h
 ·cases h
end
end Go.Am
