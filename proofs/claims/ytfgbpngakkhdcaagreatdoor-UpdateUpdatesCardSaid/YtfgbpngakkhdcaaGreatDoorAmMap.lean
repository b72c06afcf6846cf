/- Each operation of the abstract machine is sound, part: -/
import Derived.Maps.RangeRun
import Derived.Test.YtfgbpngakkhdcaaGreatDoorAm
import Derived.MapKept
import Derived.RangeFuncRecord
import Derived.IntWalk
import Derived.Laws.IdiomStrings
import Derived.Laws.Append
import Derived.Lib.UnsafeStr
import Derived.Tactics
import Derived.TacticsIn
import Derived.OrdersIn
import Derived.LoopNIn
open Array renaming getElem?_append_left->χ,getElem?_eq_getElem->ϑ,getElem?_eq_none->τ,getElem?_modify->Τ,getElem?_push->Ϥ,mem_filter->Ϸ,range->Ε
open Bool renaming false->φ,true->κ,and_eq_true->L,false_eq_true->Ν,not_eq_true'->Ρ,or_eq_true->σ,true_eq_false->Ϭ
open Go renaming Addr->Æ,Calls->À,Ending->Å,FuncId->Ϻ,MapEntry->Α,Next->Λ,Program->υ,TypeDesc->ϐ,TypeId->V,TypeInfo->ϗ,Value->H,World->η,cell_setRow_other->ϓ,growslice_fits->ϣ,run_bytes_of_string->ϧ,run_underlying->C,setRow_heap->Ψ,setRow_other->ύ
open Go.Lib renaming run_unsafeSliceData_nil->ώ,run_unsafeString_none->ϒ
open Int renaming eq_ofNat_of_zero_le->Ϙ
open List renaming length->É,all_eq_true->ϯ,any_cons->ϕ,append_assoc->Ο,drop_zero->Ϡ,eq_nil_of_length_eq_zero->π,findIdx?_cons->Ϗ,flatMap_cons->ϔ,foldlM_cons->ϵ,forIn_cons->Ϲ,getD_eq_getElem?_getD->M,getElem?_append->Γ,getElem?_append_left->Z,getElem?_append_right->U,getElem?_cons_zero->X,getElem?_drop->ϭ,getElem?_eq_getElem->ζ,getElem?_eq_none->ψ,getElem?_map->ι,getElem?_replicate->Ξ,getElem?_set->ω,getElem?_take->ε,getElem?_toArray->ν,getElem_of_mem->Ϩ,length_append->Ζ,length_cons->Φ,length_map->ρ,length_nil->Ω,length_replicate->Υ,length_set->Μ,length_take->ϴ,mapM_cons->ϻ,map_cons->Á,map_eq_nil_iff->Ϧ,mem_append_left->ϡ,mem_append_right->Ϟ,mem_map->Ä,mem_of_getElem?->Ϣ,replicate->Θ,take_length->ϳ
open List.cons renaming injEq->È
open Nat renaming add_assoc->Â,add_comm->Ã,add_mul->O,add_zero->Κ,le_mul_of_pos_right->ϙ,le_refl->δ,le_trans->ϋ,lt_or_ge->ϊ,lt_or_gt_of_ne->ϫ,lt_succ_self->ϰ,min->Ç,mod_eq_of_lt->ϲ,mul_comm->ϝ,mul_le_mul_left->ϥ,mul_le_mul_right->J,one_mul->ϸ,sub_self->Ϛ,sub_zero->Ι,zero_add->Η,zero_le->Β,zero_mul->ό
open Option renaming none->γ,some->B,getD_some->ϱ,map_eq_some_iff->ϛ,map_some->T
open Option.some renaming injEq->E
open Prod.mk renaming injEq->ϩ
open _root_ renaming Array->μ,Bool->ϟ,List->I,Nat->N,Option->Δ,UInt8->Χ,absurd->ξ,beq_iff_eq->Ϫ,decide_eq_false_iff_not->ϖ,decide_eq_true_eq->Ϯ,if_neg->ο,if_pos->θ,if_true->Ϝ
set_option linter.all false
namespace Go.Am
variable [Kn]
section
variable {P:υ} {g:Gh} {bs:I af} {w:η}
theorem Nc (a b:I Χ):(ByteArray.mk a.toArray==ByteArray.mk b.toArray)=(a==b):=by rw [beq_toListBytes,g8,g8]
theorem Nf {x:AV} (h:fY x=κ) (hx: ∀cs,x≠ .agg cs):fk x=true:=by
 cases x <;> first
  | exact h
  | exact ξ rfl (hx _)
theorem yq {g g':Gh} {w w':η} {x:AV} {u v:H} (hk:fk x=κ) (hu:Rd g w x u) (hv:Rd g' w' x v):u=v/\ ∀n,Instr.sameBits n u u=true:=by
 cases x <;> simp only [fk,Ν] at hk
 ·obtain rfl:=hu.aU;obtain rfl:=hv.aU;exact ⟨rfl,fun n=>by cases n <;> simp [Instr.sameBits]⟩
 ·obtain rfl:=hu.dL;obtain rfl:=hv.dL;exact ⟨rfl,fun n=>by cases n <;> simp [Instr.sameBits]⟩
 ·obtain rfl:=hu.cS;obtain rfl:=hv.cS;exact ⟨rfl,fun n=>by cases n <;> simp [Instr.sameBits,Nc]⟩
theorem QD {g g':Gh} {w w':η} {x:AV} {u v:H} (hk:fY x=κ) (hu:Rd g w x u) (hv:Rd g' w' x v):u=v/\ ∀n,Instr.sameBits (n+1) u u=true:=by
 cases x with
 | agg cs=>
  obtain ⟨us,rfl,hun,Œ⟩:=hu.eI;obtain ⟨vs,rfl,hvn,hv'⟩:=hv.eI;simp only [fY,ϯ] at hk
  have each: ∀(i:N) (h:i<us.size),us[i]?=vs[i]?/\ ∀n,Instr.sameBits n us[i] us[i]=true:=fun i h=>by
   have h1:i<É cs:=by omega
   have h2:i<vs.size:=by omega
   have hc:cs[i]?=B cs[i]:=ζ h1;have e:=yq (hk _ (List.getElem_mem h1)) (Œ i _ us[i] hc (by simp [h])) (hv' i _ vs[i] hc (by simp [h2]));exact ⟨by simp [h,h2,e.1],e.2⟩
  refine ⟨by
   congr 1;apply Array.ext_getElem?;intro i;by_cases h:i<us.size
   ·exact (each i h).1
   ·rw [τ (by omega),τ (by omega)],fun n=> ?_⟩
  simp only [Instr.sameBits,beq_self_eq_true,Bool.true_and,ϯ];rintro ⟨a,b⟩ ū;obtain ⟨i,hi,h⟩:=List.mem_iff_getElem.1 ū;simp only [List.getElem_zip,ϩ] at h;obtain ⟨h1,h2⟩:=h;have œ:i<us.size:=by simp at hi;exact hi
  have e:=(each i œ).2 n;simp only [Array.getElem_toList] at h1 h2;rw [<-h1,<-h2];exact e
 | _=>have hk:=Nf hk (fun _ e=>by cases e);exact ⟨(yq hk hu hv).1,fun n=>(yq hk hu hv).2 (n+1)⟩
theorem AH {a b:AV} (h:gR a b=κ):a=b:=by
 unfold gR at h;split at h
 ·simp only [L,Ϯ,Ϫ] at h;rw [h.1,h.2]
 ·simp only [Ϫ] at h;rw [h]
 ·simp only [Ϫ] at h;rw [h]
 ·cases h
theorem yr: ∀{a b:I AV},mF a b=true->a=b
 | [], [],_=>rfl
 | a::r,b::s,h=>by
  simp only [mF,L] at h;rw [AH h.1,yr h.2]
 | [],_::_,h=>by cases h
 | _::_, [],h=>by cases h
theorem ET {a b:AV} (h:sameKey a b=κ):a=b:=by
 unfold sameKey at h;split at h
 ·rw [yr h]
 ·exact AH h
theorem AI (w:η) {k:AV} {u v:H} (hk:fY k=κ) (hu:Rd g w k u) (hv:Rd g w k v):(Instr.keyThatStays u v).run P w= .ok v w:=by obtain ⟨rfl,h⟩:=QD hk hu hv;unfold Instr.keyThatStays;rw [show (10000:N)=9999+1 from rfl,h 9999];simp
theorem tG {c:aD} (hc:cb c P) {ń:V->AV->ϟ} {em:ϟ} {n:N} {cs:I AV} {vs:μ H}
  (hf: ∀t x v,ń t x=true->Rd g w x v->(Instr.checkKey em n t v).run P w= .ok () w) (hn:vs.size=É cs) (Ĵ: ∀(i:N) (c:AV) (v:H),cs[i]?=B c->vs[i]?=B v->Rd g w c v):
  ∀(fs:I Field),gD (jc c) ń cs (fs.map fun f=>(f.type,f.offset,((P.info? f.type).map (·.size)).getD 0))=true->
   (forIn fs PUnit.unit (fun f _=>do
    if f.name≠ "_" then do Instr.checkKey em n f.type (<-part f.type vs f.offset);pure (ForInStep.yield PUnit.unit)
    else pure (ForInStep.yield PUnit.unit)):Sem PUnit).run P w= .ok PUnit.unit w
 | [],_=>by simp
 | f::fs,h=>by
  simp only [Á,gD] at h;split at h
  ·rename_i a ha;simp only [L] at h;obtain ⟨u,hu,hr⟩:=iK hc hn Ĵ ha;have:=hf f.type a u h.1 hr;have ih:=tG hc hf hn Ĵ fs h.2;simp only [Ϲ,Sem.run_bind];by_cases ş:f.name= "_"
   ·rw [ο (by simp [ş])];simp only [Sem.run_pure,Result.andThen_ok];exact ih
   ·rw [θ ş];simp only [Sem.run_bind,hu,Result.andThen_ok,this,Sem.run_pure];exact ih
  ·cases h
theorem vS {c:aD} (hc:cb c P) {ń:V->AV->ϟ} {em:ϟ} {n:N} {cs:I AV} {vs:μ H} {e:V} {j:TI} {info:ϗ} (hj:G4 P e j info)
  (hf: ∀t x v,ń t x=true->Rd g w x v->(Instr.checkKey em n t v).run P w= .ok () w) (hn:vs.size=É cs) (Ĵ: ∀(i:N) (c:AV) (v:H),cs[i]?=B c->vs[i]?=B v->Rd g w c v):
  ∀(is:I N),sN (jc c) ń e j.size cs is=true->
   (forIn is PUnit.unit (fun i _=>do
    let s<-sizeOf e
    let x<-part e vs (i*s)
    Instr.checkKey em n e x
    pure (ForInStep.yield PUnit.unit)):Sem PUnit).run P w= .ok PUnit.unit w
 | [],_=>by simp
 | i::is,h=>by
  simp only [sN] at h;split at h
  ·rename_i a ha;simp only [L] at h;obtain ⟨u,hu,hr⟩:=iK hc hn Ĵ ha;have h1:=hf e a u h.1 hr;have ih:=vS hc hj hf hn Ĵ is h.2;simp only [Ϲ,Sem.run_bind,sizeOf,typeInfo,run_program,Result.andThen_ok,hj.info,Sem.run_pure,hj.size,hu,h1] at ih⊢;exact ih
  ·cases h
theorem yt {α:Type} {r:Result α} {x:α} {w:η} (h:r= .ok x w):(r.andThen fun _ w'=>(pure ():Sem Unit).run P w')= .ok () w:=by rw [h];rfl
theorem mV {c:aD} (hc:cb c P) (em:ϟ): ∀(d n:N) (t:V) (x:AV) (v:H),bU c d t x=true->Rd g w x v->(Instr.checkKey em (n+d) t v).run P w= .ok () w
 | 0,_,_,_,_,h,_=>by cases h
 | d+1,n,t,x,v,h,hx=>by
  unfold bU at h;split at h
  ·rename_i i ġ;obtain ⟨info,hi⟩:=bS (hc.ty t i ġ);rw [show n+(d+1)=(n+d)+1 from rfl,Instr.checkKey];split at h
   ·rename_i fs hdesc;have hu:P.underlying t=B (.struct fs):=hdesc▸hi.fM;split at h
    ·obtain ⟨vs,rfl,hn,Ĵ⟩:=hx.eI;simp only [Sem.run_bind,C hu,Result.andThen_ok];rw [<-Array.forIn_toList];rw [hi.fields,hdesc] at h;exact yt (tG hc (fun t x v h hx=>mV hc em d n t x v h hx) hn Ĵ fs.toList h)
    ·cases h
   ·rename_i len e hdesc;have hu:P.underlying t=B (.array len e):=hdesc▸hi.fM;split at h
    ·rename_i cs j hj;obtain ⟨ī,ę⟩:=bS (hc.ty e j hj);obtain ⟨vs,rfl,hn,Ĵ⟩:=hx.eI;simp only [Sem.run_bind,C hu,Result.andThen_ok];simp only [Std.Legacy.Range.forIn_eq_forIn_range',Std.Legacy.Range.size,Ι,Nat.add_one_sub_one,Nat.div_one];rw [List.range_eq_range'] at h;exact yt (vS hc ę (fun t x v h hx=>mV hc em d n t x v h hx) hn Ĵ _ h)
    ·cases h
   ·cases h
   ·rename_i h1 h2 h3;simp only [Sem.run_bind,C hi.fM,Result.andThen_ok];generalize i.desc=D at h1 h2 h3;split
    ·exact ξ rfl (h3 _)
    ·exact ξ rfl (h2 _ _)
    ·exact ξ rfl (h1 _)
    ·exact ξ rfl (h3 _)
    ·exact ξ rfl (h3 _)
    ·exact ξ rfl (h2 _ _)
    ·exact ξ rfl (h1 _)
    ·rfl
  ·cases h
theorem Ng {c:aD} (hc:cb c P) {kt:V} {d:ϐ} (hu:P.underlying kt=B d) {n:N} {x y:AV} {u v:H} {b:ϟ} (h:bu c n kt x y=B b) (hx:Rd g w x u) (hy:Rd g w y v):
  Instr.sameNow d u v=B b\/Instr.sameNow d u v=none:=by
 cases n with
 | zero=>cases h
 | succ n=>
  unfold bu at h;cases ht:c.ti kt with
  | none=>rw [ht] at h;cases h
  | some i=>
   obtain ⟨info,hi⟩:=bS (hc.ty kt i ht);have hd:i.desc=d:=by have:=hi.fM;rw [hu] at this;exact (Option.some.inj this).symm
   rw [ht] at h;simp only [hd] at h;split at h
   ·obtain ⟨us,rfl,_,_⟩:=hx.eI;cases d <;> exact .inr rfl
   ·cases d with
    | int k0=>
     unfold ky at h;simp only at h;split at h
     ·obtain rfl:=hx.aU;obtain rfl:=hy.aU;split at h
      ·rename_i hk;cases h;exact .inl (by simp [Instr.sameNow,hk])
      ·cases h
     ·cases h
    | string=>
     unfold ky at h;simp only at h;split at h
     ·obtain rfl:=hx.cS;obtain rfl:=hy.cS;cases h;refine .inl ?_;simp only [Instr.sameNow,E];exact Nc _ _
     ·cases h
    | bool=>
     unfold ky at h;simp only at h;split at h
     ·obtain rfl:=hx.dL;obtain rfl:=hy.dL;cases h;exact .inl (by simp [Instr.sameNow])
     ·cases h
    | _=>exact .inr (by cases u <;> rfl)
theorem AJ {c:aD} (hc:cb c P) (Ĵ:Vars g w) {kt:V} {d:ϐ} (hu:P.underlying kt=B d) {k:AV} {v:H} (hk:Rd g w k v): ∀(es:I (AV×AV×N)) (ents:I Α) (i:N) (r:Δ (N×AV×AV×N)),
  É es=É ents->(∀(j:N) (e:AV×AV×N) (m:Α),es[j]?=B e->ents[j]?=B m->Rd g w e.1 m.key)->la (bu c 20 kt) k es i=B r->
  ∃q,(Instr.findNow d v ents i=B q\/Instr.findNow d v ents i=γ)/\(Instr.findAsking kt v ents i).run P w= .ok q w/\
   match r with
   | none=>q=γ
   | some (j,e)=> ∃n m,j=i+n/\es[n]?=B e/\ents[n]?=B m/\q=B (j,m.val)
 | [], [],i,r,_,_,h=>by
  cases h;exact ⟨γ,.inl rfl,by simp [Instr.findAsking],rfl⟩
 | [],_::_,_,_,h,_,_=>by simp at h
 | _::_, [],_,_,h,_,_=>by simp at h
 | e::es,m::ents,i,r,hl,hr,h=>by
  have h0:=hr 0 e m rfl rfl;simp only [la] at h;cases he:bu c 20 kt k e.1 with
  | none=>rw [he] at h;cases h
  | some b=>
   rw [he] at h
   have Ā:(Op.equal kt v m.key).run P w= .ok b w:=by have:=mM hc Ĵ 20 9980 kt k e.1 v m.key b he hk h0;exact this
   have Ģ:=Ng hc hu he hk h0;cases b with
   | true=>
    cases h;refine ⟨B (i,m.val),?_,by simp [Instr.findAsking,Ā],0,m,rfl,rfl,rfl,rfl⟩;rcases Ģ with Ģ | Ģ
    ·exact .inl (by simp [Instr.findNow,Ģ])
    ·exact .inr (by simp [Instr.findNow,Ģ])
   | false=>
    obtain ⟨q,q1,q2,q3⟩:=AJ hc Ĵ hu hk es ents (i+1) r (by simpa using hl) (fun j e' m' h1 h2=>hr (j+1) e' m' (by simpa using h1) (by simpa using h2)) h;refine ⟨q,?_,by simp [Instr.findAsking,Ā,q2],?_⟩
    ·rcases Ģ with Ģ | Ģ
     ·simp only [Instr.findNow,Ģ];exact q1
     ·exact .inr (by simp [Instr.findNow,Ģ])
    ·cases r with
     | none=>exact q3
     | some p=>obtain ⟨j,e'⟩:=p;obtain ⟨n,m',h1,h2,h3,h4⟩:=q3;exact ⟨n+1,m',by omega,by simpa using h2,by simpa using h3,h4⟩
theorem yu {c:aD} (hc:cb c P) (Ĵ:Vars g w) {kt:V} {d:ϐ} (hu:P.underlying kt=B d) {k:AV} {v:H} (hk:Rd g w k v) {es:I (AV×AV×N)} {ents:I Α} {r:Δ (N×AV×AV×N)}
  (hl:É es=É ents) (hr: ∀(j:N) (e:AV×AV×N) (m:Α),es[j]?=B e->ents[j]?=B m->Rd g w e.1 m.key) (h:la (bu c 20 kt) k es 0=B r):
  ∃q,(Instr.findKey kt v ents).run P w= .ok q w/\
   match r with
   | none=>q=γ
   | some (j,e)=> ∃m,es[j]?=B e/\ents[j]?=B m/\q=B (j,m.val):=by
 obtain ⟨q,q1,q2,q3⟩:=AJ hc Ĵ hu hk es ents 0 r hl hr h;refine ⟨q,?_,?_⟩
 ·unfold Instr.findKey;rcases q1 with q1 | q1
  ·simp [C hu,q1]
  ·simp [C hu,q1,q2]
 ·cases r with
  | none=>exact q3
  | some p=>
   obtain ⟨n,m,h1,h2,h3,h4⟩:=q3;obtain rfl:p.1=n:=by simpa using h1
   exact ⟨m,h2,h3,h4⟩
theorem C2 (v:H):(kv v).cells= [kv v]:=by unfold kv;split <;> rfl
theorem AK {c:aD} (hc:cb c P) {t:V} {i:TI} (ġ:c.ti t=B i) {z:AV} (hz:kr i=B z): ∃v,(zeroValue t).run P w= .ok v w/\Rd g w z v:=by
 obtain ⟨info,hi⟩:=bS (hc.ty t i ġ);unfold kr at hz;split at hz
 ·rename_i cs đ;have Ę:=hi.zero;rw [đ] at Ę;cases hv:info.zero with
  | none=>rw [hv] at Ę;cases Ę
  | some v=>
   rw [hv] at Ę;simp only [T,E] at Ę;subst Ę;have hok:=hi.zok;rw [hv] at hok;refine ⟨v,by simp [zeroValue,typeInfo,hi.info,hv],?_⟩;have hr:=rd_val g w v;split at hz
   ·rename_i hag;rw [hag] at hok;cases v <;> simp only [P6,Bool.not_true,Ν] at hok;cases hz;exact hr
   ·rename_i hag;rw [hag] at hok;split at hz
    ·rename_i x hx;cases hz;have hv2:gH v=kv v:=by cases v <;> first | rfl | (simp only [P6,Ν] at hok)
     rw [hv2,C2] at hx;cases hx;rw [<-hv2];exact hr
    ·cases hz
 ·cases hz
theorem Rd.Nh {v:H} (h:Rd g w .iv v):v= .map none:=by cases h;rfl
theorem Ni {x:AV} (h:x.plain=κ):gE x=true:=by
 unfold gE;split
 ·rfl
 ·rfl
 ·exact h
theorem Rd.tH {k:N} {v:H} (h:Rd g w (.cg k) v): ∃b,g.e k= .mp b/\v= .map (B b):=by cases h;exact ⟨_,‹_›,rfl⟩
theorem yv {t kt el:V} {u v z:H} {ok b:ϟ} {ents:μ Α} {q:Δ (N×H)} (hu:P.underlying t=B (.map kt el)) (h1:(u= .map γ/\ents= #[])\/ ∃b clock,u= .map (B b)/\w.heap[b]?=B (.map ents clock))
  (ĵ:(Instr.checkKey ents.isEmpty 10000 kt v).run P w= .ok () w) (hq:(Instr.findKey kt v ents.toList).run P w= .ok q w) (hz:(∃j,q=B (j,z)/\b=κ)\/(q=γ/\b=φ/\(zeroValue el).run P w= .ok z w)):
  (Instr.lookup t u v ok).run P w= .ok (if ok=κ then .tuple #[z,.bool b] else z) w:=by
 rcases h1 with ⟨rfl,rfl⟩ | ⟨r,clock,rfl,hh⟩
 ·rw [show (#[]:μ Α).isEmpty=κ from rfl] at ĵ;rcases hz with ⟨j,rfl,rfl⟩ | ⟨rfl,rfl,hz⟩
  ·simp only [Instr.lookup,Sem.run_bind,C hu,Result.andThen_ok,Sem.run_pure,show (#[]:μ Α).isEmpty=κ from rfl,ĵ,hq]
  ·simp only [Instr.lookup,Sem.run_bind,C hu,Result.andThen_ok,Sem.run_pure,show (#[]:μ Α).isEmpty=κ from rfl,ĵ,hq,hz]
 ·rcases hz with ⟨j,rfl,rfl⟩ | ⟨rfl,rfl,hz⟩
  ·simp only [Instr.lookup,Sem.run_bind,C hu,Result.andThen_ok,Sem.run_pure,MapKept.run_getObj_map hh,ĵ,hq]
  ·simp only [Instr.lookup,Sem.run_bind,C hu,Result.andThen_ok,Sem.run_pure,MapKept.run_getObj_map hh,ĵ,hq,hz]
theorem C3 {c:aD} (hc:cb c P) (hm:Mem g bs w) {t:V} {x k r:AV} {u v:H} {ok:ϟ} {e:dy} (hx:Rd g w x u) (hk:Rd g w k v) (h:cv c (c.ti t) x k ok bs=B (r,e)):
  e= .none/\di ((do pure (Next.value (<-Instr.lookup t u v ok)):Sem Λ).run P w) g w bs r:=by
 unfold cv at h;split at h
 ·rename_i i ġ;obtain ⟨info,hi⟩:=bS (hc.ty t i ġ);split at h
  ·rename_i kt el hdesc;have hu:P.underlying t=B (.map kt el):=hdesc▸hi.fM;split at h
   ·rename_i es ř;split at h
    ·rename_i ē
     have hent: ∃ents:μ Α,((u= .map γ/\ents= #[])\/ ∃b clock,u= .map (B b)/\w.heap[b]?=B (.map ents clock))/\ents.size=É es/\
       ∀(i:N) (e:AV×AV×N) (m:Α),es[i]?=B e->ents[i]?=B m->Rd g w e.1 m.key/\Rd g w e.2.1 m.val:=by
      unfold dJ at ř;split at ř
      ·cases ř;exact ⟨#[],.inl ⟨hx.Nh,rfl⟩,rfl,fun i e m h=>by simp at h⟩
      ·split at ř
       ·rename_i b ċ clock hb;cases ř;obtain ⟨b',hg,Œ⟩:=hx.tH;obtain ⟨b2,ĺ,ents,hh,hn,ď⟩:=hm.mp _ _ _ hb;rw [hg] at ĺ;cases ĺ;exact ⟨ents,.inr ⟨_,_,Œ,hh⟩,hn,fun i e m h1 h2=>⟨(ď i e m h1 h2).1.2,(ď i e m h1 h2).2.1.2⟩⟩
       ·cases ř
      ·cases ř
     obtain ⟨ents,he1,Ė,he3⟩:=hent;have ĵ:=mV hc ents.isEmpty 8 9992 kt k v ē hk
     have hkt: ∃d,P.underlying kt=B d:=by
      unfold bU at ē;split at ē
      ·rename_i j hj;obtain ⟨_,ę⟩:=bS (hc.ty kt j hj);exact ⟨_,ę.fM⟩
      ·cases ē
     obtain ⟨d,hd⟩:=hkt;cases hf:la (bu c 20 kt) k es 0 with
     | none=>rw [hf] at h;cases h
     | some res=>
      rw [hf] at h;obtain ⟨q,hq,Ņ⟩:=yu hc hm.vars hd hk (ents:=ents.toList) (by simpa using Ė.symm) (fun j e m h1 h2=>(he3 j e m h1 (by simpa using h2)).1) hf
      have Ē: ∀z b,(Instr.lookup t u v ok).run P w= .ok (if ok=κ then .tuple #[z,.bool b] else z) w->Rd g w r (if ok=κ then .tuple #[z,.bool b] else z)->di ((do pure (Next.value (<-Instr.lookup t u v ok)):Sem Λ).run P w) g w bs r:=
       fun z b hz hrr=> .pure (aZ P w _ _ _ hz) hm hrr
      cases res with
      | none=>
       subst Ņ;simp only at h;split at h
       ·rename_i j hj;cases hz:kr j with
        | none=>rw [hz] at h;cases h
        | some z=>
         rw [hz] at h;simp only [T,E,ϩ] at h;obtain ⟨rfl,rfl⟩:=h;obtain ⟨zv,hz1,hz2⟩:=AK (g:=g) (w:=w) hc hj hz;refine ⟨rfl,Ē zv φ (yv hu he1 ĵ hq (.inr ⟨rfl,rfl,hz1⟩)) ?_⟩;cases ok with
         | true=>exact .aK _ _ rfl (fun i x v h1 h2=>by
           rcases i with _ | _ | i
           ·simp at h1 h2;rw [<-h1,<-h2];exact hz2
           ·simp at h1 h2;rw [<-h1,<-h2];exact .bool _
           ·simp at h1)
         | false=>exact hz2
       ·cases h
      | some p=>
       obtain ⟨j,e'⟩:=p;obtain ⟨m,h1,h2,rfl⟩:=Ņ;simp only [E,ϩ] at h;obtain ⟨rfl,rfl⟩:=h;have ĝ:=(he3 j e' m h1 (by simpa using h2)).2;refine ⟨rfl,Ē m.val κ (yv hu he1 ĵ hq (.inl ⟨_,rfl,rfl⟩)) ?_⟩;cases ok with
       | true=>exact .aK _ _ rfl (fun i x v h1 h2=>by
         rcases i with _ | _ | i
         ·simp at h1 h2;rw [<-h1,<-h2];exact ĝ
         ·simp at h1 h2;rw [<-h1,<-h2];exact .bool _
         ·simp at h1)
       | false=>exact ĝ
    ·cases h
   ·cases h
  ·cases h
 ·cases h
def yl:Obj->ϟ
 | .cells _ _ _=>κ
 | _=>φ
theorem tz {w:η} {D:N} {x y:Obj} (h:w.heap[D]?=B x) (hx:yl x=φ) (hy:yl y=φ) (b o:N):(w.putObj D y).cell? ⟨b,o,γ⟩=w.cell? ⟨b,o,γ⟩:=by
 by_cases e:b=D
 ·subst e;simp only [World.cell?,h,World.putObj_heap_same (bV h)];cases x <;> cases y <;> simp [yl] at hx hy <;> rfl
 ·simp only [World.cell?,World.putObj_heap_other e]
theorem tI (hm:Mem g bs w) {k b:N} {es ċ:I (AV×AV×N)} {clock ć:N} {ents ents':μ Α} (hb:af.at bs k= .mp es clock) (hg:g.e k= .mp b) (hh:w.heap[b]?=B (.map ents clock))
  (hn:ents'.size=ċ.length) (ď: ∀(i:N) (e:AV×AV×N) (m:Α),ċ[i]?=B e->ents'[i]?=B m->(fY e.1=κ/\Rd g w e.1 m.key)/\(gE e.2.1=κ/\Rd g w e.2.1 m.val)/\m.born=e.2.2/\m.born<ć)
  {r:Result Λ} {nx:Λ} {v:H} {d:AV} (hr:r= .ok nx (w.putObj b (.map ents' ć))) (hnx:nx= .value v\/(nx= .skip/\v=undef)) (hd:Rd g w d v):di r g w (bs.set k (.mp ċ ć)) d:=by
 have hlt:=bV hh;have hk:k<É bs:=fA (by rw [hb];simp);have ą: ∀b2 o,g.S b2 o->(w.putObj b (.map ents' ć)).cell? ⟨b2,o,γ⟩=w.cell? ⟨b2,o,γ⟩:=fun b2 o _=>tz hh rfl rfl b2 o
 have hle:Le g w (g.eQ k (.mp b) g.S) (w.putObj b (.map ents' ć)):=⟨fun _ _ h=>h,ą,fun j=>by
  by_cases e:k=j
  ·subst e;rw [Gh.bo,hg];exact .same _
  ·rw [Gh.bj _ _ _ e];exact .same _⟩
 obtain ⟨m',l',f'⟩:=hm.upd (id:=k) (x:= .mp ċ ć) (ge:= .mp b) (S':=g.S) (w':=w.putObj b (.map ents' ć)) hk (fun _ _ h=>h) ą (by rw [hg];exact .same _)
  (fun b2 _ hne=>World.putObj_heap_other (fun e=>hne (by rw [hg,e];rfl))) (by simp) (fun b2 ė=> .inl (by rw [hg];exact ė)) (by simp) (fun _ _ h=>by cases h) (fun _ _ _ h=>by cases h) (fun _ _ h=> .inl h)
  (fun b2 o hs ė=>by
   obtain ⟨ty,sz,es,h3,_⟩:=(hm.dh b2 o hs).2 k (by rw [hg];exact ė);rw [hb] at h3;cases h3) rfl rfl rfl (fun _ h=>by cases h)
  (fun es2 clock2 h=>by
   cases h;exact ⟨b,rfl,ents',World.putObj_heap_same hlt,hn,fun i e m h1 h2=>let ⟨⟨k1,k2⟩,⟨k3,k4⟩,k5⟩:=ď i e m h1 h2;⟨⟨k1,k2.mono hle⟩,⟨k3,k4.mono hle⟩,k5⟩⟩)
 exact ⟨nx,v,_,_,hr,hnx,m',l',f',hd.mono hle⟩
theorem fD {b:N} {ents:μ Α} {clock:N} (o:Obj) (h:w.heap[b]?=B (.map ents clock)):(setObj b o).run P w= .ok () (w.putObj b o):=MapKept.run_setObj_map o h
theorem EU {c:aD} (hc:cb c P) {kt:V} {k:AV} (h:bU c 8 kt k=κ): ∃d,P.underlying kt=B d:=by
 unfold bU at h;split at h
 ·rename_i j hj;obtain ⟨_,ę⟩:=bS (hc.ty kt j hj);exact ⟨_,ę.fM⟩
 ·cases h
theorem uU {α:Type} {l:μ α} {i j:N} {f:α->α} {m:α} (h:(l.modify i f)[j]?=B m): ∃m0,l[j]?=B m0/\m=if i=j then f m0 else m0:=by
 rw [Τ] at h;split at h
 ·rename_i e;cases hl:l[j]? with
  | none=>rw [hl] at h;cases h
  | some m0=>rw [hl] at h;cases h;exact ⟨m0,rfl,by rw [θ e]⟩
 ·rename_i e;exact ⟨m,h,by rw [ο e]⟩
theorem oE {c:aD} (hc:cb c P) (hm:Mem g bs w) {t:V} {m k x r:AV} {u v z:H} {id:N} {e:dy} (hu:Rd g w m u) (hk:Rd g w k v) (hx:Rd g w x z) (h:aH c (c.ti t) m k x bs=B (r,e)) {bs':I af} (he:e.on bs id=B bs'):
  di ((do Instr.mapUpdate t u v z;pure Next.skip:Sem Λ).run P w) g w bs' r:=by
 unfold aH at h;split at h
 ·rename_i i ġ;obtain ⟨info,hi⟩:=bS (hc.ty t i ġ);split at h
  ·rename_i kt el hdesc;have Ŭ:P.underlying t=B (.map kt el):=hdesc▸hi.fM;split at h
   ·rename_i b;split at h
    ·rename_i es clock hb;split at h
     ·rename_i hok;simp only [L] at hok;obtain ⟨⟨ē,Ļ⟩,ņ⟩:=hok;obtain ⟨b',hg,rfl⟩:=hu.tH;obtain ⟨b2,ĺ,ents,hh,hn,ď⟩:=hm.mp _ _ _ hb;rw [hg] at ĺ;cases ĺ;have ĵ:=mV hc φ 8 9992 kt k v ē hk;obtain ⟨d,hd⟩:=EU hc ē;cases hf:la (bu c 20 kt) k es 0 with
      | none=>rw [hf] at h;cases h
      | some res=>
       rw [hf] at h;obtain ⟨q,hq,Ņ⟩:=yu hc hm.vars hd hk (ents:=ents.toList) (by simpa using hn.symm) (fun j e m h1 h2=>(ď j e m h1 (by simpa using h2)).1.2) hf;cases res with
       | none=>
        subst Ņ;cases h;cases he;refine tI hm hb hg hh (ents':=ents.push {key:=v,val:=z,born:=clock}) (by simp [hn]) (fun i e m h1 h2=> ?_) (nx:= .skip) (v:=undef) ?_ (.inr ⟨rfl,rfl⟩) (.aK _ _ rfl (fun i c v h=>by simp at h))
        ·rw [Ϥ] at h2;by_cases œ:i=ents.size
         ·rw [θ œ] at h2;cases h2;rw [œ,hn,U (δ _)] at h1;simp only [Ϛ,X,E] at h1;subst h1;exact ⟨⟨Ļ,hk⟩,⟨ņ,hx⟩,rfl,ϰ _⟩
         ·rw [ο œ] at h2
          have hlt:i<ents.size:=by
           rcases ϊ i ents.size with h' | h'
           ·exact h'
           ·rw [τ h'] at h2;cases h2
          rw [Z (by omega)] at h1;obtain ⟨a1,a2,a3,a4⟩:=ď i e m h1 h2;exact ⟨a1,a2,a3,by omega⟩
        ·simp only [Instr.mapUpdate,Sem.run_bind,C Ŭ,Result.andThen_ok,MapKept.run_getObj_map hh,ĵ,hq,fD _ hh,Sem.run_pure]
       | some p=>
        obtain ⟨j,e'⟩:=p;obtain ⟨m,h1,h2,rfl⟩:=Ņ;simp only at h;split at h
        ·rename_i Ğ;cases h;cases he;have Ś:ents[j]?=B m:=by simpa using h2
         have hke:=ET Ğ;obtain ⟨a1,a2,a3,a4⟩:=ď j e' m h1 Ś;have hst:=AI (P:=P) w Ļ (hke▸a1.2) hk;refine tI hm hb hg hh (ents':=ents.modify j fun e=>{e with key:=v,val:=z}) (by simp [hn]) (fun i e m' g1 g2=> ?_) (nx:= .skip) (v:=undef) ?_ (.inr ⟨rfl,rfl⟩) (.aK _ _ rfl (fun i c v h=>by simp at h))
         ·obtain ⟨m0,k1,rfl⟩:=uU g2;rw [ω] at g1;by_cases Š:j=i
          ·subst Š;rw [θ rfl] at g1⊢;split at g1
           ·cases g1;rw [Ś] at k1;cases k1;exact ⟨⟨Ļ,hk⟩,⟨ņ,hx⟩,a3,a4⟩
           ·cases g1
          ·rw [ο Š] at g1⊢;exact ď i e m0 g1 k1
         ·simp only [Instr.mapUpdate,Sem.run_bind,C Ŭ,Result.andThen_ok,MapKept.run_getObj_map hh,ĵ,hq,Ś,T,ϱ,hst,fD _ hh,Sem.run_pure]
        ·cases h
     ·cases h
    ·cases h
   ·cases h
  ·cases h
 ·cases h
theorem yw {c:aD} (hc:cb c P) (hm:Mem g bs w) {t:V} {m k r:AV} {u v:H} {id:N} {e:dy} (hu:Rd g w m u) (hk:Rd g w k v) (h:j4 c (c.ti t) m k bs=B (r,e)) {bs':I af} (he:e.on bs id=B bs'):
  di ((do pure (Next.value (<-Instr.mapEntry t u v)):Sem Λ).run P w) g w bs' r:=by
 have two: ∀{x:AV} {z:H} {n:N},Rd g w x z->Rd g w (.aK [x,.int .i64 n]) (.tuple #[z,goInt n]):=fun hz=> .aK _ _ rfl (fun i x v h1 h2=>by
  rcases i with _ | _ | i
  ·simp at h1 h2;rw [<-h1,<-h2];exact hz
  ·simp at h1 h2;rw [<-h1,<-h2];exact .int _ _
  ·simp at h1)
 unfold j4 at h;split at h
 ·rename_i i ġ;obtain ⟨info,hi⟩:=bS (hc.ty t i ġ);split at h
  ·rename_i kt el hdesc;have Ŭ:P.underlying t=B (.map kt el):=hdesc▸hi.fM;split at h
   ·rename_i b;split at h
    ·rename_i es clock hb;split at h
     ·rename_i hok;simp only [L] at hok;obtain ⟨ē,Ļ⟩:=hok;obtain ⟨b',hg,rfl⟩:=hu.tH;obtain ⟨b2,ĺ,ents,hh,hn,ď⟩:=hm.mp _ _ _ hb;rw [hg] at ĺ;cases ĺ;have ĵ:=mV hc φ 8 9992 kt k v ē hk;obtain ⟨d,hd⟩:=EU hc ē;cases hf:la (bu c 20 kt) k es 0 with
      | none=>rw [hf] at h;cases h
      | some res=>
       rw [hf] at h;obtain ⟨q,hq,Ņ⟩:=yu hc hm.vars hd hk (ents:=ents.toList) (by simpa using hn.symm) (fun j e m h1 h2=>(ď j e m h1 (by simpa using h2)).1.2) hf;cases res with
       | none=>
        subst Ņ;simp only at h;split at h
        ·rename_i j hj;split at h
         ·rename_i z hz;split at h
          ·rename_i ņ;cases h;cases he;obtain ⟨zv,hz1,hz2⟩:=AK (g:=g) (w:=w) hc hj hz;refine tI hm hb hg hh (ents':=ents.push {key:=v,val:=zv,born:=clock}) (by simp [hn]) (fun i e m h1 h2=> ?_) ?_ (.inl rfl) (two hz2)
           ·rw [Ϥ] at h2;by_cases œ:i=ents.size
            ·rw [θ œ] at h2;cases h2;rw [œ,hn,U (δ _)] at h1;simp only [Ϛ,X,E] at h1;subst h1;exact ⟨⟨Ļ,hk⟩,⟨Ni ņ,hz2⟩,rfl,ϰ _⟩
            ·rw [ο œ] at h2
             have hlt:i<ents.size:=by
              rcases ϊ i ents.size with h' | h'
              ·exact h'
              ·rw [τ h'] at h2;cases h2
             rw [Z (by omega)] at h1;obtain ⟨a1,a2,a3,a4⟩:=ď i e m h1 h2;exact ⟨a1,a2,a3,by omega⟩
           ·simp only [Instr.mapEntry,Sem.run_bind,C Ŭ,Result.andThen_ok,MapKept.run_getObj_map hh,ĵ,hq,hz1,fD _ hh,Sem.run_pure]
          ·cases h
         ·cases h
        ·cases h
       | some p=>
        obtain ⟨j,e'⟩:=p;obtain ⟨m,h1,h2,rfl⟩:=Ņ;simp only at h;split at h
        ·rename_i Ğ;cases h;cases he;have Ś:ents[j]?=B m:=by simpa using h2
         have hke:=ET Ğ;obtain ⟨a1,a2,a3,a4⟩:=ď j e' m h1 Ś;have hst:=AI (P:=P) w Ļ (hke▸a1.2) hk;refine tI hm hb hg hh (ents':=ents.modify j fun e=>{e with key:=v}) (by simp [hn]) (fun i e m' g1 g2=> ?_) (v:= .tuple #[m.val,goInt e'.2.2]) ?_ (.inl rfl) (two a2.2)
         ·obtain ⟨m0,k1,rfl⟩:=uU g2;obtain ⟨b1,b2,b3,b4⟩:=ď i e m0 g1 k1;by_cases Š:j=i
          ·subst Š;rw [θ rfl];rw [h1] at g1;cases g1;exact ⟨⟨b1.1,hke▸hk⟩,b2,b3,b4⟩
          ·rw [ο Š];exact ⟨b1,b2,b3,b4⟩
         ·simp only [Instr.mapEntry,Sem.run_bind,C Ŭ,Result.andThen_ok,MapKept.run_getObj_map hh,ĵ,hq,Ś,T,ϱ,hst,fD _ hh,Sem.run_pure,a3]
        ·cases h
     ·cases h
    ·cases h
   ·cases h
  ·cases h
 ·cases h
theorem yx {n:Int}: ∀(es:I (AV×AV×N)) (ents:I Α) (i:N) (p:N×AV×AV×N),É es=É ents->(∀(j:N) (e:AV×AV×N) (m:Α),es[j]?=B e->ents[j]?=B m->m.born=e.2.2)->vz n es i=B p->
  ∃k,p.1=i+k/\es[k]?=B p.2/\ents.findIdx? (fun e=>(e.born:Int)==n)=B k
 | [],_,_,_,_,_,h=>by cases h
 | _::_, [],_,_,h,_,_=>by simp at h
 | e::es,m::ents,i,p,hl,hr,h=>by
  have h0:=hr 0 e m rfl rfl;simp only [vz] at h;split at h
  ·rename_i heq;cases h;exact ⟨0,rfl,rfl,by simp [Ϗ,h0,heq]⟩
  ·rename_i hne;obtain ⟨k,k1,k2,k3⟩:=yx es ents (i+1) p (by simpa using hl) (fun j e' m' h1 h2=>hr (j+1) e' m' (by simpa using h1) (by simpa using h2)) h;refine ⟨k+1,by omega,by simpa using k2,?_⟩;have:((m.born:Int)==n)=false:=by rw [h0];simpa using hne
   simp [Ϗ,this,k3]
theorem tJ {α:Type} (p:α->ϟ): ∀(l:I α) (k:N) (x:α),l.findIdx? p=B k->l[k]?=B x->l.find? p=B x
 | [],k,x,h,_=>by simp at h
 | a::r,k,x,h,hx=>by
  rw [Ϗ] at h;rw [List.find?_cons];cases ha:p a with
  | true=>rw [ha] at h;simp only [Ϝ,E] at h;subst h;simp only [X] at hx;exact hx
  | false=>rw [ha] at h;simp only [Ν,if_false,ϛ] at h;obtain ⟨j,hj,rfl⟩:=h;simp only;exact tJ p r j x hj (by simpa using hx)
theorem EV (hm:Mem g bs w) {x r:AV} {u:H} {e:dy} (hx:Rd g w x u) (h:oV x bs=B (r,e)):
  e= .none/\di ((do pure (Next.value (<-Instr.entry u)):Sem Λ).run P w) g w bs r:=by
 unfold oV at h;split at h
 ·rename_i k;split at h
  ·rename_i m seen clock hk;split at h
   ·rename_i n es ć š hmp;split at h
    ·rename_i ŭ;subst ŭ;split at h
     ·rename_i j e' Ě;cases h;refine ⟨rfl,?_⟩;cases hx with
      | lU _ b hg=>
       obtain ⟨b',Ň,hr⟩:=hm.it k _ hk;rw [hg] at Ň;cases Ň;obtain ⟨hmk,bm,hgm,hh⟩:=hr;obtain ⟨bm',ň,ents,hhm,Č,ś⟩:=hm.mp m es _ hmp;rw [hgm] at ň;cases ň;obtain ⟨q,k1,k2,k3⟩:=yx (n:=(n:Int)) es ents.toList 0 _ (by simpa using Č.symm) (fun j e m h1 h2=>(ś j e m h1 (by simpa using h2)).2.2.1) Ě;have hq:=al k2;have Ņ:q<ents.size:=by omega
       have Ŋ:ents.toList[q]?=B ents[q]:=by simp [Ņ]
       have hfind:=tJ _ ents.toList q _ k3 Ŋ
       have Ů:ents.find? (fun e=>e.born==n)=B ents[q]:=by
        have h9:ents.toList.find? (fun e=>e.born==n)=ents.find? (fun e=>e.born==n):=by cases ents with | mk l=>simp only [List.find?_toArray]
        rw [<-h9,<-hfind];congr 1;funext e;rw [Bool.eq_iff_iff];simp only [Ϫ];omega
       obtain ⟨r1,r2,_⟩:=ś q e' ents[q] k2 (ϑ Ņ)
       have hback:seen.toArray.back?=B n:=by rw [Array.back?_eq_getElem?];rw [List.getLast?_eq_getElem?] at š;simpa using š
       have Ā:(Instr.entry (.pointer (B ⟨b,0,γ⟩))).run P w= .ok (.tuple #[ents[q].key,ents[q].val]) w:=by
        have g1:(getObj b).run P w= .ok (.mapIter (B bm) ć seen.toArray ć) w:=by simp [getObj,Sem.run,hh]
        have g2:(getObj bm).run P w= .ok (.map ents ć) w:=MapKept.run_getObj_map hhm;simp [Instr.entry,g1,g2,hback,Ů]
       refine .pure (aZ P w _ _ _ Ā) hm (.aK _ _ rfl (fun i c v hc hv=> ?_))
       match i,hc,hv with
       | 0,hc,hv=>cases hc;cases hv;exact r1.2
       | 1,hc,hv=>cases hc;cases hv;exact r2.2
     ·cases h
    ·cases h
   ·cases h
  ·cases h
 ·cases h
theorem uV (hm:Mem g bs w) {t:V} {m s x r:AV} {u v z:H} {id:N} {e:dy} (hu:Rd g w m u) (hk:Rd g w s v) (hx:Rd g w x z) (h:gI m s x bs=B (r,e)) {bs':I af} (he:e.on bs id=B bs'):
  di ((do Instr.entryStore t u v z;pure Next.skip:Sem Λ).run P w) g w bs' r:=by
 unfold gI at h;split at h
 ·rename_i b kk n;split at h
  ·rename_i es clock hb;split at h
   ·rename_i ņ;split at h
    ·rename_i j e' Ě;cases h;cases he;obtain rfl:=hk.aU;obtain ⟨b',hg,rfl⟩:=hu.tH;obtain ⟨b2,ĺ,ents,hh,hn,ď⟩:=hm.mp _ _ _ hb;rw [hg] at ĺ;cases ĺ;obtain ⟨k,k1,k2,k3⟩:=yx es ents.toList 0 _ (by simpa using hn.symm) (fun j e m h1 h2=>(ď j e m h1 (by simpa using h2)).2.2.1) Ě;obtain rfl:j=k:=by simpa using k1
     have k3':ents.findIdx? (fun e=>(e.born:Int)==n)=B j:=by
      have h9:ents.toList.findIdx? (fun e=>(e.born:Int)==n)=ents.findIdx? (fun e=>(e.born:Int)==n):=by cases ents with | mk l=>simp only [List.findIdx?_toArray]
      rw [<-h9];exact k3
     refine tI hm hb hg hh (ents':=ents.modify j fun e=>{e with val:=z}) (by rw [Array.size_modify,Μ];exact hn) (fun i e m' g1 g2=> ?_) (nx:= .skip) (v:=undef) ?_ (.inr ⟨rfl,rfl⟩) (.aK _ _ rfl (fun i c v h=>by simp at h))
     ·obtain ⟨m0,q1,rfl⟩:=uU g2;rw [ω] at g1;by_cases Š:j=i
      ·subst Š;rw [θ rfl] at g1⊢;split at g1
       ·cases g1;obtain ⟨a1,a2,a3,a4⟩:=ď j _ m0 k2 q1;exact ⟨a1,⟨ņ,hx⟩,a3,a4⟩
       ·cases g1
      ·rw [ο Š] at g1⊢;exact ď i e m0 g1 q1
     ·simp only [Instr.entryStore,Sem.run_bind,Result.andThen_ok,MapKept.run_getObj_map hh,asInt,asIntOf,Sem.run_pure,k3',fD _ hh]
    ·cases h
   ·cases h
  ·cases h
 ·cases h
theorem zR {c:aD} (hc:cb c P) (hm:Mem g bs w) {t:V} {o:Δ AV} {ov:Δ H} {r:AV} {id:N} {e:dy} (ho: ∀x,o=B x-> ∃v,ov=B v/\Rd g w x v) (ğ:o=none->ov=γ) (h:gW o (c.ti t) id=B (r,e)) {bs':I af} (he:e.on bs id=B bs'):
  di ((do pure (Next.value (<-Instr.makeMap t ov)):Sem Λ).run P w) g w bs' r:=by
 unfold gW at h;split at h
 ·rename_i i ġ;obtain ⟨info,hi⟩:=bS (hc.ty t i ġ);split at h
  ·rename_i kt el hdesc;have Ŭ:P.underlying t=B (.map kt el):=hdesc▸hi.fM
   have Ā:r= .cg id/\e= .new (.mp [] 0)/\(Instr.makeMap t ov).run P w= .ok (.map (B w.heap.size)) (w.alloc (.map #[] 0)):=by
    split at h
    ·cases h;rw [ğ rfl];exact ⟨rfl,rfl,by simp [Instr.makeMap]⟩
    ·cases h;obtain ⟨v,rfl,hv⟩:=ho _ rfl;obtain rfl:=hv.aU;exact ⟨rfl,rfl,by simp [Instr.makeMap,C Ŭ,asInt,asIntOf]⟩
    ·cases h
   obtain ⟨rfl,rfl,Ā⟩:=Ā;simp only [dy.on] at he;split at he
   ·rename_i hd;cases he;have hid:=al hd;have ů:af.at bs id= .dead:=by simp [af.at,M,hd]
    have Ą: ∀b,b<w.heap.size->(w.alloc (.map #[] 0)).heap[b]?=w.heap[b]?:=fun b hb=>cJ w _ hb;have Č:w.heap.size<=(w.alloc (.map #[] 0)).heap.size:=by simp
    have Ă: ∀b,(GE.mp w.heap.size).bM=B b->w.heap.size<=b:=fun b hb=>by simp [GE.bM] at hb;omega
    obtain ⟨m',l'⟩:=hm.new (x:= .mp [] 0) (ge:= .mp w.heap.size) hid ů Ą Č Ă (by simp) (fun _ _ h=>by cases h) (fun _ _ _ h=>by cases h) (fun _ h=>by cases h)
     (fun es clock h=>by cases h;exact ⟨_,rfl, #[],dH w _,rfl,fun i e m h=>by simp at h⟩)
    exact ⟨_,_,_,_,aZ P w _ _ _ Ā,.inl rfl,m',l',Fr.new Č Ą Ă rfl rfl rfl,.cg id _ (Gh.cy _ _ _)⟩
   ·cases he
  ·cases h
 ·cases h
theorem EW {c:aD} (hc:cb c P) (hm:Mem g bs w) {t:V} {x r:AV} {u:H} {id:N} {e:dy} (hx:Rd g w x u) (h:nD (c.ti t) x bs id=B (r,e)) {bs':I af} (he:e.on bs id=B bs'):
  di ((do pure (Next.value (<-Instr.range t u)):Sem Λ).run P w) g w bs' r:=by
 unfold nD at h;split at h
 ·rename_i i ġ;obtain ⟨info,hi⟩:=bS (hc.ty t i ġ);split at h
  ·rename_i s hdesc;cases h;obtain rfl:=hx.cS
   have Ā:(Instr.range t (.string ⟨s.toArray⟩)).run P w= .ok (.pointer (B ⟨w.heap.size,0,γ⟩)) (w.alloc (.stringIter ⟨s.toArray⟩ 0)):=by simp [Instr.range,C (hdesc▸hi.fM)]
   simp only [dy.on] at he;split at he
   ·rename_i hd;cases he;have hid:=al hd;have ů:af.at bs id= .dead:=by simp [af.at,M,hd]
    have Ą: ∀b,b<w.heap.size->(w.alloc (.stringIter ⟨s.toArray⟩ 0)).heap[b]?=w.heap[b]?:=fun b hb=>cJ w _ hb;have Č:w.heap.size<=(w.alloc (.stringIter ⟨s.toArray⟩ 0)).heap.size:=by simp
    have Ă: ∀b,(GE.mp w.heap.size).bM=B b->w.heap.size<=b:=fun b hb=>by simp [GE.bM] at hb;omega
    obtain ⟨m',l'⟩:=hm.new (x:= .iter (.str s 0)) (ge:= .mp w.heap.size) hid ů Ą Č Ă (by simp) (fun _ _ h=>by cases h) (fun _ _ _ h=>by cases h)
     (hit:=fun o' h=>by cases h;exact ⟨_,rfl,dH w _⟩)
    exact ⟨_,_,_,_,aZ P w _ _ _ Ā,.inl rfl,m',l',Fr.new Č Ą Ă rfl rfl rfl,.lU id _ (Gh.cy _ _ _)⟩
   ·cases he
  ·rename_i kt el m hdesc;split at h
   ·rename_i es clock hb;split at h
    ·rename_i Ű;cases h;have Ű:=of_decide_eq_true Ű;cases hx with
     | cg _ bm hg=>
      obtain ⟨bm',Ň,ents,hh,hrest⟩:=hm.mp m es clock hb;rw [hg] at Ň;cases Ň;have Ā:=run_range_map (P:=P) w t kt el bm ents clock (hdesc▸hi.fM) hh;simp only [dy.on] at he;split at he
      ·rename_i hd;cases he;have hid:=al hd;have ů:af.at bs id= .dead:=by simp [af.at,M,hd]
       have Ą: ∀b,b<w.heap.size->(w.alloc (.mapIter (B bm) clock #[] clock)).heap[b]?=w.heap[b]?:=fun b hb=>cJ w _ hb;have Č:w.heap.size<=(w.alloc (.mapIter (B bm) clock #[] clock)).heap.size:=by simp
       have Ă: ∀b,(GE.mp w.heap.size).bM=B b->w.heap.size<=b:=fun b hb=>by simp [GE.bM] at hb;omega
       obtain ⟨m',l'⟩:=hm.new (x:= .iter (.map m [] clock)) (ge:= .mp w.heap.size) hid ů Ą Č Ă (by simp) (fun _ _ h=>by cases h) (fun _ _ _ h=>by cases h)
        (hit:=fun o' h=>by cases h;exact ⟨_,rfl,Ű,bm,by rw [Gh.ca _ _ (by omega)];exact hg,dH w _⟩)
       exact ⟨_,_,_,_,aZ P w _ _ _ Ā,.inl rfl,m',l',Fr.new Č Ą Ă rfl rfl rfl,.lU id _ (Gh.cy _ _ _)⟩
      ·cases he
    ·cases h
   ·cases h
  ·cases h
 ·cases h
theorem Hq (hm:Mem g bs w) {t:V} {x r:AV} {u:H} {str:ϟ} {id:N} {e:dy} (hx:Rd g w x u) (h:xK x str bs=B (r,e)) {bs':I af} (he:e.on bs id=B bs'):
  di ((do pure (Next.value (<-Instr.next u str t)):Sem Λ).run P w) g w bs' r:=by
 unfold xK at h;split at h
 ·rename_i k;split at h
  ·rename_i s pos hb;cases hx with
   | lU _ b hg=>
    obtain ⟨b',Ň,hh⟩:=hm.it k (.str s pos) hb;have hh:w.heap[b']?=B (.stringIter ⟨s.toArray⟩ pos):=hh;rw [hg] at Ň;cases Ň;have hk:k<É bs:=fA (by rw [hb];simp);have hlt:=bV hh;have Č:(ByteArray.mk s.toArray).size=É s:=by show s.toArray.size=_;simp
    split at h
    ·rename_i ģ;cases h;cases he;simp only [Ϯ] at ģ;have ą: ∀b2 o,g.S b2 o->(w.putObj b (.stringIter ⟨s.toArray⟩ (pos+(nE s pos).2))).cell? ⟨b2,o,γ⟩=w.cell? ⟨b2,o,γ⟩:=fun b2 o _=>tz hh rfl rfl b2 o
     obtain ⟨m',l',f'⟩:=hm.upd (id:=k) (x:= .iter (.str s (pos+(nE s pos).2))) (ge:= .mp b) (S':=g.S) (w':=w.putObj b (.stringIter ⟨s.toArray⟩ (pos+(nE s pos).2))) hk (fun _ _ h=>h) ą (by rw [hg];exact .same _)
      (fun b2 _ hne=>World.putObj_heap_other (fun e=>hne (by rw [hg,e];rfl))) (by simp) (fun b2 ė=> .inl (by rw [hg];exact ė)) (by simp) (fun _ _ h=>by cases h) (fun _ _ _ h=>by cases h) (fun _ _ h=> .inl h)
      (fun b2 o hs ė=>by
       obtain ⟨ty,sz,es,h3,_⟩:=(hm.dh b2 o hs).2 k (by rw [hg];exact ė);rw [hb] at h3;cases h3) rfl rfl rfl (hit:=fun o' h=>by cases h;exact ⟨b,rfl,World.putObj_heap_same hlt⟩)
     refine ⟨_,.tuple #[.bool κ,.int .i64 pos,.int .i32 (nE s pos).1],_,_,?_,.inl rfl,m',l',f',.aK _ _ rfl (fun i c v hc hv=> ?_)⟩
     ·have hr:(Instr.next (.pointer (B ⟨b,0,γ⟩)) κ t).run P w= .ok (.tuple #[.bool κ,.int .i64 pos,.int .i32 (nE s pos).1]) (w.putObj b (.stringIter ⟨s.toArray⟩ (pos+(nE s pos).2))):=by
       have h1:(getObj b).run P w= .ok (.stringIter ⟨s.toArray⟩ pos) w:=by simp [getObj,Sem.run,hh]
       have h2:pos<(ByteArray.mk s.toArray).size:=by rw [Č];exact ģ
       simp only [Instr.next,Sem.run_bind,h1,Result.andThen_ok,h2,Ϝ];simp [setObj,Sem.run,hh,nE,goInt,World.putObj]
      exact aZ P w _ _ _ hr
     ·match i,hc,hv with
      | 0,hc,hv=>cases hc;cases hv;exact .bool _
      | 1,hc,hv=>cases hc;cases hv;exact .int _ _
      | 2,hc,hv=>cases hc;cases hv;exact .int _ _
    ·rename_i ģ;cases h;cases he;simp only [ϖ] at ģ;rw [MM hb];refine .pure (v:= .tuple #[.bool φ]) ?_ hm (.aK _ _ rfl (fun i c v hc hv=> ?_))
     ·have hr:(Instr.next (.pointer (B ⟨b,0,γ⟩)) κ t).run P w= .ok (.tuple #[.bool φ]) w:=by
       have h1:(getObj b).run P w= .ok (.stringIter ⟨s.toArray⟩ pos) w:=by simp [getObj,Sem.run,hh]
       have h2: ¬ pos<(ByteArray.mk s.toArray).size:=by rw [Č];exact ģ
       simp only [Instr.next,Sem.run_bind,h1,Result.andThen_ok,h2,if_false];rfl
      exact aZ P w _ _ _ hr
     ·match i,hc,hv with
      | 0,hc,hv=>cases hc;cases hv;exact .bool _
  ·cases h
 ·cases h
end
end Go.Am
namespace Go.Am
variable [Kn]
section
variable {P:υ} {g:Gh} {bs:I af} {w:η}
theorem Nj (zero:μ H) (n sz i j:N) (hz:zero.size=sz) (hi:i<n) (hj:j<sz):((Ε (n*sz)).map (zero[· %zero.size]!))[i*sz+j]?=zero[j]?:=by
 have hlt:i*sz+j<n*sz:=by have:(i+1)*sz<=n*sz:=J _ hi;rw [O] at this;omega
 have hmod:(i*sz+j)%zero.size=j:=by rw [hz,Ã,Nat.add_mul_mod_self_right,ϲ hj]
 have hjz:j<zero.size:=by omega
 simp [hlt,hmod,hjz]
def qS (g:Gh) (w:η) (sz:N) (es:I AV) (c:μ H):Prop:=
 ∀(i j:N) (e x:AV) (v:H),es[i]?=B e->e.cells[j]?=B x->c[i*sz+j]?=B v->Rd g w x v/\v.oneCell'=κ
def wR (sz:N) (es:I AV):Prop:= ∀(i:N) (e:AV),es[i]?=B e->e.plain=κ/\e.cells.length=sz
theorem EX {agg:ϟ} {n:N} {cs:I AV} {e:AV} (h:uC agg n cs=B e):e.cells=cs/\É cs=n/\e.plain=κ/\fg cs=true:=by
 unfold uC at h;split at h
 ·rename_i hc;obtain ⟨h1,h2,h3⟩:=hc;split at h
  ·cases h;exact ⟨rfl,h1,by simpa only [AV.plain] using h2,h3⟩
  ·split at h
   ·rename_i v;split at h
    ·cases h
    ·rename_i hne;cases h;refine ⟨?_,h1,by simpa [ak] using h2,h3⟩;cases e <;> first | rfl | exact ξ rfl (hne _)
   ·cases h
 ·cases h
theorem EY {v:H} {agg:ϟ} {sz:N} {ze:AV} (h:uC agg sz (gH v).cells=B ze) (n m:N) (ş:n<=m):
  qS g w sz (Θ n ze) ((Ε (m*sz)).map (v.cells[· %v.cells.size]!))/\wR sz (Θ n ze):=by
 obtain ⟨h1,h2,h3,h4⟩:=EX h;obtain ⟨k1,k2⟩:=qd (g:=g) (w:=w) v;refine ⟨fun i j e x u he hx hu=> ?_,fun i e he=> ?_⟩
 ·have hi:=al he;rw [Υ] at hi;rw [Ξ,θ hi] at he;cases he;rw [h1] at hx;have hj:=al hx;rw [h2] at hj;rw [Nj v.cells m sz i j (by omega) (by omega) hj] at hu;have:=k2 j x u hx hu;exact ⟨this,this.one (lA h4 hx)⟩
 ·have hi:=al he;rw [Υ] at hi;rw [Ξ,θ hi] at he;cases he;exact ⟨h3,by rw [h1,h2]⟩
theorem KT {sz:N} {ps:I (N×AV)} {qs:I (N×H)} (Ŕ:dM g w ps qs):
  ∀(es:I AV) (c:μ H) (ċ:I AV),c.size=É es*sz->qS g w sz es c->wR sz es->mK es sz ps=B ċ->
   ∃c',Instr.fill (fun i=>B (i*sz,sz)) c qs=B c'/\c'.size=ċ.length*sz/\ċ.length=É es/\qS g w sz ċ c'/\wR sz ċ:=by
 induction Ŕ with
 | nil=>intro es c ċ hn h hok hf;cases hf;exact ⟨c,rfl,hn,rfl,h,hok⟩
 | @cons p q ps qs hpq _ ih=>
  intro es c ċ hn h hok hf;obtain ⟨i,x⟩:=p;obtain ⟨i',v⟩:=q;obtain ⟨rfl,hx⟩:=hpq;simp only [mK] at hf;split at hf
  ·rename_i hc;obtain ⟨h1,h2,h3,h4⟩:=hc;obtain ⟨k1,k2⟩:=Rd.cells hx (gq h4);simp only at hx h1 h2 h3 h4 k1 k2 hf;have hin:(i+1)*sz<=É es*sz:=J _ h1;rw [O] at hin
   obtain ⟨c',q1,q2,q3,q4,q5⟩:=ih (es.set i x) (v.cells.zipIdx.foldl (fun cs (p:H×N)=>cs.setIfInBounds (i*sz+p.2) p.1) c) ċ (by rw [qP,hn,Μ])
    (fun i2 j e y u he hy hu=>by
     rw [ω] at he;rw [Ej] at hu;by_cases e2:i=i2
     ·subst e2;rw [θ rfl,θ h1] at he;cases he;have hj:=al hy;rw [θ (by omega)] at hu;rw [show i*sz+j-i*sz=j by omega] at hu;have:=k2 j y u hy hu;exact ⟨this,this.one (lA h4 hy)⟩
     ·rw [ο e2] at he;have hj:=al hy;rw [(hok i2 e he).2] at hj;rw [ο] at hu
      ·exact h i2 j e y u he hy hu
      ·rintro ⟨a1,a2,a3⟩;rcases ϫ e2 with hlt | hlt
       ·have:(i+1)*sz<=i2*sz:=J _ hlt;rw [O] at this;omega
       ·have:(i2+1)*sz<=i*sz:=J _ hlt;rw [O] at this;omega)
    (fun i2 e he=>by
     rw [ω] at he;by_cases e2:i=i2
     ·subst e2;rw [θ rfl,θ h1] at he;cases he;exact ⟨h3,h2⟩
     ·rw [ο e2] at he;exact hok i2 e he) hf
   refine ⟨c',?_,q2,by rw [q3,Μ],q4,q5⟩;simp only [Instr.fill];rw [ο (by simp;omega)];exact q1
  ·cases hf
theorem mW {c:aD} (hc:cb c P) (hm:Mem g bs w) {t:V} {len id:N} {ps:I (N×AV)} {qs:μ (N×H)} {r:AV} {e:dy} (Ŕ:dM g w ps qs.toList)
  (h:jg c (c.ti t) len ps id=B (r,e)) {bs':I af} (he:e.on bs id=B bs'):
  di ((do pure (Next.value (<-Instr.buildSlice t len qs)):Sem Λ).run P w) g w bs' r:=by
 unfold jg at h;split at h
 ·rename_i i ġ;obtain ⟨info,hi⟩:=bS (hc.ty t i ġ);split at h
  ·rename_i el hdesc;split at h
   ·rename_i j hj;obtain ⟨ī,ę⟩:=bS (hc.ty el j hj);split at h
    ·rename_i z hz;have Ę:=ę.zero;rw [hz] at Ę;cases hv:ī.zero with
     | none=>rw [hv] at Ę;cases Ę
     | some v=>
      rw [hv] at Ę;simp only [T,E] at Ę;subst Ę;split at h
      ·rename_i hl0;subst hl0;split at h
       ·cases h;cases he;cases hq:qs.toList with
        | cons q l=>rw [hq] at Ŕ;cases Ŕ
        | nil=>
         have hq':qs= #[]:=by rw [<-Array.toList_inj,hq]
         subst hq';refine CI (w':=w.alloc (.cells #[] el)) (v:= .slice (B ⟨w.heap.size,0,γ⟩) 0 0) hm ?_ (fun b hb=>cJ w _ hb) (by simp) rfl rfl rfl (.cG _ _ (fun _ h=>by cases h;rfl));have r0:Ε 0= #[]:=rfl;simp [Instr.buildSlice,C (hdesc▸hi.fM),sizeOf,typeInfo,ę.info,r0,Instr.fill,newRow]
       ·cases h
      split at h
      ·rename_i hlen0 Ć;split at h
       ·rename_i ze hze;cases hf:mK (Θ len ze) j.size ps with
        | none=>rw [hf] at h;cases h
        | some es=>
         rw [hf] at h;cases h;obtain ⟨k1,k2⟩:=EY (g:=g) (w:=w) hze len len (δ _);obtain ⟨c',q1,q2,q3,q4,q5⟩:=KT Ŕ _ ((Ε (len*j.size)).map (v.cells[· %v.cells.size]!)) _ (by simp) k1 k2 hf;rw [Υ] at q3;subst q3;refine xU hm he (c:=c') (ty:=el) (fz:=(0,0)) (cap:=É es) (w':=w.alloc (.cells c' el)) ?_ (fun b hb=>cJ w _ hb) (by simp) (dH w _) rfl rfl rfl (fun o _=>by simp) q2 (δ _) (by omega) q5 q4
         have hnot: ¬ É es*j.size>2^24:=by
          have:(2:N)^24=16777216:=by decide
          unfold oR at Ć;omega
         by_cases h0:É es*j.size=0
         ·have r0:Ε 0= #[]:=rfl;rw [h0,r0] at q1;simp only [Array.map_empty] at q1;simp [Instr.buildSlice,C (hdesc▸hi.fM),sizeOf,typeInfo,ę.info,ę.size,h0,r0,q1,newRow]
         ·simp [Instr.buildSlice,C (hdesc▸hi.fM),sizeOf,typeInfo,ę.info,ę.size,h0,hnot,zeroValue,hv,q1,newRow]
       ·cases h
      ·cases h
    ·cases h
   ·cases h
  ·cases h
 ·cases h
theorem wT {c:aD} (hc:cb c P) (hm:Mem g bs w) {t:V} {id:N} {x y r:AV} {u v:H} {e:dy} (hx:Rd g w x u) (hy:Rd g w y v)
  (h:kz c (c.ti t) x y id=B (r,e)) {bs':I af} (he:e.on bs id=B bs'):
  di ((do pure (Next.value (<-Instr.makeSlice t u v)):Sem Λ).run P w) g w bs' r:=by
 unfold kz at h;split at h
 ·rename_i i kl l km m ġ;obtain ⟨info,hi⟩:=bS (hc.ty t i ġ);obtain rfl:=hx.aU;obtain rfl:=hy.aU;split at h
  ·rename_i el hdesc;split at h
   ·rename_i j hj;obtain ⟨ī,ę⟩:=bS (hc.ty el j hj);split at h
    ·rename_i z hz;have Ę:=ę.zero;rw [hz] at Ę;cases hv:ī.zero with
     | none=>rw [hv] at Ę;cases Ę
     | some v=>
      rw [hv] at Ę;simp only [T,E] at Ę;subst Ę;split at h
      ·rename_i Ć;obtain ⟨hl0,hlm,Ħ⟩:=Ć;split at h
       ·rename_i ze hze;obtain ⟨n,rfl⟩:=Ϙ hl0;obtain ⟨k,rfl⟩:=Ϙ (Int.le_trans hl0 hlm);have hnk:n<=k:=by omega
        split at h
        ·rename_i hk0;cases h;cases he;obtain rfl:k=0:=by omega
         obtain rfl:n=0:=by omega
         refine CI (w':=w.alloc (.cells #[] el)) (v:= .slice (B ⟨w.heap.size,0,γ⟩) 0 0) hm ?_ (fun b hb=>cJ w _ hb) (by simp) rfl rfl rfl (.cG _ _ (fun _ h=>by cases h;rfl));have r0:Ε 0= #[]:=rfl;simp [Instr.makeSlice,C (hdesc▸hi.fM),asInt,asIntOf,sizeOf,typeInfo,ę.info,IntWalk.i64_in,r0,newRow]
        rename_i hk0';cases h;obtain ⟨k1,k2⟩:=EY (g:=g) (w:=w) hze n k hnk
        have hkb:k*(j.bytes+1)<=cx:=by
         have:((k*(j.bytes+1):N):Int)<=(cx:Int):=by push_cast;exact Ħ
         omega
        have hk1:k<=cx:=ϋ (ϙ k (by omega)) hkb;have hk2:j.bytes*k<=cx:=by rw [ϝ];exact ϋ (ϥ k (by omega)) hkb
        unfold cx at hk1 hk2;have hwl:IntKind.i64.wrap (n:Int)=n:=IntWalk.i64_in _ (by omega);have hwk:IntKind.i64.wrap (k:Int)=k:=IntWalk.i64_in _ (by omega)
        have key:=xU hm (es:=Θ n ze) (sz:=j.size) (c:=(Ε (k*j.size)).map (v.cells[· %v.cells.size]!)) (ty:=el) (fz:=(0,0)) (cap:=k) (w':=w.alloc (.cells ((Ε (k*j.size)).map (v.cells[· %v.cells.size]!)) el))
         (r:=(do pure (Next.value (<-Instr.makeSlice t (.int kl (n:Int)) (.int km (k:Int)))):Sem Λ).run P w) (by simpa using he) ?_ (fun b hb=>cJ w _ hb) (by simp) (dH w _) rfl rfl rfl (fun o _=>by simp) (by simp) (by simpa using hnk) (by omega) k2 k1
        ·simpa using key
        ·have hb: ¬ (281474976710656:Int)<(j.bytes:Int)*(k:Int):=by
          have h1:((j.bytes*k:N):Int)<=70368744177664:=by omega
          rw [Int.natCast_mul] at h1;omega
         have hk0: ¬ (k:Int)<0:=by omega
         have hn0: ¬ (n:Int)<0:=by omega
         have Ī: ¬ (k:Int)<(n:Int):=by omega
         by_cases h0:k*j.size=0
         ·have r0:Ε 0= #[]:=rfl;simp [Instr.makeSlice,C (hdesc▸hi.fM),asInt,asIntOf,sizeOf,typeInfo,ę.info,ę.size,ę.bytes,hwl,hwk,hn0,Ī,h0,r0,newRow];intro ű;rcases ű with h | h
          ·exact ξ h hk0
          ·exact ξ h hb
         ·simp [Instr.makeSlice,C (hdesc▸hi.fM),asInt,asIntOf,sizeOf,typeInfo,ę.info,ę.size,ę.bytes,hwl,hwk,hn0,Ī,h0,zeroValue,hv,newRow];intro ű;rcases ű with h | h
          ·exact ξ h hk0
          ·exact ξ h hb
       ·cases h
      ·cases h
    ·cases h
   ·cases h
  ·cases h
 ·cases h
theorem tK: ∀{es:I AV} {s:I Χ},bytesOf es=B s-> ∃ns:I Int,es=ns.map (AV.int .u8)/\s=ns.map fun n=>UInt8.ofNat n.toNat
 | [],s,h=>by cases h;exact ⟨[],rfl,rfl⟩
 | v::r,s,h=>by
  simp only [bytesOf] at h;split at h
  ·rename_i c l hb hl;cases h;obtain ⟨ns,h1,h2⟩:=tK hl;unfold byteOf at hb;split at hb
   ·rename_i n;cases hb;exact ⟨n::ns,by rw [h1];rfl,by rw [h2];rfl⟩
   ·cases hb
  ·cases h
theorem yy: ∀(ns:I Int) (l:I Χ),ns.foldl (fun r n=>r.push (UInt8.ofNat n.toNat)) (ByteArray.mk l.toArray)=ByteArray.mk (l++ns.map fun n=>UInt8.ofNat n.toNat).toArray
 | [],l=>by simp
 | n::ns,l=>by
  have:(ByteArray.mk l.toArray).push (UInt8.ofNat n.toNat)=ByteArray.mk (l++ [UInt8.ofNat n.toNat]).toArray:=by apply ByteArray.ext;simp [ByteArray.data_push]
  rw [List.foldl_cons,this,yy ns];simp
theorem C4 {sz:N} {es:I AV} {a:Δ Æ} {cap:N} (Ĉ:dE g w sz es a cap) {s:I Χ} (h:bytesOf es=B s):(Conv.bytesToString (.slice a (É es) cap)).run P w= .ok (.string ⟨s.toArray⟩) w:=by
 obtain ⟨ns,rfl,rfl⟩:=tK h;cases a with
 | none=>have:=(Ĉ.nil rfl).1;simp only [Ϧ] at this;subst this;rfl
 | some a=>
  have hld:(loadCells a (ns.map (AV.int .u8)).length).run P w= .ok (ns.map (Value.int .u8)).toArray w:=by
   have:=run_loadCells_list (P:=P) w a (ns.map (Value.int .u8)) (fun j v hv=>by
    have hj:=al hv;rw [ρ] at hj
    have hne:ns.map (AV.int .u8)≠ []:=by intro h0;rw [Ϧ] at h0;subst h0;simp at hj
    obtain ⟨b,off,ha,đ⟩:=Ĉ.at_ hne;cases ha;have hej:(ns.map (AV.int .u8))[j]?=B (.int .u8 ns[j]):=by simp [hj]
    have Č:=(Ĉ.ok j _ hej).2;simp only [AV.cells,Φ,Ω] at Č;obtain ⟨u,hu,ru,_⟩:=đ j _ hej 0 (.int .u8 ns[j]) rfl;obtain rfl:=ru.aU;rw [addr_add];rw [ι,ζ hj] at hv;cases hv;rw [<-hu,<-Č];simp)
   simpa using this
  rw [run_bytesToString w a _ cap ns hld];have:=yy ns [];rw [show (ByteArray.mk ([]:I Χ).toArray)=ByteArray.empty from rfl] at this;rw [this];rfl
theorem EZ (hm:Mem g bs w) {src dst el:V} {s:I Χ} {id:N} {bs':I af} (hs:P.underlying src=B .string) (hd:P.underlying dst=B (.slice el)) (he:P.underlying el=B (.int .u8)) (hne:s≠ [])
  (hb:(dy.new (.sl ⟨φ,B el,γ⟩ 1 (s.map aq))).on bs id=B bs'):di ((do pure (Next.value (<-convert src dst (.string ⟨s.toArray⟩))):Sem Λ).run P w) g w bs' (.aC id (É s)):=by
 have ĥ:(ByteArray.mk s.toArray).size=É s:=by show s.toArray.size=_;simp
 have Ā:=ϧ (P:=P) w src dst el ⟨s.toArray⟩ hs hd he;rw [ĥ] at Ā;generalize Ţ:grownCap w (É s) 0 el=cap at Ā
 have Ď:É s<=cap:=by rw [<-Ţ];show (É s)<=(Question.appendCap (É s) 0 el).cut _;show (É s)<=É s+_;omega
 have đ:(bytesRow ⟨s.toArray⟩ cap).size=cap:=by unfold bytesRow;simp [ĥ];omega
 have Ŋ: ∀(i:N) (b:Χ),s[i]?=B b->(bytesRow ⟨s.toArray⟩ cap)[i]?=B (Value.int .u8 b.toNat):=fun i b h=>by
  have hi:=al h;unfold bytesRow;rw [χ (by simp;omega)];simp [h]
 have key:=xU hm (es:=s.map aq) (sz:=1) (c:=bytesRow ⟨s.toArray⟩ cap) (ty:=el) (fz:=((bytesRow ⟨s.toArray⟩ cap).size,(bytesRow ⟨s.toArray⟩ cap).size+1)) (cap:=cap) (w':=(w.drew.alloc (.cells (bytesRow ⟨s.toArray⟩ cap) el ((bytesRow ⟨s.toArray⟩ cap).size,(bytesRow ⟨s.toArray⟩ cap).size+1))))
  (r:=(do pure (Next.value (<-convert src dst (.string ⟨s.toArray⟩))):Sem Λ).run P w) hb ?_ (fun b hb=>cJ w.drew _ hb) (by simp) (dH w.drew _) rfl rfl rfl (fun o ho=>by simp only;omega) (by rw [đ];simp) (by simpa using Ď) (by have:=List.length_pos_iff.2 hne;omega)
  (fun i e he=>by
   rw [ι] at he;cases hi:s[i]? with
   | none=>rw [hi] at he;cases he
   | some b=>rw [hi] at he;cases he;exact ⟨rfl,rfl⟩)
  (fun i j e x v he hx hv=>by
   rw [ι] at he;cases hi:s[i]? with
   | none=>rw [hi] at he;cases he
   | some b=>
    rw [hi] at he;cases he;have hj:=al hx;simp only [aq,AV.cells,Φ,Ω] at hj;have hj0:j=0:=by omega
    subst hj0;simp only [aq,AV.cells,X,E] at hx;subst hx;rw [Nat.mul_one,Κ,Ŋ i b hi] at hv;cases hv;exact ⟨.int _ _,rfl⟩)
 ·simpa using key
 ·rw [aZ P w _ _ _ Ā];simp
theorem zS (hm:Mem g bs w) {src dst el:V} (hs:P.underlying src=B .string) (hd:P.underlying dst=B (.slice el)) (he:P.underlying el=B (.int .u8)):
  di ((do pure (Next.value (<-convert src dst (.string ⟨([]:I Χ).toArray⟩))):Sem Λ).run P w) g w bs (.ah (B φ) 1 []):=by
 have Ā:=ϧ (P:=P) w src dst el ⟨([]:I Χ).toArray⟩ hs hd he;have ĥ:(ByteArray.mk ([]:I Χ).toArray).size=0:=rfl;rw [ĥ] at Ā;generalize Ţ:grownCap w 0 0 el=cap at Ā;refine CI (w':=(w.drew.alloc (.cells (bytesRow ⟨([]:I Χ).toArray⟩ cap) el ((bytesRow ⟨([]:I Χ).toArray⟩ cap).size,(bytesRow ⟨([]:I Χ).toArray⟩ cap).size+1)))) hm (aZ P w _ _ _ Ā) (fun b hb=>cJ w.drew _ hb) (by simp) rfl rfl rfl ?_;exact .ah (B φ) 1 [] (B ⟨w.heap.size,0,γ⟩) cap 0 0 (fun _ _=>undef) (fun x hx=>by cases hx;rfl) (fun h=>by cases h) (Β _) (fun h=>ξ rfl h) (fun i e h=>by simp at h) (fun i j e x h=>by simp at h) (fun i j e x h=>by simp at h)
theorem E0 {e:V} (hc:P.cellsOf e≠0) (count n:N) (hn:n<=count):liesAt P P.depth e count 0 e n=true:=by have hd:P.depth=(2*(P.types.size+Made.depth)+1)+1:=rfl;rw [hd];simp only [liesAt,σ];left;rw [hd];simp [rowAt,hc,hn,sameLayout]
theorem yz {b o:N} {c:μ H} {ty:V} {fz:N×N} (h:w.heap[b]?=B (.cells c ty fz)):(Conv.seenAt ⟨b,o,γ⟩).run P w= .ok ⟨b,o,γ⟩ w:=by simp [Conv.seenAt,viewAt,World.shape?,h]
theorem C5 {src dst t:V} {i:ϗ} {b o:N} {c:μ H} {ty:V} {fz:N×N} (h:w.heap[b]?=B (.cells c ty fz)) (hs:P.underlying src=B (.pointer t)) (hd:P.underlying dst=B .unsafePointer)
  (hi:P.info? t=B i) (hz:i.size≠0) (ho:o<c.size):(convert src dst (.pointer (B ⟨b,o,γ⟩))).run P w= .ok (.pointer (B ⟨b,o,γ⟩)) w:=by
 have: ¬ (c.size<=o):=by omega
 simp [convert,C hs,C hd,Conv.unsafePointer,yz (P:=P) h,cellsIn,World.shape?,h,sizeOf,typeInfo,hi,hz,this]
theorem C6 {src dst u:V} {i:ϗ} {b:N} {c:μ H} {fz:N×N} (h:w.heap[b]?=B (.cells c u fz)) (hs:P.underlying src=B .unsafePointer) (hd:P.underlying dst=B (.pointer u))
  (hi:P.info? u=B i) (hz:i.size≠0) (hn:c.size=i.size):(convert src dst (.pointer (B ⟨b,0,γ⟩))).run P w= .ok (.pointer (B ⟨b,0,γ⟩)) w:=by
 have ħ:P.cellsOf u=i.size:=by simp [Program.cellsOf,hi]
 have hl:liesAt P P.depth u (c.size / P.cellsOf u) 0 u 1=true:=E0 (by rw [ħ];exact hz) _ _ (by rw [ħ,hn,Nat.div_self (Nat.pos_of_ne_zero hz)];exact δ _);simp [convert,C hs,C hd,Conv.unsafePointer,yz (P:=P) h,World.shape?,h,sizeOf,typeInfo,hi,hz,variablesAt,hl]
theorem zT {c:aD} (hc:cb c P) (hm:Mem g bs w) {src dst:V} {id:N} {x r:AV} {u:H} {e:dy} (hx:Rd g w x u) (h:et c (c.ti src) (c.ti dst) x bs id=B (r,e))
  {bs':I af} (he:e.on bs id=B bs'):di ((do pure (Next.value (<-convert src dst u)):Sem Λ).run P w) g w bs' r:=by
 have desc: ∀{t:V} {d:ϐ},c.descOf t=B d->P.underlying t=B d:=fun {t d} h=>by
  unfold aD.descOf at h;cases ht:c.ti t with
  | none=>rw [ht] at h;cases h
  | some i=>rw [ht] at h;obtain ⟨info,hi⟩:=bS (hc.ty t i ht);simp only [T,E] at h;rw [<-h];exact hi.fM
 unfold et at h;split at h
 ·rename_i s d hs hd;obtain ⟨sinfo,ţ⟩:=bS (hc.ty src s hs);obtain ⟨dinfo,Ť⟩:=bS (hc.ty dst d hd);split at h
  ·rename_i k off Ķ;split at h
   ·rename_i t ty cs ť hb;split at h
    ·rename_i j hj;split at h
     ·rename_i hlt;cases h;cases he;obtain ⟨info,hi⟩:=bS (hc.ty t j hj);obtain ⟨b,ā,rfl⟩:=hx.g7;obtain ⟨b',ĕ,cc,hh,hn,đ⟩:=hm.var k ty cs hb;rw [ā] at ĕ;cases ĕ;exact .pure (aZ P w _ _ _ (C5 (P:=P) hh (ť▸ţ.fM) (Ķ▸Ť.fM) hi.info (by rw [hi.size];exact hlt.1) (by omega))) hm hx
     ·cases h
    ·cases h
   ·cases h
  ·rename_i u' k Ķ;split at h
   ·rename_i ty cs ť hb;split at h
    ·rename_i j hj;split at h
     ·rename_i hlt;cases h;cases he;obtain ⟨rfl,Č,hnz⟩:=hlt;obtain ⟨info,hi⟩:=bS (hc.ty _ j hj);obtain ⟨b,ā,rfl⟩:=hx.g7;obtain ⟨b',ĕ,cc,hh,hn,đ⟩:=hm.var k _ cs hb;rw [ā] at ĕ;cases ĕ;exact .pure (aZ P w _ _ _ (C6 (P:=P) hh (ť▸ţ.fM) (Ķ▸Ť.fM) hi.info (by rw [hi.size];exact hnz) (by rw [hn,<-Č,hi.size]))) hm hx
     ·cases h
    ·cases h
   ·cases h
  ·rename_i k k' n Ķ;cases h;cases he;obtain rfl:=hx.aU;exact .pure (v:= .int k (k.wrap n)) (by simp [convert,C ţ.fM,C (Ķ▸Ť.fM),Conv.intToInt]) hm (.int _ _)
  ·rename_i l Ķ;cases h;cases he;obtain rfl:=hx.cS;exact .pure (v:= .string ⟨l.toArray⟩) (by simp [convert,C ţ.fM,C (Ķ▸Ť.fM)]) hm (.str _)
  ·rename_i k' n Ķ;cases h;cases he;obtain rfl:=hx.aU;exact .pure (v:= .string ⟨(Utf8.encode n).data.toList.toArray⟩) (by simp [convert,C ţ.fM,C (Ķ▸Ť.fM),Conv.intToString]) hm (.str _)
  ·rename_i el l Ķ;split at h
   ·rename_i ť Ĉ;split at h
    ·rename_i hl;subst hl;cases h;cases he;obtain rfl:=hx.cS;exact zS hm (ť▸ţ.fM) (Ķ▸Ť.fM) (desc Ĉ)
    split at h
    ·rename_i hl _;cases h;obtain rfl:=hx.cS;exact EZ hm (ť▸ţ.fM) (Ķ▸Ť.fM) (desc Ĉ) hl he
    ·cases h
   ·cases h
  ·rename_i Ķ hns _;split at h
   ·rename_i el ť;split at h
    ·rename_i sz es Ĉ ř;cases hb:bytesOf es with
     | none=>rw [hb] at h;cases h
     | some l=>rw [hb] at h;cases h;cases he;obtain ⟨a,cap,rfl,hat⟩:=o6 hm hx ř;have h1:=run_convert_bytes_string (P:=P) w src dst el a (É es) cap (ť▸ţ.fM) (desc Ĉ) (Ķ▸Ť.fM);rw [C4 (P:=P) hat hb] at h1;exact .pure (v:= .string ⟨l.toArray⟩) (aZ P w _ _ _ h1) hm (.str _)
    ·cases h
   ·cases h
  ·cases h
 ·cases h
end
end Go.Am
namespace Go.Am
variable [Kn]
section
variable {P:υ} {g:Gh} {bs:I af} {w:η}
def leadsTo (k:N):AV->ϟ
 | .aC j _=>j==k
 | .gO j _ _ _=>j==k
 | _=>φ
def ZW (g:Gh) (bs:I af) (args:I AV) (b o:N):Prop:= ∃k sh sz es,args.any (leadsTo k)=κ/\af.at bs k= .sl sh sz es/\(g.e k).bM=B b/\o<É es*sz
def Gh.dj (g:Gh) (bs:I af) (args:I AV):Gh:={S:=fun b o=>g.S b o\/ZW g bs args b o,e:=fun _=> .no}
theorem yA (hm:Mem g bs w) (args:I AV):Mem (g.dj bs args) [] w:=by
 refine ⟨fun k _=>rfl,fun k ty cs hk=>by simp [af.at] at hk,fun k sh sz es hk=>by simp [af.at] at hk,fun k st hk=>by simp [af.at] at hk,fun k es clock hk=>by simp [af.at] at hk,fun k hk=>by simp [af.at] at hk,fun k o hk=>by simp [af.at] at hk,fun k l b hk=>by simp [Gh.dj,GE.bM] at hk,fun b o hb=>⟨?_,fun k hk=>by simp [Gh.dj,GE.bM] at hk⟩,fun p hp=>⟨(hm.kn p hp).1,fun k hk=>by simp [Gh.dj,GE.bM] at hk⟩⟩;rcases hb with hb | ⟨k,sh,sz,es,_,_,Ă,_⟩
 ·exact (hm.dh b o hb).1
 ·exact hm.cR Ă
theorem pv {bs:I af}: ∀{xs l:I AV},dO bs xs=B l->É l=É xs
 | [],l,h=>by cases h;rfl
 | x::xs,l,h=>by
  simp only [dO] at h;split at h
  ·rename_i a r _ hr;cases h;simp [pv hr]
  ·cases h
theorem Nk (hm:Mem g bs w) {args:I AV} {k n:N} {v:H} (hx:Rd g w (.aC k n) v) (hin:AV.aC k n∈args) {sh:Hd} {sz:N} {es:I AV} (hb:af.at bs k= .sl sh sz es) (hn:n=É es):Rd (g.dj bs args) w (.ah γ sz es) v:=by
 obtain ⟨a,cap,rfl,Ĉ,loc,ā,hr,hl⟩:=hx.kD hm hb hn
 have Ĭ:dE (g.dj bs args) w sz es a cap:=⟨fun hne=>by
  obtain ⟨b,off,ha,đ⟩:=Ĉ.at_ hne;refine ⟨b,off,ha,fun i e he j x hx=> ?_⟩;obtain ⟨v,hv,rv,ov⟩:=đ i e he j x hx;refine ⟨v,hv,rv.aT (g':=g.dj bs args) (fun _ _ hs=>Or.inl hs) (fun _ _ _=>rfl) ?_,ov⟩;have hp:=(Ĉ.ok i e he).1
  cases e <;> simp only [AV.cells] at hx <;> first
   | (simp only [AV.plain] at hp;exact bZ hp hx)
   | (cases j with
      | zero => simp at hx; rw [<- hx]; exact hp
      | succ j => simp at hx), Ĉ.ok, Ĉ.nil, Ĉ.cap⟩
 have:=sZ (h:=É es) (l:=0) γ Ĭ (fun x h=>by cases h) (fun b off ū i j e x he hxx=>by
  have hne:es≠ []:=by intro h0;rw [h0] at he;cases he
  rcases hl with ⟨b',rfl,rfl⟩ | ⟨_,h0,_⟩
  ·simp only [E,Addr.mk.injEq,and_true] at ū;obtain ⟨rfl,rfl⟩:=ū;refine .inr ⟨k,sh,sz,es,List.any_eq_true.2 ⟨_,hin,by simp [leadsTo]⟩,hb,by rw [ā];rfl,?_⟩;have hlt:=al he;have Ų:=al hxx;rw [(Ĉ.ok _ _ he).2] at Ų;have:(i+1)*sz<=É es*sz:=J _ hlt;rw [O] at this;omega
  ·exact ξ h0 hne) (Β _) (δ _)
 simp only [Ϡ,ϳ,ό,Ι] at this
 have ha:(if cap=0 then a else a.map (·.add 0))=a:=by
  split
  ·rfl
  ·cases a with
   | none=>rfl
   | some a=>simp [Addr.add]
 rw [ha] at this;exact this
theorem Nl (hm:Mem g bs w) {args:I AV} {k n lo hi:N} {v:H} (hx:Rd g w (.gO k n lo hi) v) (hin:AV.gO k n lo hi∈args) {sh:Hd} {sz:N} {es:I AV} (hb:af.at bs k= .sl sh sz es) (hn:n=É es) (hlh:lo<=hi) (hh:hi<=n):Rd (g.dj bs args) w (.ah γ sz ((es.take hi).drop lo)) v:=by
 obtain ⟨b,cap,a,rfl,ha,ā,hr,Ĉ⟩:=hx.rO hm hb hn
 have Ĭ:dE (g.dj bs args) w sz es (B ⟨b,0,γ⟩) cap:=⟨fun hne=>by
  obtain ⟨b,off,ha,đ⟩:=Ĉ.at_ hne;refine ⟨b,off,ha,fun i e he j x hx=> ?_⟩;obtain ⟨v,hv,rv,ov⟩:=đ i e he j x hx;refine ⟨v,hv,rv.aT (g':=g.dj bs args) (fun _ _ hs=>Or.inl hs) (fun _ _ _=>rfl) ?_,ov⟩;have hp:=(Ĉ.ok i e he).1
  cases e <;> simp only [AV.cells] at hx <;> first
   | (simp only [AV.plain] at hp;exact bZ hp hx)
   | (cases j with
      | zero => simp at hx; rw [<- hx]; exact hp
      | succ j => simp at hx), Ĉ.ok, Ĉ.nil, Ĉ.cap⟩
 exact Eh Ĭ (fun o ho=> .inr ⟨k,sh,sz,es,List.any_eq_true.2 ⟨_,hin,by simp [leadsTo]⟩,hb,by rw [ā];rfl,ho⟩) ha hlh (by omega)
mutual
theorem C7 (hm:Mem g bs w) {args:I AV}: ∀{x y:AV} {v:H},Rd g w x v->(∀z∈x.leaves,z∈args)->ft bs x=B y->y.plain=true->Rd (g.dj bs args) w y v
 | .aC k n,y,v,hx,hin,h,hp=>by
  simp only [ft] at h;split at h
  ·rename_i sh sz es hb;split at h
   ·rename_i hn;cases h;exact Nk hm hx (hin _ (by simp [AV.leaves])) hb hn
   ·cases h
  ·cases h
 | .gO k n lo hi,y,v,hx,hin,h,hp=>by
  simp only [ft] at h;split at h
  ·rename_i sh sz es hb;split at h
   ·rename_i hn;cases h;exact Nl hm hx (hin _ (by simp [AV.leaves])) hb hn.1 hn.2.1 hn.2.2
   ·cases h
  ·cases h
 | .agg cs,y,v,hx,hin,h,hp=>by
  simp only [ft] at h;simp only [AV.leaves] at hin;split at h
  ·cases h;exact hx.aT (g':=g.dj bs args) (fun _ _ hs=>Or.inl hs) (fun _ _ _=>rfl) hp
  ·rename_i ņ;rw [ņ] at hin;cases hl:dO bs cs with
   | none=>rw [hl] at h;cases h
   | some l=>
    rw [hl] at h;cases h;cases hx with
    | agg _ vs Č hc=>
     have Ć:=pv hl;refine .agg l vs (by rw [Č,Ć]) fun i c u hi hu=> ?_
     have œ:i<É cs:=by have:=al hi;omega
     exact pw hm (fun i c u hi hu=>hc i c u hi hu) hin hl (by simpa only [AV.plain] using hp) i c u hi hu
 | .any,y,v,hx,_,h,hp=>by cases h;exact hx.aT (g':=g.dj bs args) (fun _ _ hs=>Or.inl hs) (fun _ _ _=>rfl) hp
 | .jZ,y,v,hx,_,h,hp=>by cases h;exact hx.aT (g':=g.dj bs args) (fun _ _ hs=>Or.inl hs) (fun _ _ _=>rfl) hp
 | .int _ _,y,v,hx,_,h,hp=>by cases h;exact hx.aT (g':=g.dj bs args) (fun _ _ hs=>Or.inl hs) (fun _ _ _=>rfl) hp
 | .bool _,y,v,hx,_,h,hp=>by cases h;exact hx.aT (g':=g.dj bs args) (fun _ _ hs=>Or.inl hs) (fun _ _ _=>rfl) hp
 | .str _,y,v,hx,_,h,hp=>by cases h;exact hx.aT (g':=g.dj bs args) (fun _ _ hs=>Or.inl hs) (fun _ _ _=>rfl) hp
 | .aK _,y,v,hx,_,h,hp=>by cases h;exact hx.aT (g':=g.dj bs args) (fun _ _ hs=>Or.inl hs) (fun _ _ _=>rfl) hp
 | .cn,y,v,hx,_,h,hp=>by cases h;exact hx.aT (g':=g.dj bs args) (fun _ _ hs=>Or.inl hs) (fun _ _ _=>rfl) hp
 | .ptr _ _,y,v,hx,_,h,hp=>by cases h;exact hx.aT (g':=g.dj bs args) (fun _ _ hs=>Or.inl hs) (fun _ _ _=>rfl) hp
 | .cZ _ _ _ _,y,v,hx,_,h,hp=>by cases h;exact hx.aT (g':=g.dj bs args) (fun _ _ hs=>Or.inl hs) (fun _ _ _=>rfl) hp
 | .dB _,y,v,hx,_,h,hp=>by cases h;exact hx.aT (g':=g.dj bs args) (fun _ _ hs=>Or.inl hs) (fun _ _ _=>rfl) hp
 | .ah _ _ _,y,v,hx,_,h,hp=>by cases h;exact hx.aT (g':=g.dj bs args) (fun _ _ hs=>Or.inl hs) (fun _ _ _=>rfl) hp
 | .cG _,y,v,hx,_,h,hp=>by cases h;exact hx.aT (g':=g.dj bs args) (fun _ _ hs=>Or.inl hs) (fun _ _ _=>rfl) hp
 | .fn _ _ _,y,v,hx,_,h,hp=>by cases h;exact hx.aT (g':=g.dj bs args) (fun _ _ hs=>Or.inl hs) (fun _ _ _=>rfl) hp
 | .er,y,v,hx,_,h,hp=>by cases h;exact hx.aT (g':=g.dj bs args) (fun _ _ hs=>Or.inl hs) (fun _ _ _=>rfl) hp
 | .iv,y,v,hx,_,h,hp=>by cases h;exact hx.aT (g':=g.dj bs args) (fun _ _ hs=>Or.inl hs) (fun _ _ _=>rfl) hp
 | .lU _,y,v,hx,_,h,hp=>by cases h;exact hx.aT (g':=g.dj bs args) (fun _ _ hs=>Or.inl hs) (fun _ _ _=>rfl) hp
 | .cg _,y,v,hx,_,h,hp=>by cases h;exact hx.aT (g':=g.dj bs args) (fun _ _ hs=>Or.inl hs) (fun _ _ _=>rfl) hp
 | .il _,y,v,hx,_,h,hp=>by cases h;exact hx.aT (g':=g.dj bs args) (fun _ _ hs=>Or.inl hs) (fun _ _ _=>rfl) hp
 | .mG _ _ _,y,v,hx,_,h,hp=>by cases h;exact hx.aT (g':=g.dj bs args) (fun _ _ hs=>Or.inl hs) (fun _ _ _=>rfl) hp
 | .gG _ _ _,y,v,hx,_,h,hp=>by cases h;exact hx.aT (g':=g.dj bs args) (fun _ _ hs=>Or.inl hs) (fun _ _ _=>rfl) hp
theorem pw (hm:Mem g bs w) {args:I AV}: ∀{xs l:I AV} {vs:μ H},(∀(i:N) (c:AV) (u:H),xs[i]?=B c->vs[i]?=B u->Rd g w c u)->(∀z∈bc xs,z∈args)->dO bs xs=B l->ak l=true->
  ∀(i:N) (c:AV) (u:H),l[i]?=B c->vs[i]?=B u->Rd (g.dj bs args) w c u
 | [],l,vs,_,_,hl,_,i,c,u,hi,_=>by cases hl;simp at hi
 | x::xs,l,⟨vs⟩,hx,hin,hl,hp,i,c,u,hi,hu=>by
  simp only [dO] at hl;simp only [bc] at hin;split at hl
  ·rename_i a r ha hr;cases hl;simp only [ak,L] at hp;cases i with
   | zero=>simp only [X,E] at hi;subst hi;exact C7 hm (hx 0 x u rfl hu) (fun z hz=>hin z (ϡ _ hz)) ha hp.1
   | succ i=>
    simp only [List.getElem?_cons_succ] at hi;cases vs with
    | nil=>simp at hu
    | cons v0 vs=>refine pw (vs:=⟨vs⟩) hm (fun j c u hj hu=>hx (j+1) c u (by simpa using hj) (by simpa using hu)) (fun z hz=>hin z (Ϟ _ hz)) hr hp.2 i c u hi (by simpa using hu)
  ·cases hl
end
theorem Hr {args:I AV} (h:nC args=φ): ∀k,args.any (leadsTo k)=false:=by
 induction args with
 | nil=>intro k;rfl
 | cons x r ih=>intro k;cases x <;> simp only [nC,Ϭ] at h <;> (rw [ϕ,ih h k];rfl)
theorem pz (bs:I af): ∀(args:I AV) (k:N),af.at (aX bs args) k=match af.at bs k with | .sl sh sz es=> .sl ⟨sh.out || args.any (leadsTo k),sh.ty,if args.any (leadsTo k)=κ then γ else sh.link⟩ sz es | b=>b:=by
 intro args
 induction args generalizing bs with
 | nil=>intro k;simp only [aX,List.any_nil,Bool.or_false];cases af.at bs k <;> rfl
 | cons x r ih=>
  intro k
  have lead: ∀j,(∀bs:I af,aX bs (x::r)=aX (match af.at bs j with | .sl sh sz es=>bs.set j (.sl ⟨κ,sh.ty,γ⟩ sz es) | _=>bs) r)->leadsTo k x=(j==k)->af.at (aX bs (x::r)) k=match af.at bs k with | .sl sh sz es=> .sl ⟨sh.out || (x::r).any (leadsTo k),sh.ty,if (x::r).any (leadsTo k)=κ then γ else sh.link⟩ sz es | b=>b:=fun j h1 h2=>by
   simp only [h1,ϕ,h2];rw [ih];cases hj:af.at bs j with
   | sl sh sz es=>
    have hlt:j<É bs:=fA (by rw [hj];simp);simp only;rw [bO _ _ _ hlt];by_cases e:j=k
    ·subst e;rw [θ rfl,hj];simp
    ·rw [ο e];have:(j==k)=false:=by simpa using e
     simp [this]
   | loop st=>
    simp only;by_cases e:j=k
    ·subst e;rw [hj]
    ·have:(j==k)=false:=by simpa using e
     simp [this]
   | mp es clock=>
    simp only;by_cases e:j=k
    ·subst e;rw [hj]
    ·have:(j==k)=false:=by simpa using e
     simp [this]
   | var ty cs=>
    simp only;by_cases e:j=k
    ·subst e;rw [hj]
    ·have:(j==k)=false:=by simpa using e
     simp [this]
   | dead=>
    simp only;by_cases e:j=k
    ·subst e;rw [hj]
    ·have:(j==k)=false:=by simpa using e
     simp [this]
   | gone=>
    simp only;by_cases e:j=k
    ·subst e;rw [hj]
    ·have:(j==k)=false:=by simpa using e
     simp [this]
   | iter o=>
    simp only;by_cases e:j=k
    ·subst e;rw [hj]
    ·have:(j==k)=false:=by simpa using e
     simp [this]
  cases x with
  | aC j n=>exact lead j (fun _=>rfl) rfl
  | gO j n lo hi=>exact lead j (fun _=>rfl) rfl
  | _=>simp only [aX,ϕ,leadsTo,Bool.false_or];exact ih bs k
theorem Mem.after (hm:Mem g bs w) {w':η} {S':N->N->Prop} {sh':N->ϟ} {bs':I af} (hb: ∀k,af.at bs' k=match af.at bs k with | .sl sh sz es=> .sl ⟨sh.out || sh' k,sh.ty,if sh' k=κ then γ else sh.link⟩ sz es | b=>b)
  (Ą: ∀b,b<w.heap.size->w'.heap[b]?=w.heap[b]?) (hS: ∀b o,g.S b o->S' b o)
  (hcov: ∀k sh sz es b o,sh' k=true->af.at bs k= .sl sh sz es->(g.e k).bM=B b->o<É es*sz->S' b o)
  (hS': ∀b o,S' b o->b<w'.heap.size/\(b<w.heap.size->g.S b o\/ ∃k sh sz es,sh' k=κ/\af.at bs k= .sl sh sz es/\(g.e k).bM=B b/\o<É es*sz)):
  Mem {S:=S',e:=g.e} bs' w'/\Le g w {S:=S',e:=g.e} w':=by
 have hl:Le g w {S:=S',e:=g.e} w':=⟨hS,fun b o hs=>cr (Ą b (hm.dh b o hs).1) o,fun k=> .same _⟩;refine ⟨⟨fun k hk=> ?_,fun k ty cs hk=> ?_,fun k sh sz es hk=> ?_,fun k st hk=> ?_,fun k es clock hk=> ?_,fun k hk=> ?_,fun k o hk=> ?_,hm.inj,fun b o hs=> ?_,hm.Cw Ą (fun k b hb=> .inl hb)⟩,hl⟩
 ·rw [hb] at hk;cases ĉ:af.at bs k with
  | dead=>exact hm.no k ĉ
  | gone=>rw [ĉ] at hk;cases hk
  | iter o=>rw [ĉ] at hk;cases hk
  | var ty cs=>rw [ĉ] at hk;cases hk
  | sl sh sz es=>rw [ĉ] at hk;cases hk
  | loop st=>rw [ĉ] at hk;cases hk
  | mp es clock=>rw [ĉ] at hk;cases hk
 ·rw [hb] at hk;cases ĉ:af.at bs k with
  | dead=>rw [ĉ] at hk;cases hk
  | sl sh sz es=>rw [ĉ] at hk;cases hk
  | loop st=>rw [ĉ] at hk;cases hk
  | mp es clock=>rw [ĉ] at hk;cases hk
  | gone=>rw [ĉ] at hk;cases hk
  | iter o=>rw [ĉ] at hk;cases hk
  | var ty' ĭ=>rw [ĉ] at hk;cases hk;obtain ⟨b,ā,hr⟩:=hm.var k _ _ ĉ;exact ⟨b,ā,hr.mono hl (Ą b (hm.cR (k:=k) (by rw [ā];rfl)))⟩
 ·rw [hb] at hk;cases ĉ:af.at bs k with
  | dead=>rw [ĉ] at hk;cases hk
  | var ty cs=>rw [ĉ] at hk;cases hk
  | loop st=>rw [ĉ] at hk;cases hk
  | mp es clock=>rw [ĉ] at hk;cases hk
  | gone=>rw [ĉ] at hk;cases hk
  | iter o=>rw [ĉ] at hk;cases hk
  | sl sh0 sz0 es0=>
   rw [ĉ] at hk;simp only [af.sl.injEq] at hk;obtain ⟨h1,rfl,rfl⟩:=hk;obtain ⟨loc,ā,hr⟩:=hm.sl k sh0 sz0 es0 ĉ;refine ⟨loc,ā,hr.1,?_⟩;have ŋ:=hr.mono hl (fun p hp=>Ą p.1 (hm.cR (k:=k) (by rw [ā,hp];rfl)));cases loc with
   | none=>exact hr.2
   | some p=>
    obtain ⟨b,cap⟩:=p;obtain ⟨c,ty,fz,q1,q2,q3,q4,q5,q6,q7⟩:=ŋ.2;refine ⟨c,ty,fz,q1,q2,q3,fun t ht=> ?_,q5,fun hs o ho=> ?_,fun i j k' n hk v hv hi=> ?_⟩
    ·rw [<-h1] at ht⊢;refine ⟨(q4 t ht).1,fun o ho=>(q4 t ht).2 o (ϋ ?_ ho)⟩;cases sh0.out <;> simp
    rw [<-h1,σ] at hs;rcases hs with hs | hs
    ·exact q6 hs o ho
    ·exact hcov k sh0 sz0 es0 b o hs ĉ (by rw [ā];rfl) ho
    rw [<-h1] at hk;simp only at hk;split at hk
    ·cases hk
    ·exact q7 i j k' n hk v hv hi
 ·rw [hb] at hk;cases ĉ:af.at bs k with
  | dead=>rw [ĉ] at hk;cases hk
  | var ty cs=>rw [ĉ] at hk;cases hk
  | sl sh sz es=>rw [ĉ] at hk;cases hk
  | mp es clock=>rw [ĉ] at hk;cases hk
  | gone=>rw [ĉ] at hk;cases hk
  | iter o=>rw [ĉ] at hk;cases hk
  | loop st'=>rw [ĉ] at hk;cases hk;obtain ⟨b,r,ā,hr⟩:=hm.loop k _ ĉ;exact ⟨b,r,ā,(Ą b (hm.cR (k:=k) (by rw [ā];rfl))).trans hr⟩
 ·rw [hb] at hk;cases ĉ:af.at bs k with
  | dead=>rw [ĉ] at hk;cases hk
  | var ty cs=>rw [ĉ] at hk;cases hk
  | sl sh sz es=>rw [ĉ] at hk;cases hk
  | loop st=>rw [ĉ] at hk;cases hk
  | gone=>rw [ĉ] at hk;cases hk
  | iter o=>rw [ĉ] at hk;cases hk
  | mp ċ ć=>rw [ĉ] at hk;cases hk;obtain ⟨b,ā,hr⟩:=hm.mp k _ _ ĉ;exact ⟨b,ā,hr.mono hl (Ą b (hm.cR (k:=k) (by rw [ā];rfl)))⟩
 ·rw [hb] at hk;cases ĉ:af.at bs k with
  | gone=>exact hm.gone k ĉ
  | _=>rw [ĉ] at hk;cases hk
 ·rw [hb] at hk;cases ĉ:af.at bs k with
  | iter o'=>rw [ĉ] at hk;cases hk;obtain ⟨b,ā,hr⟩:=hm.it k _ ĉ;exact ⟨b,ā,hr.le hl (Ą b (hm.cR (k:=k) (by rw [ā];rfl)))⟩
  | _=>rw [ĉ] at hk;cases hk
 ·obtain ⟨h1,h2⟩:=hS' b o hs;refine ⟨h1,fun k hk=> ?_⟩;rcases h2 (hm.cR hk) with h3 | ⟨k',sh,sz,es,h3,h4,h5,h6⟩
  ·obtain ⟨ty,sz,es,h4,h5⟩:=(hm.dh b o h3).2 k hk;exact ⟨ty,sz,es,by rw [hb,h4];simp,h5⟩
  ·have:=hm.inj k k' b hk h5;subst this;exact ⟨sh.ty,sz,es,by rw [hb,h4,h3];simp,h6⟩
omit [Kn] in
theorem hZ: ∀(args:I AV) (bs:I af),(aX bs args).length=É bs
 | [],_=>rfl
 | x::r,bs=>by
  cases x with
  | aC k n=>simp only [aX];rw [hZ r];split <;> simp
  | gO k n lo hi=>simp only [aX];rw [hZ r];split <;> simp
  | _=>simp only [aX];exact hZ r bs
theorem Mem.share (hm:Mem g bs w) (args:I AV):Mem {S:=(g.dj bs args).S,e:=g.e} (aX bs args) w/\Le g w {S:=(g.dj bs args).S,e:=g.e} w/\Fr g w {S:=(g.dj bs args).S,e:=g.e} w:=by
 obtain ⟨m1,l1⟩:=hm.after (w':=w) (S':=(g.dj bs args).S) (sh':=fun k=>args.any (leadsTo k)) (bs':=aX bs args) (fun k=>pz bs args k) (fun _ _=>rfl) (fun b o h=> .inl h)
  (fun k sh sz es b o hk hb Ă ho=> .inr ⟨k,sh,sz,es,hk,hb,Ă,ho⟩)
  (fun b o hs=>by
   rcases hs with h1 | ⟨k,sh,sz,es,hin,h2,h3,h4⟩
   ·exact ⟨(hm.dh b o h1).1,fun _=> .inl h1⟩
   ·exact ⟨hm.cR h3,fun _=> .inr ⟨k,sh,sz,es,hin,h2,h3,h4⟩⟩)
 refine ⟨m1,l1,δ _,fun b hb hne=>⟨rfl,hne,fun o ho=> ?_⟩,rfl,rfl,rfl⟩;rcases ho with h1 | ⟨k,sh,sz,es,hin,h2,h3,h4⟩
 ·exact h1
 ·exact ξ h3 (hne k)
theorem KU {ps:I (N×AV)} {qs:I (N×H)} (h:dM g w ps qs):ps.map (·.1)=qs.map (·.1)/\É ps=É qs/\ ∀(i:N) (c:AV) (u:H),(ps.map (·.2))[i]?=B c->((qs.map (·.2)).toArray)[i]?=B u->Rd g w c u:=by
 induction h with
 | nil=>exact ⟨rfl,rfl,fun i c u h=>by simp at h⟩
 | @cons p q ps qs h t ih=>
  obtain ⟨h1,h2,h3⟩:=ih;refine ⟨by simp [h.1,h1],by simp [h2],fun i c u hc hu=> ?_⟩;cases i with
  | zero=>simp at hc hu;subst hc;subst hu;exact h.2
  | succ i=>exact h3 i c u (by simpa using hc) (by simpa using hu)
theorem AM: ∀{ns:I N} {l:I AV} {qs:I (N×H)},ns=qs.map (·.1)->É l=É qs->(∀(i:N) (c:AV) (u:H),l[i]?=B c->((qs.map (·.2)).toArray)[i]?=B u->Rd g w c u)->dM g w (ns.zip l) qs
 | ns,l, [],h1,h2,h3=>by
  subst h1;exact .nil
 | ns, [],q::qs,h1,h2,h3=>by simp at h2
 | ns,x::l,q::qs,h1,h2,h3=>by
  subst h1;exact .cons ⟨rfl,h3 0 x q.2 rfl (by simp)⟩ (AM rfl (by simpa using h2) (fun i c u hc hu=>h3 (i+1) c u (by simpa using hc) (by simpa using hu)))
theorem Rd.dR {d:AV} {v:H} (h:Rd g w d v):Rd g w d.dR v:=by
 cases d with
 | cG nl=>
  cases h with
  | cG _ a Ł=>exact .ah nl 0 [] a 0 0 0 (fun _ _=> .nilFunc) Ł (fun _=>⟨rfl,rfl⟩) (δ _) (fun h=>ξ rfl h) (fun i e h=>by cases h) (fun i j e x h=>by cases h) (fun i j e x h=>by cases h)
 | _=>exact h
theorem Rd.soft {d:AV} {v:H} (h:Rd g w d v):Rd g w d.soft v:=by
 cases d with
 | agg cs=>obtain ⟨vs,rfl,hn,h'⟩:=h.eI;refine .agg _ _ (by rw [ρ];exact hn) (fun i c v hc hv=> ?_);rw [ι,ϛ] at hc;obtain ⟨c0,hc0,rfl⟩:=hc;exact (h' i c0 v hc0 hv).dR
 | _=>exact h.dR
theorem yB: ∀{ps:I (N×AV)} {qs:I (N×H)},dM g w ps qs->dM g w (ps.map fun p=>(p.1,p.2.soft)) qs
 | _,_,.nil=> .nil
 | _,_,.cons h t=> .cons ⟨h.1,h.2.soft⟩ (yB t)
theorem r9 {c:aD} (hc:cb c P) (hm:Mem g bs w) {t:V} {len id:N} {ps:I (N×AV)} {qs:μ (N×H)} {r:AV} {e:dy} (Ŕ:dM g w ps qs.toList)
  (h:gX c (c.ti t) len ps id bs=B (r,e)) {bs':I af} (he:e.on bs id=B bs'):
  di ((do pure (Next.value (<-Instr.buildSlice t len qs)):Sem Λ).run P w) g w bs' r:=by
 unfold gX at h;split at h
 ·exact mW hc hm Ŕ h he
 ·split at h
  ·rename_i l hl hd;split at h
   ·rename_i v b ņ hb;cases h;cases he;obtain ⟨m1,l1,f1⟩:=hm.share (bc (ps.map (·.2)));obtain ⟨p1,p2,p3⟩:=KU Ŕ;have ĝ:=pw hm (args:=bc (ps.map (·.2))) p3 (fun _ h=>h) hl ņ
    have hps':dM {S:=(g.dj bs (bc (ps.map (·.2)))).S,e:=g.e} w ((ps.map (·.1)).zip l) qs.toList:=
     AM p1 (by rw [pv hl,ρ,p2]) (fun i c u hc hu=>Rd.aT (g:=g.dj bs (bc (ps.map (·.2)))) (g':={S:=(g.dj bs (bc (ps.map (·.2)))).S,e:=g.e}) (w:=w) (w':=w) (fun _ _ h=>h) (fun _ _ _=>rfl) (ĝ i c u hc hu) (bZ ņ hc))
    have ů:(aX bs (bc (ps.map (·.2))))[id]?=B .dead:=by
     have hid:=al hd
     have h1:af.at (aX bs (bc (ps.map (·.2)))) id= .dead:=by rw [pz];simp [af.at,M,hd]
     have h2:id<(aX bs (bc (ps.map (·.2)))).length:=by rw [hZ];exact hid
     simpa [af.at,M,h2] using h1
    obtain ⟨nx,v,w',g',q1,q2,q3,q4,q5,q6⟩:=mW hc m1 hps' hb (bs':=(aX bs (bc (ps.map (·.2)))).set id b) (by simp only [dy.on,ů]);exact ⟨nx,v,w',g',q1,q2,q3,l1.trans q4,f1.trans q5,q6⟩
   ·cases h
  ·cases h
theorem tL {c:aD} (hc:cb c P) (hm:Mem g bs w) {t:V} {len id:N} {ps:I (N×AV)} {qs:μ (N×H)} {r:AV} {e:dy} (Ŕ:dM g w ps qs.toList)
  (h:fv c (c.ti t) len ps id bs=B (r,e)) {bs':I af} (he:e.on bs id=B bs'):
  di ((do pure (Next.value (<-Instr.buildSlice t len qs)):Sem Λ).run P w) g w bs' r:=
 r9 hc hm (yB Ŕ) h he
end
end Go.Am
namespace Go.Am
variable [Kn]
section
variable {P:υ} {g:Gh} {bs:I af} {w:η}
theorem QE {α:Type} (cs v:I α) (off k:N) (h:off+É v<=É cs):(cs.take off++v++cs.drop (off+É v))[k]?=if off<=k/\k<off+É v then v[k-off]? else cs[k]?:=by
 have h1:(cs.take off).length=off:=by simp;omega
 by_cases hk:k<off
 ·rw [ο (by omega),Ο,Z (by omega),ε,θ hk]
 ·by_cases hk2:k<off+É v
  ·rw [θ (by omega),Ο,U (by omega),h1,Z (by omega)]
  ·rw [ο (by omega),Ο,U (by omega),h1,U (by omega),ϭ];congr 1;omega
theorem nW (c:μ H) (vs:I H) (off k:N) (h:off+É vs<=c.size):
  (c.toList.take off++vs++c.toList.drop (off+É vs)).toArray[k]?=if off<=k/\k<off+É vs then vs[k-off]? else c[k]?:=by
 rw [ν,QE _ _ _ _ (by simpa using h)];split
 ·rfl
 ·exact Array.getElem?_toList
theorem ia (c:μ H) (vs:I H) (off:N) (h:off+É vs<=c.size):(c.toList.take off++vs++c.toList.drop (off+É vs)).toArray.size=c.size:=by simp;omega
theorem C8 {x:AV} {u:H} (hx:Rd g w x u) (hok:fg x.cells=κ):
  u.cells.size=x.cells.length/\(∀(j:N) (y:AV) (v:H),x.cells[j]?=B y->u.cells.toList[j]?=B v->Rd g w y v)/\ ∀v∈u.cells.toList,v.oneCell'=true:=by
 obtain ⟨h1,h2⟩:=hx.cells (gq hok);refine ⟨h1,fun j y v hy hv=>h2 j y v hy (by simpa using hv),fun v hv=> ?_⟩;obtain ⟨j,hj,rfl⟩:=List.mem_iff_getElem.1 hv;have ę:j<x.cells.length:=by simp at hj;omega
 have hy:x.cells[j]?=B x.cells[j]:=by simp [ę]
 exact (h2 j _ _ hy (by simp)).one (lA hok hy)
theorem ea: ∀(cs:I AV),ak cs=κ↔ ∀x∈cs,x.plain=κ
 | []=>by simp [ak]
 | v::r=>by simp [ak,ea r]
theorem yC {e e':AV} {off:N} {v:I AV} (h:du e off v=B e'):e'.cells=ab e.cells off v/\off+É v<=e.cells.length/\(e.plain=true->e'.plain=κ):=by
 unfold du at h;split at h
 ·rename_i cs;split at h
  ·rename_i hc;cases h;refine ⟨rfl,hc.1,fun hp=> ?_⟩;simp only [AV.plain,ea] at hp⊢;have hv:=(ea v).1 hc.2;intro x hx;simp only [ab,List.mem_append] at hx;rcases hx with (hx | hx) | hx
   ·exact hp x (List.mem_of_mem_take hx)
   ·exact hv x hx
   ·exact hp x (List.mem_of_mem_drop hx)
  ·cases h
 ·rename_i hne;have hce:e.cells= [e]:=by cases e <;> first | rfl | exact ξ rfl (hne _)
  split at h
  ·rename_i c;split at h
   ·rename_i hp;split at h
    ·cases h
    ·rename_i hnc;cases h;have:e'.cells= [e']:=by cases e' <;> first | rfl | exact ξ rfl (hnc _)
     exact ⟨by rw [this,hce];rfl,by rw [hce];simp,fun _=>hp⟩
   ·cases h
  ·cases h
theorem yD (hm:Mem g bs w) {t:V} {i:TI} {info:ϗ} (hi:G4 P t i info) {ys:I AV} {u v:H} (k1:v.cells.size=É ys) (k2: ∀(j:N) (y:AV) (q:H),ys[j]?=B y->v.cells.toList[j]?=B q->Rd g w y q) (k3: ∀q∈v.cells.toList,q.oneCell'=κ) (Ć:É ys=i.size)
  {k n j off:N} (hx:Rd g w (.cZ k n j off) u) {sh:Hd} {sz:N} {es:I AV} (hb:af.at bs k= .sl sh sz es) (hn:n=É es) (Ċ:sh.out=φ) {ļ:V} (Į:sh.ty=B ļ)
  {el el':AV} (Ĉ:es[j]?=B el) (hst:du el off ys=B el') {lk:Δ (N×N×N×N)}
  (hlk: ∀i2 j2 k2 n2,lk=B (i2,j2,k2,n2)->i2=j/\j2=off/\0<É ys/\ ∀q,v.cells.toList[0]?=B q->Rd g w (.aC k2 n2) q):
  di ((do Instr.storeAt t u v;pure Next.skip:Sem Λ).run P w) g w (bs.set k (.sl ⟨sh.out,sh.ty,lk⟩ sz (es.set j el'))) (.aK []):=by
 have hvl:v.cells.toList.length=É ys:=by simpa using k1
 have Č:v.cells.size=info.size:=by rw [k1,Ć,hi.size]
 have fin: ∀{b off:N} {cc:μ H} {ty:V} {fz:N×N},w.heap[b]?=B (.cells cc ty fz)->jk off cc fz->off+É ys<=cc.size->u= .pointer (B ⟨b,off,γ⟩)->
   (do Instr.storeAt t u v;pure Next.skip:Sem Λ).run P w= .ok .skip (w.setRow b (cc.toList.take off++v.cells.toList++cc.toList.drop (off+v.cells.toList.length)).toArray):=by
  intro b off cc ty fz hh hf hl hu;have hs:=fL P b off ty fz v.cells.toList 0 cc w hh hf (by omega) k3;subst hu;simp only [Κ] at hs;simp [Instr.storeAt,Instr.sureAddr,storeVar,sizeOf,typeInfo,hi.info,Č,hs]
 obtain ⟨s1,s2,s3⟩:=yC hst;obtain ⟨b,cap,ā,hu,Ĥ⟩:=hx.sY hm hb hn (by have:=al Ĉ;omega);obtain ⟨loc,ĕ,hr⟩:=hm.sl k sh sz es hb;obtain ⟨cc,ty,fz,hh,đ,Ď,ŕ,ĝ,_⟩:=Ĥ;obtain ⟨rfl,hf⟩:=ŕ ļ Į;rw [Ċ] at hf;have hk:k<É bs:=fA (by rw [hb];simp);have hj:=al Ĉ;have hesz:=(hr.1 j el Ĉ).2;have hjs:(j+1)*sz<=cap*sz:=J _ (by omega);rw [O] at hjs;have hin:(j*sz+off)+v.cells.toList.length<=cc.size:=by omega
 have hS: ∀b2 o,g.S b2 o->b2≠b:=fun b2 o hs e=>by
  obtain ⟨_,Ĝ,ċ,h1,_⟩:=(hm.dh b2 o hs).2 k (by rw [ā,e];rfl);rw [hb] at h1;cases h1;cases Ċ
 have ą: ∀b2 o,g.S b2 o->(w.setRow b (cc.toList.take (j*sz+off)++v.cells.toList++cc.toList.drop (j*sz+off+v.cells.toList.length)).toArray).cell? ⟨b2,o,γ⟩=w.cell? ⟨b2,o,γ⟩:=fun b2 o hs=>ϓ _ _ _ _ (hS b2 o hs)
 have hle:Le g w (g.eQ k (.sl n sz (B (b,cap))) g.S) (w.setRow b (cc.toList.take (j*sz+off)++v.cells.toList++cc.toList.drop (j*sz+off+v.cells.toList.length)).toArray):=⟨fun _ _ h=>h,ą,fun l=>by
  by_cases e:k=l
  ·subst e;rw [Gh.bo,ā];exact .same _
  ·rw [Gh.bj _ _ _ e];exact .same _⟩
 have Ō: ∀(i2:N) (e2:AV),(es.set j el')[i2]?=B e2->e2.plain=κ/\e2.cells.length=sz:=fun i2 e2 Ė=>by
  rw [ω] at Ė;by_cases e3:j=i2
  ·subst e3;rw [θ rfl,θ hj] at Ė;cases Ė;exact ⟨s3 (hr.1 j el Ĉ).1,by rw [s1,gf _ _ _ s2,hesz]⟩
  ·rw [ο e3] at Ė;exact hr.1 i2 e2 Ė
 obtain ⟨m',l',f'⟩:=Mem.upd (id:=k) (x:= .sl ⟨sh.out,sh.ty,lk⟩ sz (es.set j el')) (ge:= .sl n sz (B (b,cap))) (S':=g.S) hm hk (fun _ _ h=>h) ą (by rw [ā];exact .same _)
  (fun b2 ė hne=>ύ w b b2 _ (fun e=>hne (by rw [ā,e];rfl))) (by simp) (fun b2 h=> .inl (by rw [ā];exact h)) (by simp) (fun _ _ h=>by cases h)
  (fun sh' Ĝ ċ į=>by
   cases į;refine ⟨B (b,cap),by rw [Μ,hn],Ō,_,ļ,fz,Ψ w b cc _ _ fz hh,by rw [ia _ _ _ hin,đ],by rw [Μ];exact Ď,fun t ht=>⟨by have ht:sh.ty=B t:=ht;rw [Į] at ht;cases ht;rfl,fun o _ ho=>hf o (Β _) (by rwa [ia _ _ _ hin] at ho)⟩,fun i2 j2 e2 x2 q Ė ō hq=> ?_,fun h=>(by have h:sh.out=true:=h;rw [Ċ] at h;cases h),fun i2 j2 k2 n2 hl q hq Đ=> ?_⟩
   rotate_left
   ·obtain ⟨rfl,rfl,h0,h1⟩:=hlk i2 j2 k2 n2 hl;rw [nW _ _ _ _ hin,θ (by omega),Ϛ] at hq;exact (h1 q hq).mono hle
   rw [nW _ _ _ _ hin] at hq;rw [ω] at Ė;by_cases e3:j=i2
   ·subst e3;rw [θ rfl,θ hj] at Ė;cases Ė;rw [s1,kF _ _ _ _ s2] at ō;by_cases hj2:off<=j2/\j2<off+É ys
    ·rw [θ hj2] at ō;rw [θ (by omega),show j*sz+j2-(j*sz+off)=j2-off by omega] at hq;exact ⟨(k2 _ _ _ ō hq).mono hle,k3 q (Ϣ hq)⟩
    ·rw [ο hj2] at ō;rw [ο (by omega)] at hq;have:=ĝ j j2 el x2 q Ĉ ō hq;exact ⟨this.1.mono hle,this.2⟩
   ·rw [ο e3] at Ė;have Ŗ:=al ō;rw [(hr.1 i2 e2 Ė).2] at Ŗ
    rw [ο (by
     rintro ⟨a1,a2⟩;rcases ϫ e3 with hlt | hlt
     ·have:(j+1)*sz<=i2*sz:=J _ hlt;rw [O] at this;omega
     ·have:(i2+1)*sz<=j*sz:=J _ hlt;rw [O] at this;omega)] at hq
    have:=ĝ i2 j2 e2 x2 q Ė ō hq;exact ⟨this.1.mono hle,this.2⟩)
  (fun b2 o h=> .inl h) (fun b2 o hs Ă=>by simp only [GE.bM,T,E] at Ă;exact ξ Ă.symm (hS b2 o hs)) rfl rfl rfl
 exact ⟨_,_,_,_,fin hh (fun o _ ho=>hf o (Β _) ho) (by omega) hu,.inr ⟨rfl,rfl⟩,m',l',f',.aK _ _ rfl (fun i c v h=>by simp at h)⟩
theorem Hs (hm:Mem g bs w) {t:V} {i:TI} {info:ϗ} (hi:G4 P t i info) {ys:I AV} {u v:H} {k' m:N} (hys:ys= [.aC k' m]) (k1:v.cells.size=É ys) (k2: ∀(j:N) (y:AV) (q:H),ys[j]?=B y->v.cells.toList[j]?=B q->Rd g w y q) (k3: ∀q∈v.cells.toList,q.oneCell'=κ) (Ć:É ys=i.size)
  {k n j off:N} (hx:Rd g w (.cZ k n j off) u) {sh:Hd} {sz:N} {es:I AV} (hb:af.at bs k= .sl sh sz es) (hn:n=É es) (Ċ:sh.out=φ) {ļ:V} (Į:sh.ty=B ļ)
  {el:AV} (Ĉ:es[j]?=B el) {r:AV} {e:dy} {id:N} (h:j0 bs k k' m j off sh sz es el=B (r,e)) {bs':I af} (he:e.on bs id=B bs'):
  di ((do Instr.storeAt t u v;pure Next.skip:Sem Λ).run P w) g w bs' r:=by
 subst hys;unfold j0 at h;split at h
 ·rename_i l hl hne;cases hst:du el off [l] with
  | none=>rw [hst] at h;cases h
  | some el'=>
   rw [hst] at h;cases h;cases he;have hv:v.cells.toList.length=1:=by simpa using k1
   obtain ⟨v0,hv0⟩: ∃v0,v.cells.toList= [v0]:=List.length_eq_one_iff.1 hv;have hr0:Rd g w (.aC k' m) v0:=k2 0 _ v0 rfl (by rw [hv0];rfl)
   have hlp:l.plain=true:=by
    simp only [ft] at hl;split at hl
    ·rename_i sh' Ĝ ċ hb';split at hl
     ·cases hl;rfl
     ·cases hl
    ·cases hl
   have hrl:=C7 hm (args:= [.aC k' m]) hr0 (fun z hz=>by simpa [AV.leaves] using hz) hl hlp;obtain ⟨m0,l0,f0⟩:=Mem.share hm [.aC k' m]
   have hk:af.at (aX bs [.aC k' m]) k= .sl sh sz es:=by
    have hne': ¬ k'=k:=by simpa using hne
    rw [pz,hb];have hb0:(k'==k)=false:=by simpa using hne'
    obtain ⟨o,ty,lk⟩:=sh;simp [leadsTo,hb0]
   obtain ⟨nx,q,w',g2,e1,e2,e3,e4,e5,e6⟩:=yD m0 (t:=t) hi (ys:= [l]) (v:=v) k1 (fun j y q hy hq=>by
     cases j with
     | zero=>rw [hv0] at hq;simp only [X,E] at hy hq;subst hy;subst hq;exact Rd.aT (g:=g.dj bs [.aC k' m]) (g':={S:=(g.dj bs [.aC k' m]).S,e:=g.e}) (w:=w) (w':=w) (fun _ _ h=>h) (fun _ _ _=>rfl) hrl hlp
     | succ j=>simp at hy) k3 Ć (hx.mono l0) hk hn Ċ Į Ĉ hst (lk:=some (j,off,k',m)) (fun i2 j2 k2 n2 hlk=>by
     cases hlk;refine ⟨rfl,rfl,by simp,fun q hq=> ?_⟩;rw [hv0] at hq;simp only [X,E] at hq;subst hq;exact hr0.mono l0)
   exact ⟨nx,q,w',g2,e1,e2,e3,l0.trans e4,f0.trans e5,e6⟩
 ·cases h
theorem E1 {c:aD} (hc:cb c P) (hm:Mem g bs w) {t:V} {id:N} {x y r:AV} {u v:H} {e:dy} (hx:Rd g w x u) (hy:Rd g w y v)
  (h:oU (c.ti t) x y.cells bs=B (r,e)) {bs':I af} (he:e.on bs id=B bs'):
  di ((do Instr.storeAt t u v;pure Next.skip:Sem Λ).run P w) g w bs' r:=by
 unfold oU at h;split at h
 ·rename_i i ġ;obtain ⟨info,hi⟩:=bS (hc.ty t i ġ);split at h
  ·rename_i hok;obtain ⟨Ć,hok⟩:=hok;obtain ⟨k1,k2,k3⟩:=C8 hy hok;have hvl:v.cells.toList.length=y.cells.length:=by simpa using k1
   have Č:v.cells.size=info.size:=by rw [k1,Ć,hi.size]
   have fin: ∀{b off:N} {cc:μ H} {ty:V} {fz:N×N},w.heap[b]?=B (.cells cc ty fz)->jk off cc fz->off+y.cells.length<=cc.size->u= .pointer (B ⟨b,off,γ⟩)->
     (do Instr.storeAt t u v;pure Next.skip:Sem Λ).run P w= .ok .skip (w.setRow b (cc.toList.take off++v.cells.toList++cc.toList.drop (off+v.cells.toList.length)).toArray):=by
    intro b off cc ty fz hh hf hl hu;have hs:=fL P b off ty fz v.cells.toList 0 cc w hh hf (by omega) k3;subst hu;simp only [Κ] at hs;simp [Instr.storeAt,Instr.sureAddr,storeVar,sizeOf,typeInfo,hi.info,Č,hs]
   split at h
   ·rename_i k off;split at h
    ·rename_i ty cs hb;split at h
     ·rename_i hoff;cases h;cases he;obtain ⟨b,ā,hu⟩:=hx.g7;obtain ⟨b',ĕ,cc,hh,hn,đ⟩:=hm.var k ty cs hb;rw [ā] at ĕ;cases ĕ;have hk:k<É bs:=fA (by rw [hb];simp);have hin:off+v.cells.toList.length<=cc.size:=by omega
      have hS: ∀b2 o,g.S b2 o->b2≠b:=fun b2 o hs e=>by
       obtain ⟨_,sz,es,h1,_⟩:=(hm.dh b2 o hs).2 k (by rw [ā,e];rfl);rw [hb] at h1;cases h1
      have ą: ∀b2 o,g.S b2 o->(w.setRow b (cc.toList.take off++v.cells.toList++cc.toList.drop (off+v.cells.toList.length)).toArray).cell? ⟨b2,o,γ⟩=w.cell? ⟨b2,o,γ⟩:=fun b2 o hs=>ϓ _ _ _ _ (hS b2 o hs)
      have hle:Le g w (g.eQ k (.var b) g.S) (w.setRow b (cc.toList.take off++v.cells.toList++cc.toList.drop (off+v.cells.toList.length)).toArray):=⟨fun _ _ h=>h,ą,fun j=>by
       by_cases e:k=j
       ·subst e;rw [Gh.bo,ā];exact .same _
       ·rw [Gh.bj _ _ _ e];exact .same _⟩
      obtain ⟨m',l',f'⟩:=Mem.upd (id:=k) (x:= .var ty (ab cs off y.cells)) (ge:= .var b) (S':=g.S) hm hk (fun _ _ h=>h) ą (by rw [ā];exact .same _)
       (fun b2 ė hne=>ύ w b b2 _ (fun e=>hne (by rw [ā,e];rfl))) (by simp) (fun b2 h=> .inl (by rw [ā];exact h)) (by simp)
       (fun ty' ĭ hcs'=>by
        cases hcs';refine ⟨b,rfl,_,Ψ w b cc _ ty _ hh,by rw [ia _ _ _ hin,hn,gf _ _ _ hoff],fun j z q hz hq=> ?_⟩;rw [kF _ _ _ _ hoff] at hz;rw [nW _ _ _ _ hin] at hq;by_cases hj:off<=j/\j<off+y.cells.length
        ·rw [θ hj] at hz;rw [θ (by omega)] at hq;exact (k2 _ _ _ hz hq).mono hle
        ·rw [ο hj] at hz;rw [ο (by omega)] at hq;exact (đ j z q hz hq).mono hle) (fun _ _ _ h=>by cases h)
       (fun b2 o h=> .inl h) (fun b2 o hs Ă=>by simp only [GE.bM,E] at Ă;exact ξ Ă.symm (hS b2 o hs)) rfl rfl rfl
      exact ⟨_,_,_,_,fin hh (fun _ _ _=>by simp) (by omega) hu,.inr ⟨rfl,rfl⟩,m',l',f',.aK _ _ rfl (fun i c v h=>by simp at h)⟩
     ·cases h
    ·cases h
   ·rename_i k n j off;split at h
    ·rename_i sh sz es hb;split at h
     ·rename_i hn;obtain ⟨hn,Ċ,hsome⟩:=hn;obtain ⟨ļ,Į⟩:=Option.isSome_iff_exists.1 hsome;split at h
      ·rename_i el Ĉ;split at h
       ·rename_i k' m hyo
        have hyc:y.cells= [.aC k' m]:=by
         unfold MH at hyo;split at hyo
         ·rename_i h0;cases hyo;exact h0
         ·cases hyo
        exact Hs hm hi hyc k1 k2 k3 Ć hx hb hn Ċ Į Ĉ h he
       cases hst:du el off y.cells with
       | none=>rw [hst] at h;cases h
       | some el'=>rw [hst] at h;cases h;cases he;exact yD hm hi k1 k2 k3 Ć hx hb hn Ċ Į Ĉ hst (fun _ _ _ _ h=>by cases h)
      ·cases h
     ·cases h
    ·cases h
   ·cases h
  ·cases h
 ·cases h
end
end Go.Am
namespace Go.Am
variable [Kn]
section
variable {P:υ} {g:Gh} {bs:I af} {w:η}
structure Src (P:υ) (g:Gh) (w:η) (size:N) (xs:I AV) (x:H) (news:I H):Prop where
 len: ∀W:η,(Builtin.lenOf x).run P W= .ok (É xs) W
 first: ∀W:η,(∀a,W.cell? a=w.cell? a)->(Builtin.firstCells size (É xs) x).run P W= .ok news.toArray W
 iD:É news=É xs*size
 row:qS g w size xs news.toArray
 one: ∀v∈news,v.oneCell'=κ
 ok:wR size xs
theorem qk {sz size:N} {xs:I AV} {a:Δ Æ} {cap:N} (Ĉ:dE g w sz xs a cap) (Č:sz=size\/xs= []): ∃news,Src P g w size xs (.slice a (É xs) cap) news:=by
 by_cases hne:xs= []
 ·subst hne;refine ⟨[],fun W=>rfl,fun W _=> ?_,by simp,fun i j e x v he=>by simp at he,fun v hv=>by simp at hv,fun i e he=>by simp at he⟩;cases a <;> simp [Builtin.firstCells,loadCells,loadCellsFrom]
 ·obtain rfl:sz=size:=Č.resolve_right hne;obtain ⟨b,off,rfl,đ⟩:=Ĉ.at_ hne
  have hex: ∀k,k<É xs*sz-> ∃v,w.cell? ⟨b,off+k,γ⟩=B v/\v.oneCell'=κ/\ ∀(i j:N) (e x:AV),k=i*sz+j->xs[i]?=B e->e.cells[j]?=B x->Rd g w x v:=fun k hk=>by
   have ģ:0<sz:=by
    rcases Nat.eq_zero_or_pos sz with h | h
    ·rw [h] at hk;simp at hk
    ·exact h
   have hi:k / sz<É xs:=(Nat.div_lt_iff_lt_mul ģ).2 hk;have hj:k%sz<sz:=Nat.mod_lt _ ģ;obtain ⟨e0,hee⟩: ∃e0,xs[k / sz]?=B e0:=⟨xs[k / sz],by simp [hi]⟩;have ŭ:=(Ĉ.ok _ _ hee).2;obtain ⟨x0,hxx⟩: ∃x0,e0.cells[k%sz]?=B x0:=⟨e0.cells[k%sz]'(by omega),by simp [ŭ,hj]⟩;obtain ⟨v,hv,rv,ov⟩:=đ _ _ hee _ _ hxx;have hk2:k / sz*sz+k%sz=k:=by rw [ϝ];exact Nat.div_add_mod k sz
   refine ⟨v,by rw [<-hv,Â,hk2],ov,fun i j e x hkk he hx=> ?_⟩;have hj2:=al hx;rw [(Ĉ.ok _ _ he).2] at hj2;have e1:k / sz=i:=by rw [hkk,ϝ,Nat.mul_add_div ģ,Nat.div_eq_of_lt hj2,Κ]
   have e2:k%sz=j:=by rw [hkk,ϝ,Nat.mul_add_mod,ϲ hj2]
   rw [e1,he] at hee;cases hee;rw [e2,hx] at hxx;cases hxx;exact rv
  have hf: ∃f:N->H,∀k,k<É xs*sz->w.cell? ⟨b,off+k,γ⟩=B (f k)/\(f k).oneCell'=κ/\ ∀(i j:N) (e x:AV),k=i*sz+j->xs[i]?=B e->e.cells[j]?=B x->Rd g w x (f k):=
   ⟨fun k=>if h:k<É xs*sz then (hex k h).choose else undef,fun k hk=>by simp only [hk,dif_pos];exact (hex k hk).choose_spec⟩
  obtain ⟨f,hf⟩:=hf;refine ⟨(List.range (É xs*sz)).map f,fun W=>rfl,fun W hW=> ?_,by simp,fun i j e x v he hx hv=> ?_,fun v hv=> ?_,Ĉ.ok⟩
  ·exact run_loadCells (P:=P) W ⟨b,off,γ⟩ (É xs*sz) f (fun j hj=>by rw [addr_add,hW];exact (hf j hj).1)
  ·rw [ν] at hv
   have hlt:i*sz+j<É xs*sz:=by have:=al hv;simpa using this
   simp [hlt] at hv;rw [<-hv];exact ⟨(hf _ hlt).2.2 i j e x rfl he hx,(hf _ hlt).2.1⟩
  ·simp only [Ä,List.mem_range] at hv;obtain ⟨k,hk,rfl⟩:=hv;exact (hf k hk).2.1
theorem Ht (l:I Χ): ∃news,Src P g w 1 (l.map aq) (.string ⟨l.toArray⟩) news:=by
 have ĥ:(ByteArray.mk l.toArray).size=É l:=by show l.toArray.size=_;simp
 refine ⟨l.map fun (b:Χ)=>Value.int .u8 b.toNat,fun W=>by simp [Builtin.lenOf,ĥ],fun W _=> ?_,by simp,fun i j e x v he hx hv=> ?_,fun v hv=> ?_,fun i e he=> ?_⟩
 ·have h1:(ByteArray.mk l.toArray).extract 0 (l.map aq).length=ByteArray.mk l.toArray:=by rw [str_slice];simp
  simp only [Builtin.firstCells,h1];simp
 ·rw [ι] at he;cases hi:l[i]? with
  | none=>rw [hi] at he;cases he
  | some b=>
   rw [hi] at he;cases he;have hj:=al hx;simp only [aq,AV.cells,Φ,Ω] at hj;have hj0:j=0:=by omega
   subst hj0;simp only [aq,AV.cells,X,E] at hx;subst hx;simp [hi] at hv;rw [<-hv];exact ⟨.int _ _,rfl⟩
 ·simp only [Ä] at hv;obtain ⟨b,_,rfl⟩:=hv;rfl
 ·rw [ι] at he;cases hi:l[i]? with
  | none=>rw [hi] at he;cases he
  | some b=>rw [hi] at he;cases he;exact ⟨rfl,rfl⟩
def yE (d:ϐ):Prop:=(∃e,d= .slice e)\/d= .string
theorem jq {st xt ty e:V} {xd:ϐ} {i:ϗ} (ht:P.underlying st=B (.slice e)) (hx:P.underlying xt=B xd) (Ľ:yE xd) (hi:P.info? e=B i)
  {xs:I AV} {x:H} {news:I H} (hs:Src P g w i.size xs x news) {base:Δ Æ} {sLen sCap:N} {w':η} (Ĕ:sLen+É xs<=sCap)
  (hst: ∀a,base=B a->(storeCells (a.add (sLen*i.size)) news).run P w= .ok () w') (ğ:base=none->w'=w):
  (Builtin.append_ #[st,xt] ty #[.slice base sLen sCap,x]).run P w= .ok (.slice base (sLen+É xs) sCap) w':=by
 have h1:=hs.len w;have h2:=hs.first w (fun _=>rfl);cases base with
 | none=>obtain rfl:=ğ rfl;rcases Ľ with ⟨e2,rfl⟩ | rfl <;> simp [Builtin.append_,C ht,C hx,sizeOf,typeInfo,hi,h1,Ĕ,h2]
 | some a=>have h3:=hst a rfl;rcases Ľ with ⟨e2,rfl⟩ | rfl <;> simp [Builtin.append_,C ht,C hx,sizeOf,typeInfo,hi,h1,Ĕ,h2,h3]
theorem pC {st xt ty e:V} {xd:ϐ} {i:ϗ} {z:H} (ht:P.underlying st=B (.slice e)) (hx:P.underlying xt=B xd) (Ľ:yE xd) (hi:P.info? e=B i) (hz:i.zero=B z)
  {xs:I AV} {x:H} {news:I H} (hs:Src P g w i.size xs x news) {base:Δ Æ} {sLen sCap:N} {olds:I H} (hg:sCap<sLen+É xs)
  (ho:(Builtin.firstCells i.size sLen (.slice base sLen sCap)).run P w.drew= .ok olds.toArray w.drew) (h63:sLen+É xs<=9223372036854775807) (hfit:Builtin.nextslicecap (sLen+É xs) sCap*i.bytes<=281474976710656):
  (Builtin.append_ #[st,xt] ty #[.slice base sLen sCap,x]).run P w= .ok (.slice (B ⟨w.heap.size,0,γ⟩) (sLen+É xs) (grownCap w (sLen+É xs) sCap e))
   (w.drew.alloc (.cells (olds.toArray++news.toArray++Builtin.zeroCells z.cells (grownCap w (sLen+É xs) sCap e-(sLen+É xs))) e)):=by
 have h1:=hs.len w;have h2:=hs.first w.drew (fun _=>rfl);have hn: ¬ (sLen+É xs<=sCap):=by omega
 have h63': ¬ (9223372036854775807<((sLen:Int)+(É xs:Int))):=by omega
 have h48': ¬ (281474976710656<Builtin.nextslicecap (sLen+É xs) sCap*i.bytes):=by omega
 rcases Ľ with ⟨e2,rfl⟩ | rfl <;>
  (simp [Builtin.append_, C ht, C hx, sizeOf, typeInfo, zeroValue, hi, hz, h1, hn, h63', h48', Question.forced, h2, ho, newRow, grownCap]
   congr 2;apply Array.ext';simp [Ο])
theorem lG {sz:N} {es xs:I AV} (h:wR sz es) (k:wR sz xs):wR sz (es++xs):=fun i e he=>by
 rw [Γ] at he;split at he
 ·exact h i e he
 ·exact k _ e he
theorem kP {sz:N} {es xs:I AV} {olds news:I H} {c:μ H} (h:qS g w sz es olds.toArray) (ho:É olds=É es*sz) (hok:wR sz es) (k:qS g w sz xs news.toArray) (hn:É news=É xs*sz) (Ō:wR sz xs)
  (hc: ∀o,o<É olds+É news->c[o]?=(olds++news)[o]?):qS g w sz (es++xs) c:=fun i j e x v he hx hv=>by
 rw [Γ] at he;split at he
 ·rename_i hi;have hj:=al hx;rw [(hok i e he).2] at hj
  have hlt:i*sz+j<É es*sz:=by have:(i+1)*sz<=É es*sz:=J _ hi;rw [O] at this;omega
  rw [hc _ (by omega),Z (by omega)] at hv;exact h i j e x v he hx (by rw [ν];exact hv)
 ·rename_i hi;have hj:=al hx;rw [(Ō _ e he).2] at hj;have hil:=al he;have h1:(i-É es+1)*sz<=É xs*sz:=J _ hil;rw [O] at h1;have h2:i*sz=É es*sz+(i-É es)*sz:=by rw [<-O];congr 1;omega
  rw [hc _ (by omega),U (by omega)] at hv;exact k _ j e x v he hx (by rw [ν,<-hv];congr 1;omega)
theorem Jn (hm:Mem g bs w) {k:N} {sh:Hd} {sz:N} {es xs:I AV} {loc:Δ (N×N)} {b cap:N} {c:μ H} {ty:V} {fz:N×N} {w':η} {r:Result Λ}
  (hb:af.at bs k= .sl sh sz es) (ā:g.e k= .sl (É es) sz loc) (hr:r= .ok (.value (.slice (B ⟨b,0,γ⟩) (es++xs).length cap)) w')
  (Ĩ:(∃ĩ,loc=B (b,ĩ))\/w.heap.size<=b) (Ğ:xs= []->loc=B (b,cap))
  (Ą: ∀b2,b2<w.heap.size->b2≠b->w'.heap[b2]?=w.heap[b2]?) (Č:w.heap.size<=w'.heap.size) (Ĥ:w'.heap[b]?=B (.cells c ty fz))
  (hkeep: ∀o,o<É es*sz->b<w.heap.size->w'.cell? ⟨b,o,γ⟩=w.cell? ⟨b,o,γ⟩)
  (ķ:w'.os=w.os) (ht:w'.tape=w.tape) (hou:w'.output=w.output) (hty:sh.ty=B ty) (hf:jk (if sh.out then (es++xs).length*sz else 0) c fz) (hc:c.size=cap*sz) (Ď:(es++xs).length<=cap) (hc1:1<=cap) (hok:wR sz (es++xs)) (ĝ:qS g w sz (es++xs) c):
  di r g w (bs.set k (.sl ⟨sh.out,sh.ty,γ⟩ sz (es++xs))) (.aC k (es++xs).length):=by
 have hk:k<É bs:=fA (by rw [hb];simp);have hblt:b<w'.heap.size:=bV Ĥ
 have ą: ∀b2 o,g.S b2 o->w'.cell? ⟨b2,o,γ⟩=w.cell? ⟨b2,o,γ⟩:=fun b2 o hs=>by
  obtain ⟨h1,h2⟩:=hm.dh b2 o hs;by_cases e:b2=b
  ·subst e;rcases Ĩ with ⟨ĩ,hl⟩ | hl
   ·obtain ⟨_,Ĝ,ċ,h3,h4⟩:=h2 k (by rw [ā,hl];rfl);rw [hb] at h3;cases h3;exact hkeep o h4 h1
   ·omega
  ·exact cr (Ą b2 h1 e) o
 have hle0:GE.le (g.e k) (.sl (es++xs).length sz (B (b,cap))):=by
  rw [ā];by_cases hx:xs= []
  ·rw [Ğ hx,hx,List.append_nil];exact .same _
  ·exact .grown (by rw [Ζ];have:=List.length_pos_iff.2 hx;omega)
 have hle:Le g w (g.eQ k (.sl (es++xs).length sz (B (b,cap))) (fun b2 o=>g.S b2 o\/(sh.out=κ/\b=b2/\o<(es++xs).length*sz))) w':=⟨fun _ _ h=> .inl h,ą,fun j=>by
  by_cases e:k=j
  ·subst e;rw [Gh.bo];exact hle0
  ·rw [Gh.bj _ _ _ e];exact .same _⟩
 obtain ⟨m',l',f'⟩:=Mem.upd (id:=k) (x:= .sl ⟨sh.out,sh.ty,γ⟩ sz (es++xs)) (ge:= .sl (es++xs).length sz (B (b,cap))) (S':=fun b2 o=>g.S b2 o\/(sh.out=κ/\b=b2/\o<(es++xs).length*sz)) hm hk (fun _ _ h=> .inl h) ą hle0
  (fun b2 ė hne=>Ą b2 ė (fun e=>by
   subst e;rcases Ĩ with ⟨ĩ,hl⟩ | hl
   ·exact hne (by rw [ā,hl];rfl)
   ·omega)) Č
  (fun b2 h=>by
   simp only [GE.bM,T,E] at h;subst h;rcases Ĩ with ⟨ĩ,hl⟩ | hl
   ·exact .inl (by rw [ā,hl];rfl)
   ·exact .inr hl) (by simp) (fun _ _ h=>by cases h)
  (fun sh' Ĝ ċ h=>by
   cases h;exact ⟨_,rfl,hok,c,ty,fz,Ĥ,hc,by omega,fun t ht=>⟨by have ht:sh.ty=B t:=ht;rw [hty] at ht;cases ht;rfl,hf⟩,fun i j e x v a1 a2 a3=>⟨(ĝ i j e x v a1 a2 a3).1.mono hle,(ĝ i j e x v a1 a2 a3).2⟩,fun hs o ho=> .inr ⟨hs,rfl,ho⟩,fun _ _ _ _ h=>(by cases h)⟩)
  (fun b2 o h=>h.imp id (fun h=>by obtain ⟨_,rfl,_⟩:=h;exact ⟨hblt,rfl⟩))
  (fun b2 o h Ă=>by
   simp only [GE.bM,T,E] at Ă;subst Ă;rcases h with h | ⟨h,_,h'⟩
   ·obtain ⟨h1,h2⟩:=hm.dh b o h;rcases Ĩ with ⟨ĩ,hl⟩ | hl
    ·obtain ⟨_,Ĝ,ċ,h3,h4⟩:=h2 k (by rw [ā,hl];rfl);rw [hb] at h3;cases h3;refine ⟨_,_,_,rfl,?_⟩;rw [Ζ,O];omega
    ·omega
   ·obtain ⟨out,ty',lk⟩:=sh;simp only at h;subst h;exact ⟨_,_,_,rfl,h'⟩) ķ ht hou
 exact ⟨_,_,_,_,hr,.inl rfl,m',l',f',.aC k _ _ sz _ _ rfl (Gh.bo _ _ _ _) (δ _) (fun _=> .inl ⟨_,_,rfl,rfl⟩)⟩
theorem Jo (hm:Mem g bs w) {k id:N} {sh:Hd} {sz:N} {es xs:I AV} {b0 cG b cap:N} {c:μ H} {ty:V} {fz:N×N} {w':η} {r:Result Λ} {bs':I af}
  (hb:af.at bs k= .sl sh sz es) (ā:g.e k= .sl (É es) sz (B (b0,cG))) (he:(dy.move k (.sl ⟨sh.out,sh.ty,γ⟩ sz xs)).on bs id=B bs') (hr:r= .ok (.value (.slice (B ⟨b,0,γ⟩) (É xs) cap)) w')
  (Ĩ:b=b0\/w.heap.size<=b) (Ą: ∀b2,b2<w.heap.size->b2≠b0->w'.heap[b2]?=w.heap[b2]?) (Č:w.heap.size<=w'.heap.size) (Ĥ:w'.heap[b]?=B (.cells c ty fz))
  (ķ:w'.os=w.os) (ht:w'.tape=w.tape) (hou:w'.output=w.output) (hty:sh.ty=B ty) (Ċ:sh.out=φ) (hf:MK c fz) (hc:c.size=cap*sz) (Ď:É xs<=cap) (hc1:1<=cap) (hok:wR sz xs) (ĝ:qS g w sz xs c):
  di r g w bs' (.aC id (É xs)):=by
 simp only [dy.on] at he;split at he
 ·rename_i hd;cases he;have hid:=al hd;have hd0:af.at bs id= .dead:=by simp [af.at,M,hd]
  have hk:k<É bs:=fA (by rw [hb];simp);have hne:k≠id:=fun e=>by subst e;rw [hb] at hd0;cases hd0
  have hblt:b<w'.heap.size:=bV Ĥ;have Ă:(g.e k).bM=B b0:=by rw [ā];rfl
  have hnoS: ∀o,¬ g.S b0 o:=fun o hs=>by
   obtain ⟨_,h2⟩:=hm.dh b0 o hs;obtain ⟨ty',Ĝ,ċ,h3,_⟩:=h2 k Ă;rw [hb] at h3;cases h3;cases Ċ
  have ą: ∀b2 o,g.S b2 o->w'.cell? ⟨b2,o,γ⟩=w.cell? ⟨b2,o,γ⟩:=fun b2 o hs=>
   cr (Ą b2 (hm.dh b2 o hs).1 (fun e=>by subst e;exact hnoS o hs)) o
  obtain ⟨m1,l1,f1⟩:=Mem.upd (w':=w') (id:=k) (x:= .gone) (ge:= .sl (É es+1) sz γ) (S':=g.S) hm hk (fun _ _ h=>h) ą (by rw [ā];exact .grown (by omega))
   (fun b2 ė hne=>Ą b2 ė (fun e=>by subst e;exact hne Ă)) Č (fun b2 h=>by cases h) (by simp) (fun _ _ h=>by cases h) (fun _ _ _ h=>by cases h)
   (fun _ _ h=> .inl h) (fun _ _ _ h=>by cases h) ķ ht hou (hgo:=fun _=>⟨_,_,rfl⟩)
  have hold': ∀j,((g.eQ k (.sl (É es+1) sz γ) g.S).e j).bM=B b->(g.e j).bM=B b/\j≠k:=fun j hj=>by
   by_cases e:k=j
   ·subst e;rw [Gh.bo] at hj;cases hj
   ·rw [Gh.bj _ _ _ e] at hj;exact ⟨hj,Ne.symm e⟩
  have hd1:af.at (bs.set k .gone) id= .dead:=by rw [bO _ _ _ hk,ο hne];exact hd0
  have hrd': ∀(i j:N) (e x:AV) (v:H),xs[i]?=B e->e.cells[j]?=B x->c[i*sz+j]?=B v->Rd g w x v/\v.oneCell'=true:=ĝ
  have hle1:Le (g.eQ k (.sl (É es+1) sz γ) g.S) w' ((g.eQ k (.sl (É es+1) sz γ) g.S).put id (.sl (É xs) sz (B (b,cap)))) w':=
   xP (by rw [m1.no id hd1];exact .no _) (fun _ _ _=>rfl)
  obtain ⟨m2,l2⟩:=m1.Za (id:=id) (sh:=⟨sh.out,sh.ty,γ⟩) (sz:=sz) (es:=xs) (b:=b) (cap:=cap) (by simpa using hid) hd1 hblt
   (fun j hj=>by
    obtain ⟨h1,h2⟩:=hold' j hj;rcases Ĩ with rfl | hn
    ·exact h2 (hm.inj j k _ h1 Ă)
    ·have:=hm.cR h1;omega)
   (fun o hs=>by
    have hs:g.S b o:=hs;rcases Ĩ with rfl | hn
    ·exact hnoS o hs
    ·have:=(hm.dh b o hs).1;omega)
   (fun p hp e=>by
    obtain ⟨q1,q2⟩:=hm.kn p hp;rcases Ĩ with rfl | hn
    ·exact q2 k (by rw [Ă,e])
    ·have:=bV q1;omega)
   ⟨hok,c,ty,fz,Ĥ,hc,by omega,fun t ht=>⟨by have ht:sh.ty=B t:=ht;rw [hty] at ht;cases ht;rfl,hf.from _⟩,fun i j e x v a1 a2 a3=>⟨((hrd' i j e x v a1 a2 a3).1.mono l1).mono hle1,(hrd' i j e x v a1 a2 a3).2⟩,fun h=>(by have h:sh.out=true:=h;rw [Ċ] at h;cases h),fun _ _ _ _ h=>(by cases h)⟩
  refine ⟨_,_,_,_,hr,.inl rfl,m2,l1.trans l2,⟨f1.size,fun b2 ė hn2=>⟨(f1.frame b2 ė hn2).1,fun j hj=> ?_,(f1.frame b2 ė hn2).2.2⟩,f1.os,f1.tape,f1.output⟩,.aC id _ _ sz _ _ rfl (Gh.cy _ _ _) (δ _) (fun _=> .inl ⟨_,_,rfl,rfl⟩)⟩;by_cases e:id=j
  ·subst e;rw [Gh.cy] at hj;simp only [GE.bM,T,E] at hj;subst hj;rcases Ĩ with rfl | hn
   ·exact hn2 k Ă
   ·omega
  ·rw [Gh.ca _ _ e] at hj;exact (f1.frame b2 ė hn2).2.1 j hj
 ·cases he
end
end Go.Am
namespace Go.Am
variable [Kn]
section
variable {P:υ} {g:Gh} {bs:I af} {w:η}
theorem grownCap_le (w:η) (ľ old:N) (e:V):ľ<=grownCap w ľ old e:=by show ľ<=(Question.appendCap ľ old e).cut _;show ľ<=ľ+_;omega
theorem sa {z:H} {n m cap size:N} {olds news:I H} (hz:z.cells.size=size) (ho:É olds=n*size) (hn:É news=m*size) (Ď:n+m<=cap):
  (olds.toArray++news.toArray++Builtin.zeroCells z.cells (cap-(n+m))).size=cap*size:=by
 simp only [Array.size_append,List.size_toArray,Builtin.zeroCells,Array.size_map,Array.size_range,ho,hn,hz];rw [<-O,<-O];congr 1;omega
theorem pD {c:aD} (hc:cb c P) (hm:Mem g bs w) {st xt ty el:V} {i:TI} {xd:ϐ} (hst:P.underlying st=B (.slice el)) (Ŧ:P.underlying xt=B xd) (Ľ:yE xd) (Ĉ:c.ti el=B i)
  {s r:AV} {u x:H} {xs:I AV} {news:I H} {e:dy} {id:N} (hs:Rd g w s u) (ă:Src P g w i.size xs x news) (h:fr i el bs s xs id=B (r,e)) {bs':I af} (he:e.on bs id=B bs'):
  di ((do pure (Next.value (<-Builtin.append_ #[st,xt] ty #[u,x])):Sem Λ).run P w) g w bs' r:=by
 obtain ⟨info,hi⟩:=bS (hc.ty el i Ĉ);have Č:=hi.size
 have zer:oS i=true-> ∃z,info.zero=B z/\z.cells.size=i.size:=fun ŗ=>by
  unfold oS at ŗ;split at ŗ
  ·rename_i z hz;have Ę:=hi.zero;rw [hz] at Ę;cases hv:info.zero with
   | none=>rw [hv] at Ę;cases Ę
   | some v=>rw [hv] at Ę;simp only [T,E] at Ę;subst Ę;refine ⟨v,rfl,?_⟩;rw [(qd (g:=g) (w:=w) v).1];simpa using ŗ
  ·cases ŗ
 have lims: ∀{n:N},n*(i.bytes+1)<=cx->n<=9223372036854775807/\n*info.bytes<=140737488355328:=fun {n} hl=>by
  have h1:n<=n*(i.bytes+1):=ϙ n (by omega);have h2:n*i.bytes<=n*(i.bytes+1):=ϥ n (by omega);rw [hi.bytes];unfold cx at hl;omega
 have ě:Src P g w info.size xs x news:=by rw [Č];exact ă
 /- an empty slice without capacity -/
 have empty: ∀a:Δ Æ,u= .slice a 0 0->xs≠ []->É xs*(i.bytes+1)<=cx->oS i=true->r= .aC id (É xs)->e= .new (.sl ⟨φ,B el,γ⟩ i.size xs)->
   di ((do pure (Next.value (<-Builtin.append_ #[st,xt] ty #[u,x])):Sem Λ).run P w) g w bs' r:=by
  intro a hu hx Ħ ŗ hr hee;subst hu;subst hr;subst hee
  ·obtain ⟨z,hz,hzs⟩:=zer ŗ;have ģ:=List.length_pos_iff.2 hx;obtain ⟨hl1,Ŗ⟩:=lims Ħ;have Ā:=pC (P:=P) (ty:=ty) (base:=a) (sLen:=0) (sCap:=0) (olds:= []) hst Ŧ Ľ hi.info hz ě (by omega) (by cases a <;> simp [Builtin.firstCells,loadCells,loadCellsFrom]) (by omega) (ϣ (by omega) (by simpa using Ŗ));rw [Η] at Ā;have ā:=grownCap_le w (É xs) 0 el;refine xU hm he (aZ P w _ _ _ Ā) (fun b hb=>cJ w.drew _ hb) (by simp) (dH w.drew _) rfl rfl rfl (fun o _=>by simp) ?_ ā (by omega) ă.ok ?_
   ·have:=sa (olds:= []) (n:=0) (news:=news) hzs (by simp) ă.iD (cap:=grownCap w (É xs) 0 el) (by omega);simpa using this
   ·refine kP (es:= []) (olds:= []) (fun i j e x v he=>by simp at he) (by simp) (fun i e he=>by simp at he) ă.row ă.iD ă.ok (fun o ho=> ?_);simp only [Ω,Η] at ho;rw [χ (by simp;omega)];simp
 unfold fr at h;split at h
 ·obtain ⟨a,cap,hu,Ł,Ŝ⟩:=hs.nH;have ha:a=none:=by have:=Ł _ rfl;simpa using this
  obtain ⟨_,hc0⟩:=Ŝ ha;split at h
  ·cases h;cases he;subst ha;subst hc0;subst hu;have hn0:news= []:=π (by rw [ă.iD];simp);subst hn0;have Ā:=jq (P:=P) (ty:=ty) (base:=none) (sLen:=0) (sCap:=0) (w':=w) hst Ŧ Ľ hi.info ě (by simp) (fun a' _=>by simp [storeCells]) (fun _=>rfl);exact .pure (aZ P w _ _ _ Ā) hm hs
  ·split at h
   ·rename_i č;cases h;exact empty a (by rw [hu,hc0];rfl) (by assumption) č.1 č.2 rfl rfl
   ·cases h
 ·split at h
  ·cases h;cases he;cases hs with
   | cG _ a Ł=>have hn0:news= []:=π (by rw [ă.iD];simp);subst hn0;have Ā:=jq (P:=P) (ty:=ty) (base:=a) (sLen:=0) (sCap:=0) (w':=w) hst Ŧ Ľ hi.info ě (by simp) (fun a' _=>by simp [storeCells]) (fun _=>rfl);exact .pure (aZ P w _ _ _ Ā) hm (.cG _ a Ł)
  ·split at h
   ·rename_i č;cases h;cases hs with
    | cG _ a=>exact empty a rfl (by assumption) č.1 č.2 rfl rfl
   ·cases h
 ·rename_i k n;split at h
  ·rename_i sh sz es hb;split at h
   ·rename_i č;obtain ⟨hn,rfl,Ġ,Ħ,ŗ⟩:=č;cases h;cases he;obtain ⟨z,hz,hzs⟩:=zer ŗ;obtain ⟨hl1,Ŗ⟩:=lims Ħ;obtain ⟨a,cap,rfl,İ,loc,ā,hr,hl⟩:=hs.kD hm hb hn;subst hn;have Ř:(es++xs).length=É es+É xs:=Ζ;by_cases Ĕ:É es+É xs<=cap
    ·rcases hl with ⟨b,rfl,rfl⟩ | ⟨rfl,rfl,rfl,rfl⟩
     ·obtain ⟨cc,ļ,fz,hh,đ,Ď,ŕ,ĝ,_⟩:=hr.2;obtain ⟨rfl,hf⟩:=ŕ _ Ġ
      have Ē:É es*i.size+É news<=cc.size:=by rw [ă.iD,đ,<-O];exact J _ Ĕ
      have Ŏ:=fL P b (0+É es*i.size) el fz news 0 cc w hh (fun o ho=>hf o (ϋ (by split <;> omega) ho)) (by omega) ă.one;simp only [Κ,Η] at Ŏ;have Ā:=jq (P:=P) (ty:=ty) (base:=some ⟨b,0,γ⟩) (sLen:=É es) (sCap:=cap) hst Ŧ Ľ hi.info ě Ĕ (fun a' ha'=>by cases ha';rw [addr_add,Č,Η];exact Ŏ) (fun h=>by cases h);rw [<-Ř] at Ā⊢;refine Jn hm hb ā (aZ P w _ _ _ Ā) (.inl ⟨cap,rfl⟩) (fun _=>rfl) (fun b2 _ hne=>ύ w b b2 _ hne) (by simp) (Ψ w b cc _ el fz hh) (fun o ho _=> ?_) rfl rfl rfl Ġ (fun o ğ ho=>hf o (ϋ (by split <;> (try rw [Ř,O]) <;> omega) ğ) (by rwa [ia _ _ _ Ē] at ho)) (by rw [ia _ _ _ Ē,đ]) (by omega) (by omega) (lG hr.1 ă.ok) ?_
      ·rw [eT (Ψ w b cc _ el fz hh),eT hh,nW _ _ _ _ Ē,ο (by omega)]
      ·refine kP (olds:=(cc.toList.take (É es*i.size))) (fun i2 j e x v he hx hv=> ?_) (by simp;omega) hr.1 ă.row ă.iD ă.ok (fun o ho=> ?_)
       ·rw [ν,ε] at hv;split at hv
        ·exact ĝ i2 j e x v he hx (by simpa using hv)
        ·cases hv
       ·have Ć:(cc.toList.take (É es*i.size)).length=É es*i.size:=by simp;omega
        rw [nW _ _ _ _ Ē];rw [Ć] at ho;by_cases ho2:o<É es*i.size
        ·rw [ο (by omega),Z (by omega),ε,θ ho2];simp
        ·rw [θ (by omega),U (by omega),Ć]
     ·have hx:xs= []:=π (by simpa using Ĕ);subst hx;have hn0:news= []:=π (by rw [ă.iD];simp);subst hn0;have Ā:=jq (P:=P) (ty:=ty) (base:=none) (sLen:=0) (sCap:=0) (w':=w) hst Ŧ Ľ hi.info ě (by simp) (fun a' _=>by simp [storeCells]) (fun _=>rfl);obtain ⟨g',m',l',f',e'⟩:=G9 hm hb;exact ⟨_,_,_,g',aZ P w _ _ _ Ā,.inl rfl,m',l',f',.aC k 0 0 i.size γ _ rfl (by rw [e'];exact ā) (δ _) (fun _=> .inr ⟨rfl,rfl,rfl⟩)⟩
    ·have ŝ:xs≠ []:=by intro h0;subst h0;have:=İ.cap;simp at Ĕ;omega
     obtain ⟨olds,ķ⟩:=qk (P:=P) (size:=i.size) İ (.inl rfl);have Ā:=pC (P:=P) (ty:=ty) (base:=a) (sLen:=É es) (sCap:=cap) (olds:=olds) hst Ŧ Ľ hi.info hz ě (by omega) (by rw [Č];exact ķ.first w.drew (fun _=>rfl)) hl1 (ϣ (by omega) Ŗ);rw [<-Ř] at Ā⊢;have hgc:=grownCap_le w (es++xs).length cap el;refine Jn hm hb ā (aZ P w _ _ _ Ā) (.inr (δ _)) (fun h0=>ξ h0 ŝ) (fun b2 ė _=>cJ w.drew _ ė) (by simp) (dH w.drew _) (fun o _ h0=>ξ h0 (Nat.lt_irrefl _)) rfl rfl rfl Ġ (fun o _ _=>by simp) ?_ hgc (by have:=List.length_pos_iff.2 ŝ;omega) (lG hr.1 ă.ok) ?_
     ·rw [Ř];exact sa hzs ķ.iD ă.iD (by rw [Ř] at hgc;exact hgc)
     ·refine kP ķ.row ķ.iD hr.1 ă.row ă.iD ă.ok (fun o ho=> ?_);rw [χ (by simp;omega)];simp [Γ]
   ·cases h
  ·cases h
 ·rename_i k n lo Đ;split at h
  ·rename_i sh sz es hb;split at h
   ·rename_i č;obtain ⟨hn,rfl,hhn,ŝ,rfl,Ċ,Ġ,Ħ,ŗ⟩:=č;cases h;obtain ⟨z,hz,hzs⟩:=zer ŗ;obtain ⟨hl1,Ŗ⟩:=lims Ħ;obtain ⟨b,cap,a,rfl,ha,ā,hr,Ĉ⟩:=hs.rO hm hb hn;subst hn;obtain ⟨cc,ļ,fz,hh,đ,Ď,ŕ,ĝ,_⟩:=hr.2;obtain ⟨rfl,hf⟩:=ŕ _ Ġ;rw [Ċ] at hf;have ĸ:MK cc fz:=fun o ho=>hf o (Β _) ho
    have ha':a=⟨b,0,γ⟩:=by
     rcases ha with h | h
     ·rw [h,ό]
     ·omega
    subst ha';have hlt:(es.take Đ).length=Đ:=by simp;omega
    have Ş:wR i.size (es.take Đ):=fun i2 e he=>by
     rw [ε] at he;split at he
     ·exact hr.1 i2 e he
     ·cases he
    have Ř:(es.take Đ++xs).length=Đ+É xs:=by rw [Ζ,hlt]
    have hrdT:qS g w i.size (es.take Đ) (cc.toList.take (Đ*i.size)).toArray:=fun i2 j e x v he hx hv=>by
     rw [ε] at he;split at he
     ·rw [ν,ε] at hv;split at hv
      ·exact ĝ i2 j e x v he hx (by simpa using hv)
      ·cases hv
     ·cases he
    have hcs':Đ*i.size<=cc.size:=by rw [đ];exact J _ (by omega)
    have htl:(cc.toList.take (Đ*i.size)).length=Đ*i.size:=by simp;omega
    rw [Ι,Ι];by_cases Ĕ:Đ+É xs<=cap
    ·have Ē:Đ*i.size+É news<=cc.size:=by rw [ă.iD,đ,<-O];exact J _ Ĕ
     have Ŏ:=fL P b (0+Đ*i.size) el fz news 0 cc w hh (fun o _ ho=>ĸ o ho) (by omega) ă.one;simp only [Κ,Η] at Ŏ;have Ā:=jq (P:=P) (ty:=ty) (base:=some ⟨b,0,γ⟩) (sLen:=Đ) (sCap:=cap) hst Ŧ Ľ hi.info ě Ĕ (fun a' ha'=>by cases ha';rw [addr_add,Č,Η];exact Ŏ) (fun h=>by cases h);rw [<-Ř] at Ā⊢;refine Jo hm hb ā he (aZ P w _ _ _ Ā) (.inl rfl) (fun b2 _ hne=>ύ w b b2 _ hne) (by simp) (Ψ w b cc _ el fz hh) rfl rfl rfl Ġ Ċ (fun o ho=>ĸ o (by rwa [ia _ _ _ Ē] at ho)) (by rw [ia _ _ _ Ē,đ]) (by omega) (by omega) (lG Ş ă.ok) ?_;refine kP (olds:=(cc.toList.take (Đ*i.size))) hrdT (by rw [htl,hlt]) Ş ă.row ă.iD ă.ok (fun o ho=> ?_);rw [nW _ _ _ _ Ē];rw [htl] at ho;by_cases ho2:o<Đ*i.size
     ·rw [ο (by omega),Z (by omega),ε,θ ho2];simp
     ·rw [θ (by omega),U (by omega),htl]
    ·have Ĺ:=Ĉ.part (lo:=0) (hi:=Đ) (a:=⟨b,0,γ⟩) (.inl (by rw [ό])) (Β _) hhn;rw [Ϡ,Ι,Ι] at Ĺ;obtain ⟨olds,ķ⟩:=qk (P:=P) (size:=i.size) Ĺ.2 (.inl rfl);rw [hlt] at ķ;have Ā:=pC (P:=P) (ty:=ty) (base:=some ⟨b,0,γ⟩) (sLen:=Đ) (sCap:=cap) (olds:=olds) hst Ŧ Ľ hi.info hz ě (by omega) (by rw [Č];have h9:=ķ.first w.drew (fun _=>rfl);rw [hlt] at h9;exact h9) hl1 (ϣ (by omega) Ŗ);rw [<-Ř] at Ā⊢;have hgc:=grownCap_le w (es.take Đ++xs).length cap el;refine Jo hm hb ā he (aZ P w _ _ _ Ā) (.inr (δ _)) (fun b2 ė _=>cJ w.drew _ ė) (by simp) (dH w.drew _) rfl rfl rfl Ġ Ċ (fun o _=>by simp) ?_ hgc (by have:=List.length_pos_iff.2 ŝ;omega) (lG Ş ă.ok) ?_
     ·rw [Ř];exact sa hzs (by rw [ķ.iD,hlt]) ă.iD (by rw [Ř] at hgc;exact hgc)
     ·refine kP ķ.row ķ.iD Ş ă.row ă.iD ă.ok (fun o ho=> ?_);rw [χ (by simp;omega)];simp [Γ]
   ·cases h
  ·cases h
 ·cases h
theorem C9 {c:aD} (hc:cb c P) (hm:Mem g bs w) {st xt ty:V} {s x r:AV} {u v:H} {e:dy} {id:N} (hs:Rd g w s u) (hx:Rd g w x v) (h:iV c bs st xt s x id=B (r,e)) {bs':I af} (he:e.on bs id=B bs'):
  di ((do pure (Next.value (<-Builtin.append_ #[st,xt] ty #[u,v])):Sem Λ).run P w) g w bs' r:=by
 unfold iV at h;split at h
 ·rename_i i j hi hj;obtain ⟨iinfo,hii⟩:=bS (hc.ty st i hi);obtain ⟨ī,hjj⟩:=bS (hc.ty xt j hj);split at h
  ·rename_i el hdesc;split at h
   ·rename_i k hk;split at h
    ·rename_i e2 hjd;split at h
     ·rename_i sz xs Ĉ;split at h
      ·rename_i Č;obtain ⟨a,cap,rfl,İ⟩:=o6 hm hx Ĉ;obtain ⟨news,ă⟩:=qk (P:=P) (size:=k.size) İ Č;exact pD hc hm (hdesc▸hii.fM) (hjd▸hjj.fM) (.inl ⟨_,rfl⟩) hk hs ă h he
      ·cases h
     ·cases h
    ·rename_i hjd;split at h
     ·rename_i l;split at h
      ·rename_i hk1;obtain rfl:=hx.cS;obtain ⟨news,ă⟩:=Ht (P:=P) (g:=g) (w:=w) l;exact pD hc hm (hdesc▸hii.fM) (hjd▸hjj.fM) (.inr rfl) hk hs (by rw [hk1];exact ă) h he
      ·cases h
     ·cases h
    ·cases h
   ·cases h
  ·cases h
 ·cases h
theorem dE.take {sz:N} {es:I AV} {a:Δ Æ} {cap:N} (h:dE g w sz es a cap) (m:N):dE g w sz (es.take m) a cap where
 at_:=fun hne=>by
  obtain ⟨b,off,ha,hc⟩:=h.at_ (fun h0=>hne (by rw [h0];simp));refine ⟨b,off,ha,fun i e he=>hc i e ?_⟩;rw [ε] at he;split at he
  ·exact he
  ·cases he
 ok:=fun i e he=>by
  rw [ε] at he;split at he
  ·exact h.ok i e he
  ·cases he
 nil:=fun ha=>⟨by rw [(h.nil ha).1];simp,(h.nil ha).2⟩
 cap:=by have:=h.cap;rw [ϴ];omega
theorem Nm (hm:Mem g bs w) {k n lo hi:N} {sh:Hd} {sz:N} {es:I AV} {b cap:N} (hb:af.at bs k= .sl sh sz es) (ā:g.e k= .sl n sz (B (b,cap))) (hn:n=É es) (hr:mL g w sh sz es (B (b,cap)))
  (hhi:hi<=n) (Ċ:sh.out=φ) {el:V} (hty:sh.ty=B el) {ys:I AV} {x:H} {news:I H} (hs:Src P g w sz ys x news) (hlh:lo+É ys<=hi):
  ∃w' g',(storeCells ⟨b,lo*sz,γ⟩ news 0).run P w= .ok () w'/\Mem g' (bs.set k (.sl ⟨sh.out,sh.ty,γ⟩ sz (ab es lo ys))) w'/\Le g w g' w'/\Fr g w g' w':=by
 obtain ⟨hok,cc,ty,fz,hh,đ,Ď,ŕ,ĝ,_⟩:=hr;obtain ⟨rfl,hf⟩:=ŕ el hty;rw [Ċ] at hf;have hk:k<É bs:=fA (by rw [hb];simp);have hsp:lo+É ys<=É es:=by omega
 have hjs:(lo+É ys)*sz<=cap*sz:=J _ (by omega);rw [O] at hjs;have Č:=hs.iD;have hin:lo*sz+É news<=cc.size:=by omega
 have Ā:=fL P b (lo*sz) el fz news 0 cc w hh (fun o _ ho=>hf o (Β _) ho) (by omega) hs.one;simp only [Κ] at Ā
 have hS: ∀b2 o,g.S b2 o->b2≠b:=fun b2 o hs e=>by
  obtain ⟨_,Ĝ,ċ,h1,_⟩:=(hm.dh b2 o hs).2 k (by rw [ā,e];rfl);rw [hb] at h1;cases h1;cases Ċ
 have ą: ∀b2 o,g.S b2 o->(w.setRow b (cc.toList.take (lo*sz)++news++cc.toList.drop (lo*sz+É news)).toArray).cell? ⟨b2,o,γ⟩=w.cell? ⟨b2,o,γ⟩:=fun b2 o hs=>ϓ _ _ _ _ (hS b2 o hs)
 have hle:Le g w (g.eQ k (.sl n sz (B (b,cap))) g.S) (w.setRow b (cc.toList.take (lo*sz)++news++cc.toList.drop (lo*sz+É news)).toArray):=⟨fun _ _ h=>h,ą,fun l=>by
  by_cases e:k=l
  ·subst e;rw [Gh.bo,ā];exact .same _
  ·rw [Gh.bj _ _ _ e];exact .same _⟩
 have Ō: ∀(i2:N) (e2:AV),(ab es lo ys)[i2]?=B e2->e2.plain=κ/\e2.cells.length=sz:=fun i2 e2 Ė=>by
  rw [kF _ _ _ _ hsp] at Ė;split at Ė
  ·exact hs.ok _ _ Ė
  ·exact hok i2 e2 Ė
 obtain ⟨m',l',f'⟩:=Mem.upd (id:=k) (x:= .sl ⟨sh.out,sh.ty,γ⟩ sz (ab es lo ys)) (ge:= .sl n sz (B (b,cap))) (S':=g.S) hm hk (fun _ _ h=>h) ą (by rw [ā];exact .same _)
  (fun b2 ė hne=>ύ w b b2 _ (fun e=>hne (by rw [ā,e];rfl))) (by simp) (fun b2 h=> .inl (by rw [ā];exact h)) (by simp) (fun _ _ h=>by cases h)
  (fun sh' Ĝ ċ į=>by
   cases į;refine ⟨B (b,cap),by rw [gf _ _ _ hsp,hn],Ō,_,el,fz,Ψ w b cc _ _ fz hh,by rw [ia _ _ _ hin,đ],by rw [gf _ _ _ hsp];exact Ď,fun t ht=>⟨by have ht:sh.ty=B t:=ht;rw [hty] at ht;cases ht;rfl,fun o _ ho=>hf o (Β _) (by rwa [ia _ _ _ hin] at ho)⟩,fun i2 j2 e2 x2 q Ė ō hq=> ?_,fun h=>(by have h:sh.out=true:=h;rw [Ċ] at h;cases h),fun _ _ _ _ h=>(by cases h)⟩;rw [nW _ _ _ _ hin] at hq;rw [kF _ _ _ _ hsp] at Ė;have Ŗ:=al ō;by_cases h3:lo<=i2/\i2<lo+É ys
   ·rw [θ h3] at Ė;obtain ⟨d,rfl⟩:=Nat.exists_eq_add_of_le h3.1;rw [Nat.add_sub_cancel_left] at Ė;rw [(hs.ok _ _ Ė).2] at Ŗ;have hd:(d+1)*sz<=É ys*sz:=J _ (by omega);rw [O,ϸ] at hd;rw [O] at hq;rw [θ (by omega),show lo*sz+d*sz+j2-lo*sz=d*sz+j2 by omega] at hq;have:=hs.row d j2 e2 x2 q Ė ō (by rw [ν];exact hq);exact ⟨this.1.mono hle,this.2⟩
   ·rw [ο h3] at Ė;rw [(hok i2 e2 Ė).2] at Ŗ
    rw [ο (by
     rintro ⟨a1,a2⟩;rcases ϊ i2 lo with hlt | ĕ
     ·have:(i2+1)*sz<=lo*sz:=J _ hlt;rw [O] at this;omega
     ·have:(lo+É ys)*sz<=i2*sz:=J _ (by omega);rw [O] at this;omega)] at hq
    have:=ĝ i2 j2 e2 x2 q Ė ō hq;exact ⟨this.1.mono hle,this.2⟩)
  (fun b2 o h=> .inl h) (fun b2 o hs Ă=>by simp only [GE.bM,T,E] at Ă;exact ξ Ă.symm (hS b2 o hs)) rfl rfl rfl
 exact ⟨_,_,Ā,m',l',f'⟩
theorem QF (hm:Mem g bs w) {d:AV} {u:H} (hd:Rd g w d u) {k n lo hi:N} (hp:partOf d=B (k,n,lo,hi)) {sh:Hd} {sz:N} {es:I AV} (hb:af.at bs k= .sl sh sz es) (hn:n=É es) (hhi:hi<=n):
  ∃a cap,u= .slice a (hi-lo) cap/\(lo<hi-> ∃b ĩ,a=B ⟨b,lo*sz,γ⟩/\g.e k= .sl n sz (B (b,ĩ))/\mL g w sh sz es (B (b,ĩ))):=by
 unfold partOf at hp;split at hp
 ·cases hp;obtain ⟨a,cap,rfl,_,loc,ā,hr,hl⟩:=hd.kD hm hb hn;refine ⟨a,cap,by rw [hn];rfl,fun hlt=> ?_⟩;rcases hl with ⟨b,rfl,rfl⟩ | ⟨_,h0,_⟩
  ·exact ⟨b,cap,by rw [ό],ā,hr⟩
  ·rw [h0] at hn;simp at hn;omega
 ·cases hp;obtain ⟨b,cap,a,rfl,ha,ā,hr,_⟩:=hd.rO hm hb hn;refine ⟨B a,cap-lo,rfl,fun hlt=> ?_⟩;rcases ha with rfl | ha
  ·exact ⟨b,cap,rfl,ā,hr⟩
  ·obtain ⟨_,_,_,_,_,_,Ď,_⟩:=hr;omega
 ·cases hp
theorem KV (size n:N) (a:Δ Æ) (l1 l2 c1 c2:N):Builtin.firstCells size n (.slice a l1 c1)=Builtin.firstCells size n (.slice a l2 c2):=by cases a <;> rfl
theorem Hu {c:aD} (hc:cb c P) (hm:Mem g bs w) {st xt ty:V} {d x r:AV} {u v:H} {e:dy} {id:N} (hd:Rd g w d u) (hx:Rd g w x v) (h:xH c bs st d x=B (r,e)) {bs':I af} (he:e.on bs id=B bs'):
  di ((do pure (Next.value (<-Builtin.copy_ #[st,xt] ty #[u,v])):Sem Λ).run P w) g w bs' r:=by
 unfold xH at h;split at h
 ·rename_i i hi;obtain ⟨iinfo,hii⟩:=bS (hc.ty st i hi);split at h
  ·rename_i el hdesc;have hund:=hdesc▸hii.fM;split at h
   ·rename_i k hk;obtain ⟨info,hinf⟩:=bS (hc.ty el k hk);have hksz:=hinf.size;split at h
    ·rename_i sz xs Ĉ;split at h
     ·rename_i Č;obtain ⟨a,cap,rfl,İ⟩:=o6 hm hx Ĉ
      have ŧ: ∀(a2:Δ Æ) (ŏ:N),(Builtin.copy_ #[st,xt] ty #[.slice a2 0 ŏ,.slice a (É xs) cap]).run P w= .ok (.int .i64 0) w:=fun a2 ŏ=>by
       have h0:Ç (É xs) 0=0:=Nat.min_eq_right (Β _);cases a2 <;> cases a <;> simp [Builtin.copy_,C hund,Builtin.lenOf,sizeOf,typeInfo,hinf.info,h0,Builtin.firstCells,loadCells,loadCellsFrom,storeCells,goInt]
      unfold Co at h;split at h
      ·rename_i kb n lo Đ Ĺ;split at h
       ·rename_i sh sz2 es hb;split at h
        ·rename_i č;obtain ⟨hn,hlh,hhi,rfl,Ċ,Ġ⟩:=č;obtain ⟨a2,ŏ,rfl,hat⟩:=QF hm hd Ĺ hb hn hhi;split at h
         ·rename_i heq;cases h;cases he;subst heq;rw [Ϛ];exact .pure (aZ P w _ _ _ (ŧ a2 ŏ)) hm (.int _ _)
         ·rename_i hne;cases h;cases he;obtain ⟨b,ĩ,rfl,ā,hr⟩:=hat (by omega);obtain ⟨news,ă⟩:=qk (P:=P) (size:=k.size) (İ.take (Đ-lo)) (Č.imp (fun h=>h) (fun h0=>by rw [h0];simp));have Ć:(xs.take (Đ-lo)).length=Ç (É xs) (Đ-lo):=by rw [ϴ];exact Nat.min_comm _ _
          have hle:=List.length_take_le (Đ-lo) xs;obtain ⟨w',g',hst,m',l',f'⟩:=Nm (P:=P) hm hb ā hn hr (lo:=lo) (hi:=Đ) hhi Ċ Ġ ă (by omega);have hfst:=ă.first w (fun _=>rfl);rw [KV k.size _ a _ (É xs) _ cap] at hfst
          have Ā:(Builtin.copy_ #[st,xt] ty #[.slice (B ⟨b,lo*k.size,γ⟩) (Đ-lo) ŏ,.slice a (É xs) cap]).run P w= .ok (.int .i64 (xs.take (Đ-lo)).length) w':=by
           have hmin:Ç (É xs) (Đ-lo)=(xs.take (Đ-lo)).length:=Ć.symm;rw [<-hksz] at hfst;generalize (xs.take (Đ-lo)).length=m at*
           simp [Builtin.copy_,C hund,Builtin.lenOf,sizeOf,typeInfo,hinf.info,hmin,hfst,hst,goInt]
          exact ⟨_,_,_,_,aZ P w _ _ _ Ā,.inl rfl,m',l',f',.int _ _⟩
        ·cases h
       ·cases h
      ·split at h
       ·cases h;cases he;cases hd with
        | cG _ a2 Ł=>exact .pure (aZ P w _ _ _ (ŧ a2 0)) hm (.int _ _)
       ·cases h
     ·cases h
    ·cases h
   ·cases h
  ·cases h
 ·cases h
inductive bL (g:Gh) (w:η):I AV->I H->Prop where
 | nil:bL g w [] []
 | cons {x:AV} {v:H} {xs:I AV} {vs:I H} (h:Rd g w x v) (t:bL g w xs vs):bL g w (x::xs) (v::vs)
theorem bL.AO {t:Env} {a:Act} (ht:gv g w t a): ∀(l:I Operand),bL g w (ou t l) (l.map a.eval)
 | []=> .nil
 | x::r=> .cons (ht.ev x) (bL.AO ht r)
theorem QG {xs:I AV} {us:I H} (h:bL g w xs us): ∀{x r:AV} {u:H},Rd g w x u->Ko x xs=B r-> ∃v,(us.foldlM Builtin.min2 u:Sem H).run P w= .ok v w/\Rd g w r v:=by
 induction h with
 | nil=>intro x r u hx h;cases x <;> (cases h;exact ⟨u,rfl,hx⟩)
 | @cons y v ys vs hy _ ih=>
  intro x r u hx h;unfold Ko at h;split at h
  ·rename_i heq;cases heq
  ·rename_i k a k' b rest heq;cases heq;split at h
   ·rename_i hk;subst hk;obtain rfl:=hx.aU;obtain rfl:=hy.aU;obtain ⟨z,hz,rz⟩:=ih (.int _ _) h;exact ⟨z,by simpa [ϵ,Builtin.min2] using hz,rz⟩
   ·cases h
  ·cases h
theorem QH {xs:I AV} {us:I H} (h:bL g w xs us): ∀{x r:AV} {u:H},Rd g w x u->Kq x xs=B r-> ∃v,(us.foldlM Builtin.max2 u:Sem H).run P w= .ok v w/\Rd g w r v:=by
 induction h with
 | nil=>intro x r u hx h;cases x <;> (cases h;exact ⟨u,rfl,hx⟩)
 | @cons y v ys vs hy _ ih=>
  intro x r u hx h;unfold Kq at h;split at h
  ·rename_i heq;cases heq
  ·rename_i k a k' b rest heq;cases heq;split at h
   ·rename_i hk;subst hk;obtain rfl:=hx.aU;obtain rfl:=hy.aU;obtain ⟨z,hz,rz⟩:=ih (.int _ _) h;exact ⟨z,by simpa [ϵ,Builtin.max2] using hz,rz⟩
   ·cases h
  ·cases h
theorem Hv (hm:Mem g bs w) {ts:μ V} {ty:V} {x r:AV} {u:H} {e:dy} (hx:Rd g w x u) (h:D4 x bs=B (r,e)):
  e= .none/\ ∃v,(Builtin.unsafeSliceData_ ts ty #[u]).run P w= .ok v w/\Rd g w r v:=by
 unfold D4 at h;split at h
 ·cases h;obtain ⟨a,cap,rfl,Ł,Ŝ⟩:=hx.nH;have ha:a=none:=by have:=Ł _ rfl;simpa using this
  subst ha;exact ⟨rfl,_,ώ w ts ty _ _,.cn⟩
 ·rename_i k n;split at h
  ·rename_i sh sz es hb;split at h
   ·rename_i hn;cases h;obtain ⟨a,cap,rfl,İ,loc,ā,hr,hl⟩:=hx.kD hm hb hn;rcases hl with ⟨b,rfl,rfl⟩ | ⟨rfl,rfl,rfl,rfl⟩
    ·have hc0:cap≠0:=by obtain ⟨_,_,_,_,_,Ď,_⟩:=hr.2;omega
     refine ⟨rfl,_,Lib.run_unsafeSliceData_row w ts ty _ _ _ hc0,.cZ k n 0 0 n sz _ _ rfl ā (δ _) (fun _=> .inl ⟨b,cap,rfl,by simp⟩)⟩
    ·exact ⟨rfl,_,ώ w ts ty _ _,.cZ k n 0 0 n sz _ _ rfl ā (δ _) (fun _=> .inr ⟨rfl,hn,rfl⟩)⟩
   ·cases h
  ·cases h
 ·cases h
theorem vT: ∀{es:I AV} {s:I Χ},lV es=B s->es=s.map aq
 | [],s,h=>by cases h;rfl
 | .int .u8 n::r,s,h=>by
  simp only [lV] at h;split at h
  ·rename_i hn;cases hr:lV r with
   | none=>rw [hr] at h;cases h
   | some l=>
    rw [hr] at h;cases h;rw [vT hr];simp only [Á,aq,È,AV.int.injEq,true_and,and_true];have:n.toNat<256:=by omega
    simp only [UInt8.toNat_ofNat'];omega
  ·cases h
 | .int .i8 _::_,_,h | .int .i16 _::_,_,h | .int .i32 _::_,_,h | .int .i64 _::_,_,h | .int .u16 _::_,_,h | .int .u32 _::_,_,h | .int .u64 _::_,_,h=>by cases h
 | .any::_,_,h | .jZ::_,_,h | .bool _::_,_,h | .str _::_,_,h | .agg _::_,_,h | .aK _::_,_,h | .cn::_,_,h | .ptr _ _::_,_,h | .cZ _ _ _ _::_,_,h | .dB _::_,_,h | .ah _ _ _::_,_,h | .cG _::_,_,h | .aC _ _::_,_,h | .gO _ _ _ _::_,_,h | .fn _ _ _::_,_,h | .er::_,_,h | .il _::_,_,h | .mG _ _ _::_,_,h=>by cases h
theorem E2 {b:N} {c:μ H} {ty:V} {fz:N×N} (w:η) (h:w.heap[b]?=B (.cells c ty fz)) (n:N): ∃fz',(w.freeze ⟨b,0,γ⟩ n).heap[b]?=B (.cells c ty fz'):=by
 unfold World.freeze;split
 ·exact ⟨fz,h⟩
 ·obtain ⟨lo,hi⟩:=fz;simp only [Τ,θ,h,T];exact ⟨_,rfl⟩
theorem tM {b b2:N} (w:η) (n:N) (h:b2≠b):(w.freeze ⟨b,0,γ⟩ n).heap[b2]?=w.heap[b2]?:=by
 unfold World.freeze;split
 ·rfl
 ·simp [Τ,Ne.symm h]
theorem E3 {b:N} (w:η) (n:N):(w.freeze ⟨b,0,γ⟩ n).heap.size=w.heap.size:=by
 unfold World.freeze;split
 ·rfl
 ·simp
theorem Hw (hm:Mem g bs w) {t it ty:V} {k m:N} {n:Int} {sh:Hd} {ns:I Χ} {u:H} (hb:af.at bs k= .sl sh 1 (ns.map aq)) (hx:Rd g w (.cZ k m 0 0) u) (ş:n=(m:Int)) (hm0:m=0) (Ũ:m=(ns.map aq).length):
  di ((do pure (Next.value (<-Builtin.unsafeString_ #[t,it] ty #[u,.int .i64 n])):Sem Λ).run P w) g w (bs.set k (.sl ⟨sh.out,γ,γ⟩ 1 (ns.map aq))) (.str ns):=by
 obtain rfl:ns= []:=by
  cases ns with
  | nil=>rfl
  | cons a l=>simp at Ũ;omega
 subst hm0;obtain ⟨loc,ā,hr⟩:=hm.sl k sh 1 _ hb;have hk:k<É bs:=fA (by rw [hb];simp)
 have hu: ∃a,u= .pointer a:=by
  cases hx with
  | cZ _ _ _ _ m' Ĝ loc' _ h1 h hle hv=>
   rw [ā] at h;cases h;rcases hv rfl with ⟨b,cap,_,rfl⟩ | ⟨_,_,rfl⟩
   ·exact ⟨_,rfl⟩
   ·exact ⟨_,rfl⟩
 obtain ⟨a,rfl⟩:=hu
 have hle:Le g w (g.eQ k (g.e k) g.S) w:=⟨fun _ _ h=>h,fun b o _=>rfl,fun j=>by
  by_cases e:k=j
  ·subst e;rw [Gh.bo];exact .same _
  ·rw [Gh.bj _ _ _ e];exact .same _⟩
 obtain ⟨m',l',f'⟩:=Mem.upd (id:=k) (x:= .sl ⟨sh.out,γ,γ⟩ 1 (([]:I Χ).map aq)) (ge:=g.e k) (S':=g.S) (w':=w) hm hk (fun _ _ h=>h) (fun b o _=>rfl) (.same _)
  (fun b2 ė hne=>rfl) (δ _) (fun b2 h=> .inl h) (by simp) (fun _ _ h=>by cases h)
  (fun sh' Ĝ ċ į=>by
   cases į;refine ⟨loc,ā,hr.1,?_⟩;cases loc with
   | none=>exact hr.2
   | some p=>
    obtain ⟨cc,ļ,fz,hh,đ,Ď,ŕ,ĝ,Ċ⟩:=hr.2;exact ⟨cc,ļ,fz,hh,đ,Ď,fun t ht=>(by cases ht),fun i j e x v a1 a2 a3=>⟨(ĝ i j e x v a1 a2 a3).1.mono hle,(ĝ i j e x v a1 a2 a3).2⟩,Ċ.1,fun _ _ _ _ h=>(by cases h)⟩)
  (fun b2 o h=> .inl h) (fun b2 o hs Ă=>by
   obtain ⟨ty',Ĝ,ċ,h3,h4⟩:=(hm.dh b2 o hs).2 k Ă;rw [hb] at h3;cases h3;exact ⟨_,_,_,rfl,h4⟩) rfl rfl rfl
 subst ş;exact ⟨_,_,_,_,aZ P w _ _ _ (ϒ w t it ty a),.inl rfl,m',l',f',.str []⟩
theorem Hx {c:aD} (hc:cb c P) (hm:Mem g bs w) {t it ty u':V} (ht:P.underlying t=B (.pointer u')) {x n r:AV} {u v:H} {e:dy} {id:N} (hx:Rd g w x u) (hn:Rd g w n v) (h:D5 c u' x n bs=B (r,e)) {bs':I af} (he:e.on bs id=B bs'):
  di ((do pure (Next.value (<-Builtin.unsafeString_ #[t,it] ty #[u,v])):Sem Λ).run P w) g w bs' r:=by
 unfold D5 at h;split at h
 ·cases h;cases he;obtain rfl:=hx.kC;obtain rfl:=hn.aU;exact .pure (aZ P w _ _ _ (ϒ w t it ty γ)) hm (.str [])
 ·rename_i k m n;split at h
  ·rename_i sh sz es j hb hj;split at h
   ·rename_i č;obtain ⟨Ũ,ş,Ġ,rfl,hj1,Ħ⟩:=č;cases hbs:lV es with
    | none=>rw [hbs] at h;cases h
    | some ns=>
     rw [hbs] at h;cases h;cases he;obtain rfl:=vT hbs;obtain rfl:=hn.aU;obtain ⟨info,hi⟩:=bS (hc.ty u' j hj);by_cases hm0:m=0
     ·exact Hw hm hb hx ş hm0 Ũ
     obtain ⟨b,cap,ā,rfl,Ĥ⟩:=hx.sY hm hb Ũ hm0;obtain ⟨loc,ĕ,hr⟩:=hm.sl k sh 1 _ hb;have hsr:=Ĥ;obtain ⟨cc,ļ,fz,hh,đ,Ď,ŕ,ĝ,Ċ⟩:=Ĥ;obtain ⟨rfl,hf⟩:=ŕ _ Ġ;have hk:k<É bs:=fA (by rw [hb];simp);rw [ρ] at Ũ Ď;have hsh:w.shape? b=B (u',cc.size):=by simp [World.shape?,hh]
     have Ā:=Lib.run_unsafeString_row (P:=P) w t it ty u' ht (by simp [Program.cellsOf,hi.info,hi.size,hj1]) b cc.size hsh ns (fun h0=>hm0 (by rw [Ũ,h0];rfl)) (by omega) (by unfold cx at Ħ;omega) (fun j x hx=>by
      have hj:=al hx;obtain ⟨v,hv,rv,_⟩:=hsr.xa hr.1 (i:=j) (e:=aq x) (by rw [ι,hx];rfl) 0 (aq x) rfl;obtain rfl:=rv.aU;rw [addr_add];simpa using hv)
     obtain ⟨fz',hfz⟩:=E2 w hh (É ns)
     have ą: ∀b2 o,(w.freeze ⟨b,0,γ⟩ (É ns)).cell? ⟨b2,o,γ⟩=w.cell? ⟨b2,o,γ⟩:=fun b2 o=>by
      by_cases e:b2=b
      ·subst e;rw [eT hfz,eT hh]
      ·exact cr (tM w _ e) o
     have hle:Le g w (g.eQ k (g.e k) g.S) (w.freeze ⟨b,0,γ⟩ (É ns)):=⟨fun _ _ h=>h,fun b o _=>ą b o,fun j=>by
      by_cases e:k=j
      ·subst e;rw [Gh.bo];exact .same _
      ·rw [Gh.bj _ _ _ e];exact .same _⟩
     obtain ⟨m',l',f'⟩:=Mem.upd (id:=k) (x:= .sl ⟨sh.out,γ,γ⟩ 1 (ns.map aq)) (ge:=g.e k) (S':=g.S) hm hk (fun _ _ h=>h) (fun b o _=>ą b o) (.same _)
      (fun b2 ė hne=>tM w _ (fun e=>hne (by rw [ā,e];rfl))) (by rw [E3];exact δ _) (fun b2 h=> .inl h) (by simp) (fun _ _ h=>by cases h)
      (fun sh' Ĝ ċ į=>by
       cases į;refine ⟨B (b,cap),by rw [ā,ρ,Ũ],hr.1,cc,u',fz',hfz,đ,by rw [ρ];exact Ď,fun t ht=>(by cases ht),fun i j e x v a1 a2 a3=>⟨(ĝ i j e x v a1 a2 a3).1.mono hle,(ĝ i j e x v a1 a2 a3).2⟩,Ċ.1,fun _ _ _ _ h=>(by cases h)⟩)
      (fun b2 o h=> .inl h) (fun b2 o hs Ă=>by
       obtain ⟨ty',Ĝ,ċ,h3,h4⟩:=(hm.dh b2 o hs).2 k Ă;rw [hb] at h3;cases h3;exact ⟨_,_,_,rfl,h4⟩) (by unfold World.freeze;split <;> rfl) (by unfold World.freeze;split <;> rfl) (by unfold World.freeze;split <;> rfl)
     have hnm':(n:Int)=(É ns:Int):=by rw [ş,Ũ]
     rw [hnm'];refine ⟨_,_,_,_,aZ P w _ _ _ (by simpa using Ā),.inl rfl,m',l',f',.str _⟩
   ·cases h
  ·cases h
 ·cases h
theorem zU {c:aD} (hc:cb c P) (hm:Mem g bs w) {b:Builtin} {argTypes:μ V} {type:V} {consts:μ ϟ} {xs:I AV} {vs:μ H} {r:AV} {e:dy} {id:N} (hx:bL g w xs vs.toList)
  (h:eR c b argTypes.toList xs bs id=B (r,e)) {bs':I af} (he:e.on bs id=B bs'):di ((builtin b argTypes type consts vs).run P w) g w bs' r:=by
 obtain ⟨ts⟩:=argTypes;obtain ⟨vs⟩:=vs;simp only at hx h;unfold eR at h;split at h
 ·split at h
  ·rename_i t x;split at h
   ·rename_i i hi;cases hx with
    | cons hx ht=>cases ht;obtain ⟨rfl,v,hv,rv⟩:=Kz hc hm (ty:=type) hi hx h;cases he;exact .pure (v:=v) (by simp only [builtin];exact aZ P w _ _ _ hv) hm rv
   ·cases h
  ·cases h
 ·split at h
  ·rename_i st xt s x;cases hx with
   | cons hs ht=>cases ht with
    | cons hx ht=>cases ht;simp only [builtin];exact C9 hc hm hs hx h he
  ·cases h
 ·split at h
  ·rename_i x rest;cases hx with
   | cons hx ht=>
    cases hmn:Ko x rest with
    | none=>rw [hmn] at h;cases h
    | some y=>rw [hmn] at h;cases h;cases he;obtain ⟨v,hv,rv⟩:=QG (P:=P) ht hx hmn;exact .pure (v:=v) (by simp only [builtin,Builtin.min_];exact aZ P w _ _ _ hv) hm rv
  ·cases h
 ·split at h
  ·rename_i x rest;cases hx with
   | cons hx ht=>
    cases hmn:Kq x rest with
    | none=>rw [hmn] at h;cases h
    | some y=>rw [hmn] at h;cases h;cases he;obtain ⟨v,hv,rv⟩:=QH (P:=P) ht hx hmn;exact .pure (v:=v) (by simp only [builtin,Builtin.max_];exact aZ P w _ _ _ hv) hm rv
  ·cases h
 ·split at h
  ·cases hx with
   | cons hx ht=>cases ht;obtain ⟨rfl,v,hv,rv⟩:=Hv (P:=P) hm (ts:=⟨ts⟩) (ty:=type) hx h;cases he;exact .pure (v:=v) (by simp only [builtin];exact aZ P w _ _ _ hv) hm rv
  ·cases h
 ·split at h
  ·rename_i t it x n;split at h
   ·rename_i u' Œ
    have hu:P.underlying t=B (.pointer u'):=by
     unfold aD.descOf at Œ;cases ht:c.ti t with
     | none=>rw [ht] at Œ;cases Œ
     | some i=>rw [ht] at Œ;obtain ⟨info,hi⟩:=bS (hc.ty t i ht);simp only [T,E] at Œ;rw [<-Œ];exact hi.fM
    cases hx with
    | cons hx ht=>cases ht with
     | cons hn ht=>cases ht;simp only [builtin];exact Hx hc hm hu hx hn h he
   ·cases h
  ·cases h
 ·split at h
  ·rename_i st xt d x;cases hx with
   | cons hd ht=>cases ht with
    | cons hx ht=>cases ht;simp only [builtin];exact Hu hc hm hd hx h he
  ·cases h
 ·cases h
theorem bL.get {xs:I AV} {vs:I H} (h:bL g w xs vs):É xs=É vs/\ ∀(i:N) (x:AV) (v:H),xs[i]?=B x->vs[i]?=B v->Rd g w x v:=by
 induction h with
 | nil=>exact ⟨rfl,fun i x v h=>by simp at h⟩
 | cons h _ ih=>
  refine ⟨by simp [ih.1],fun i x v hx hv=> ?_⟩;cases i with
  | zero=>simp at hx hv;subst hx;subst hv;exact h
  | succ i=>simp at hx hv;exact ih.2 i x v hx hv
set_option maxHeartbeats 400000 in
theorem KW {c:aD} (hc:cb c P) (hm:Mem g bs w) {t:Env} {a:Act} (ht:gv g w t a) {o:Oper} {r:AV} {e:dy} {id:N} (h:gn c o.op t bs id=B (r,e)) {bs':I af} (he:e.on bs id=B bs'):
  di ((execOp a.eval o).run P w) g w bs' r:=by
 obtain ⟨dst,op,type,pos,after,guard⟩:=o;simp only at h;cases op with
 | move x=>cases h;cases he;exact .pure (v:=a.eval x) rfl hm (ht.ev x)
 | assign x=>cases h;cases he;exact .pure (v:=a.eval x) rfl hm (ht.ev x)
 | pick x y z=>obtain ⟨rfl,h'⟩:=G6 (P:=P) hm (ht.ev x) (ht.ev y) (ht.ev z) h;cases he;exact h'
 | alloc el=>exact Ei hc hm h he
 | box el x=>exact KB hm (ht.ev x) h he
 | build ty parts=>obtain ⟨rfl,h'⟩:=El hc hm (qs:=parts.map fun p=>(p.1,a.eval p.2)) (by simpa using uJ ht parts.toList) h;cases he;exact h'
 | buildSlice ty len parts=>simp only [gn] at h;have key:=tL (P:=P) hc hm (qs:=parts.map fun (i,x)=>(i,a.eval x)) (by rw [Array.toList_map];exact uJ ht parts.toList) h he;simp only [execOp];exact key
 | load ty x=>obtain ⟨rfl,h'⟩:=G8 hc hm (ht.ev x) h;cases he;exact h'
 | store ty x y=>simp only [gn] at h;exact E1 hc hm (ht.ev x) (ht.ev y) h he
 | makeInterface ty x=>exact Eb hc hm (ht.ev x) h he
 | nilCheck x=>obtain ⟨rfl,h'⟩:=xQ (P:=P) (o:=⟨dst,.nilCheck x,type,pos,after,guard⟩) (a:=a) hm rfl (ht.ev x) h;cases he;exact h'
 | binOp op ty x y ty'=>
  simp only [gn] at h;cases hb:Km c ty op y (ev t x) (ev t y) with
  | none=>rw [hb] at h;cases h
  | some z=>
   rw [hb] at h;cases h;cases he;unfold Km at hb;split at hb
   ·rename_i hq;refine Ky hc hm (ht.ev x) hb x y hq ?_;unfold Kl at hq;split at hq
    ·rfl
    ·cases hq
   ·exact Kx hc hm (ht.ev x) (ht.ev y) hb x y
 | unOp op ty x=>
  simp only [gn] at h;cases hb:P4 op (ev t x) with
  | none=>rw [hb] at h;cases h
  | some z=>rw [hb] at h;cases h;cases he;exact ML hm (ht.ev x) hb
 | convert src dst x=>simp only [gn] at h;exact zT hc hm (ht.ev x) h he
 | makeFunc fn first caps=>
  cases fn with
  | func f=>cases h;cases he;obtain ⟨h1,h2⟩:=(bL.AO ht first.toList).get;obtain ⟨h3,h4⟩:=(bL.AO ht caps.toList).get;exact .pure (v:= .func (.func f) (first.map a.eval) (caps.map a.eval)) rfl hm (.fn f _ _ _ _ (by simp [h1]) (by simp [h3]) (fun i c v hc hv=>h2 i c v hc (by simpa using hv)) (fun i c v hc hv=>h4 i c v hc (by simpa using hv)))
  | _=>cases h
 | makeSlice ty l m=>simp only [gn] at h;exact wT hc hm (ht.ev l) (ht.ev m) h he
 | slice ty x lo hi mx=>
  simp only [gn] at h;split at h
  ·rename_i i hi;cases mx with
   | none=>exact CE hc hm hi (ht.ev x) (xb ht lo) (xb ht _) h he
   | some m=>obtain ⟨rfl,h'⟩:=CF (P:=P) (vm:=some (a.eval m)) hc hm hi (ht.ev x) (xb ht lo) (xb ht _) (ht.ev m) h;cases he;exact h'
  ·cases h
 | fieldAddr ty x f=>obtain ⟨rfl,h'⟩:=wP hc hm (ht.ev x) h;cases he;exact h'
 | field ty x f=>obtain ⟨rfl,h'⟩:=Ed hc hm (ht.ev x) h;cases he;exact h'
 | indexAddr ty x y=>obtain ⟨rfl,h'⟩:=wQ hc hm (ht.ev x) (ht.ev y) h;cases he;exact h'
 | index ty x y=>obtain ⟨rfl,h'⟩:=Ec hc hm (ht.ev x) (ht.ev y) h;cases he;exact h'
 | extract x i=>obtain ⟨rfl,h'⟩:=zL (P:=P) hm (ht.ev x) h;cases he;exact h'
 | makeMap ty r=>
  simp only [gn] at h
  exact zR hc hm (ov:=r.map a.eval) (fun x hx=>by
   cases r with
   | none=>cases hx
   | some y=>cases hx;exact ⟨_,rfl,ht.ev y⟩) (fun hx=>by
   cases r with
   | none=>rfl
   | some y=>cases hx) h he
 | range ty x=>exact EW hc hm (ht.ev x) h he
 | next x str=>exact Hq hm (ht.ev x) h he
 | lookup ty x k ok=>obtain ⟨rfl,h'⟩:=C3 hc hm (ht.ev x) (ht.ev k) h;cases he;exact h'
 | mapUpdate ty m k x=>exact oE hc hm (ht.ev m) (ht.ev k) (ht.ev x) h he
 | insert ty m k x=>exact oE hc hm (ht.ev m) (ht.ev k) (ht.ev x) h he
 | mapEntry ty m k=>exact yw hc hm (ht.ev m) (ht.ev k) h he
 | entryStore ty m s x=>exact uV (P:=P) hm (ht.ev m) (ht.ev s) (ht.ev x) h he
 | entry x=>obtain ⟨rfl,h'⟩:=EV (P:=P) hm (ht.ev x) h;cases he;exact h'
 | call k=>
  obtain ⟨callee,args,argTypes⟩:=k;simp only [gn] at h;split at h
  ·simp only [execOp,resolve,invoke,Sem.run_bind,Sem.run_pure,Result.andThen_ok];exact zU hc hm (vs:=args.map a.eval) (by simpa using bL.AO ht args.toList) h he
  ·cases h
 | _=>cases h
end
end Go.Am
namespace Go.Am
variable [Kn]
section
variable {P:υ} {g:Gh} {bs:I af} {w:η}
theorem lI (bs:I af) (n k:N):af.at ((bs.take n).map (b9 n)) k=if k<n then b9 n (af.at bs k) else .dead:=by
 simp only [af.at,M,ι,ε];split
 ·cases bs[k]? <;> rfl
 ·rfl
def Gh.hand (g:Gh) (bs:I af) (n:N):Gh:=
 {S:=fun b o=>g.S b o\/ ∃k sh sz es,n<=k/\af.at bs k= .sl sh sz es/\(g.e k).bM=B b/\o<É es*sz,e:=fun k=>if k<n then g.e k else .no}
theorem kO {n k b:N} (h:((g.hand bs n).e k).bM=B b):k<n/\(g.e k).bM=B b:=by
 simp only [Gh.hand] at h;split at h
 ·exact ⟨‹_›,h⟩
 ·cases h
theorem Rd.bD (n:N) {d:AV} {v:H} (h:Rd g w d v) (hu:d.under n=κ):Rd (g.hand bs n) w d v:=by have h1:=h.cut n hu;exact h1.mono (g:=g.cut n) (g':=g.hand bs n) (w:=w) ⟨fun _ _ hs=>Or.inl hs,fun _ _ _=>rfl,fun k=> .same _⟩
theorem Rd.lF (n:N) {d:AV} {v:H} (h:Rd g w d v):Rd (g.hand bs n) w (Am.forget n d) v:=by have h1:=h.forget n;exact h1.mono (g:=g.cut n) (g':=g.hand bs n) (w:=w) ⟨fun _ _ hs=>Or.inl hs,fun _ _ _=>rfl,fun k=> .same _⟩
theorem tN (n:N) (sh:Hd):(fw n sh).out=sh.out:=by
 unfold fw;split
 ·split <;> rfl
 ·rfl
theorem E4 (n:N) (sh:Hd):(fw n sh).ty=sh.ty:=by
 unfold fw;split
 ·split <;> rfl
 ·rfl
theorem zV {n:N} {sh:Hd} {i j k m:N} (h:(fw n sh).link=B (i,j,k,m)):sh.link=B (i,j,k,m)/\k<n:=by
 unfold fw at h;split at h
 ·rename_i hs;split at h
  ·rename_i hk;rw [hs] at h;cases h;exact ⟨hs,hk⟩
  ·cases h
 ·rename_i hs;rw [hs] at h;cases h
theorem Da (n:N) {x:AV} (h:gE x=κ):gE (Am.forget n x)=true:=by
 unfold Am.forget;split
 ·exact h
 ·rfl
theorem Mem.hand (hm:Mem g bs w) (n:N):Mem (g.hand bs n) ((bs.take n).map (b9 n)) w/\Fr g w (g.hand bs n) w:=by
 have hle: ∀{x:AV} {v:H},Rd g w x v->x.plain=true->Rd (g.hand bs n) w x v:=fun h hp=>h.aT (g':=g.hand bs n) (fun _ _ hs=>Or.inl hs) (fun _ _ _=>rfl) hp;refine ⟨⟨fun k hk=> ?_,fun k ty cs hk=> ?_,fun k sh sz es hk=> ?_,fun k st hk=> ?_,fun k es clock hk=> ?_,fun k hk=> ?_,fun k o hk=> ?_,fun k l b hk hl=> ?_,fun b o hb=> ?_,fun p hp=>⟨(hm.kn p hp).1,fun k hk=>(hm.kn p hp).2 k (kO hk).2⟩⟩,⟨δ _,fun b hb hne=>⟨rfl,fun k hk=>hne k (kO hk).2,fun o ho=> ?_⟩,rfl,rfl,rfl⟩⟩
 ·rw [lI] at hk;simp only [Gh.hand];split
  ·rename_i Ī;rw [θ Ī] at hk;refine hm.no k ?_;cases hb:af.at bs k with
   | dead=>rfl
   | var ty cs=>rw [hb] at hk;cases hk
   | sl sh sz es=>rw [hb] at hk;cases hk
   | loop st=>rw [hb] at hk;cases hk
   | mp es clock=>rw [hb] at hk;cases hk
   | gone=>rw [hb] at hk;cases hk
   | iter o=>rw [hb] at hk;cases hk
  ·rfl
 ·rw [lI] at hk;split at hk
  ·rename_i Ī;cases hb:af.at bs k with
   | dead=>rw [hb] at hk;cases hk
   | sl sh sz es=>rw [hb] at hk;cases hk
   | loop st=>rw [hb] at hk;cases hk
   | mp es clock=>rw [hb] at hk;cases hk
   | gone=>rw [hb] at hk;cases hk
   | iter o=>rw [hb] at hk;cases hk
   | var ty' ĭ=>
    rw [hb] at hk;simp only [b9,af.var.injEq] at hk;obtain ⟨rfl,rfl⟩:=hk;obtain ⟨b,ā,c,h1,h2,h4⟩:=hm.var k ty' ĭ hb;refine ⟨b,by simp only [Gh.hand,Ī,Ϝ];exact ā,c,h1,by rw [ρ];exact h2,fun j x v hx hv=> ?_⟩;rw [ι] at hx;cases hj:ĭ[j]? with
    | none=>rw [hj] at hx;cases hx
    | some y=>rw [hj] at hx;cases hx;exact (h4 j y v hj hv).lF n
  ·cases hk
 ·rw [lI] at hk;split at hk
  ·rename_i Ī;cases hb:af.at bs k with
   | dead=>rw [hb] at hk;cases hk
   | var ty cs=>rw [hb] at hk;cases hk
   | loop st=>rw [hb] at hk;cases hk
   | mp es clock=>rw [hb] at hk;cases hk
   | gone=>rw [hb] at hk;cases hk
   | iter o=>rw [hb] at hk;cases hk
   | sl sh' Ĝ ċ=>
    rw [hb] at hk;simp only [b9,af.sl.injEq] at hk;obtain ⟨rfl,rfl,rfl⟩:=hk;obtain ⟨loc,ā,hr⟩:=hm.sl k sh' Ĝ ċ hb;refine ⟨loc,by simp only [Gh.hand,Ī,Ϝ];exact ā,hr.1,?_⟩;cases loc with
    | none=>exact hr.2
    | some p=>
     obtain ⟨b,cap⟩:=p;obtain ⟨c,ty,fz,h1,h2,h3,h4,h5,h6,h7⟩:=hr.2;refine ⟨c,ty,fz,h1,h2,h3,by rw [E4,tN];exact h4,fun i j e x v he hx hv=> ?_,fun hs o ho=> .inl (h6 (by rwa [tN] at hs) o ho),fun i j k' m hl v hv hi=> ?_⟩
     rotate_left
     ·obtain ⟨l1,l2⟩:=zV hl;exact (h7 i j k' m l1 v hv hi).bD n (by simpa [AV.under] using l2)
     have:=h5 i j e x v he hx hv;refine ⟨hle this.1 ?_,this.2⟩;have hp:=(hr.1 i e he).1
     cases e <;> simp only [AV.cells] at hx <;> first
      | (simp only [AV.plain] at hp;exact bZ hp hx)
      | (cases j with
         | zero => simp at hx; rw [<- hx]; exact hp
         | succ j => simp at hx)
  ·cases hk
 ·rw [lI] at hk;split at hk
  ·rename_i Ī;cases hb:af.at bs k with
   | dead=>rw [hb] at hk;cases hk
   | var ty cs=>rw [hb] at hk;cases hk
   | sl sh sz es=>rw [hb] at hk;cases hk
   | mp es clock=>rw [hb] at hk;cases hk
   | gone=>rw [hb] at hk;cases hk
   | iter o=>rw [hb] at hk;cases hk
   | loop st'=>rw [hb] at hk;simp only [b9,af.loop.injEq] at hk;subst hk;obtain ⟨b,r,ā,hr⟩:=hm.loop k st' hb;exact ⟨b,r,by simp only [Gh.hand,Ī,Ϝ];exact ā,hr⟩
  ·cases hk
 ·rw [lI] at hk;split at hk
  ·rename_i Ī;cases hb:af.at bs k with
   | dead=>rw [hb] at hk;cases hk
   | var ty cs=>rw [hb] at hk;cases hk
   | sl sh sz es=>rw [hb] at hk;cases hk
   | loop st=>rw [hb] at hk;cases hk
   | gone=>rw [hb] at hk;cases hk
   | iter o=>rw [hb] at hk;cases hk
   | mp ċ ć=>
    rw [hb] at hk;simp only [b9,af.mp.injEq] at hk;obtain ⟨rfl,rfl⟩:=hk;obtain ⟨b,ā,ents,h1,h2,h3⟩:=hm.mp k ċ ć hb;refine ⟨b,by simp only [Gh.hand,Ī,Ϝ];exact ā,ents,h1,by rw [ρ];exact h2,fun i e m he ŋ=> ?_⟩;rw [ι] at he;cases hj:ċ[i]? with
    | none=>rw [hj] at he;cases he
    | some y=>rw [hj] at he;cases he;obtain ⟨⟨k1,k2⟩,⟨k3,k4⟩,k5⟩:=h3 i y m hj ŋ;exact ⟨⟨k1,hle k2 (Ku k1)⟩,⟨Da n k3,k4.lF n⟩,k5⟩
  ·cases hk
 ·rw [lI] at hk;split at hk
  ·rename_i Ī;cases hb:af.at bs k with
   | gone=>obtain ⟨m,sz,h1⟩:=hm.gone k hb;exact ⟨m,sz,by simp only [Gh.hand,Ī,Ϝ];exact h1⟩
   | _=>rw [hb] at hk;cases hk
  ·cases hk
 ·rw [lI] at hk;split at hk
  ·rename_i Ī;cases hb:af.at bs k with
   | iter o'=>rw [hb] at hk;cases hk;obtain ⟨b,h1,h2⟩:=hm.it k _ hb;exact ⟨b,by simp only [Gh.hand,Ī,Ϝ];exact h1,h2.mono (fun j c hj hg=>by simp only [Gh.hand];rw [θ (by omega)];exact hg) rfl⟩
   | _=>rw [hb] at hk;cases hk
  ·cases hk
 ·exact hm.inj k l b (kO hk).2 (kO hl).2
 ·rcases hb with hb | ⟨k,sh,sz,es,hk,hbx,Ă,ho⟩
  ·obtain ⟨h1,h2⟩:=hm.dh b o hb;refine ⟨h1,fun k hk=> ?_⟩;obtain ⟨Ī,hk'⟩:=kO hk;obtain ⟨ty,sz,es,h3,h4⟩:=h2 k hk';exact ⟨ty,sz,es,by rw [lI,θ Ī,h3];rfl,h4⟩
  ·refine ⟨hm.cR Ă,fun l hl=> ?_⟩;obtain ⟨hln,hl'⟩:=kO hl;have:=hm.inj l k b hl' Ă;omega
 ·rcases ho with ho | ⟨k,sh,sz,es,hk,hbx,Ă,_⟩
  ·exact ho
  ·exact ξ Ă (hne k)
theorem Mem.Nn (hm:Mem g bs w) {n:N} (hn:É bs<=n):Mem (g.hand bs n) bs w/\ ∀k,(g.hand bs n).e k=g.e k:=by
 have hS: ∀b o,(g.hand bs n).S b o->g.S b o:=fun b o hs=>by
  rcases hs with hs | ⟨k,sh,sz,es,hk,hbx,_⟩
  ·exact hs
  ·have:=fA (bs:=bs) (k:=k) (by rw [hbx];simp);omega
 have he: ∀k,(g.hand bs n).e k=g.e k:=fun k=>by
  simp only [Gh.hand];split
  ·rfl
  ·refine (hm.no k ?_).symm;simp [af.at,M,ψ (by omega:É bs<=k)]
 have hle:Le g w (g.hand bs n) w:=⟨fun _ _ hs=>Or.inl hs,fun _ _ _=>rfl,fun k=>by rw [he];exact .same _⟩;refine ⟨⟨fun k hk=>by rw [he];exact hm.no k hk,fun k ty cs hk=> ?_,fun k sh sz es hk=> ?_,fun k st hk=>by rw [he];exact hm.loop k st hk,fun k es clock hk=> ?_,fun k hk=>by rw [he];exact hm.gone k hk,fun k o hk=>by rw [he];obtain ⟨b,h1,h2⟩:=hm.it k o hk;exact ⟨b,h1,h2.mono (fun j c _ hj=>by rw [he];exact hj) rfl⟩,fun k l b hk hl=> ?_,fun b o hb=> ?_,fun p hp=>⟨(hm.kn p hp).1,fun k hk=>by rw [he] at hk;exact (hm.kn p hp).2 k hk⟩⟩,he⟩
 ·obtain ⟨b,h1,h2⟩:=hm.var k ty cs hk;exact ⟨b,by rw [he];exact h1,h2.mono hle rfl⟩
 ·obtain ⟨loc,h1,h2⟩:=hm.sl k sh sz es hk;exact ⟨loc,by rw [he];exact h1,h2.mono hle (fun _ _=>rfl)⟩
 ·obtain ⟨b,h1,h2⟩:=hm.mp k es clock hk;exact ⟨b,by rw [he];exact h1,h2.mono hle rfl⟩
 ·rw [he] at hk hl;exact hm.inj k l b hk hl
 ·obtain ⟨h1,h2⟩:=hm.dh b o (hS b o hb);exact ⟨h1,fun k hk=>by rw [he] at hk;exact h2 k hk⟩
theorem QI (hm:Mem g bs w) {k m n:N} {v:H} (h:Rd g w (.aC k m) v) (hk:n<=k) {sh:Hd} {sz:N} {es:I AV} (hb:af.at bs k= .sl sh sz es) (hn:m=É es):Rd (g.hand bs n) w (.ah γ sz es) v:=by
 obtain ⟨a,cap,rfl,Ĉ,loc,ā,hr,hl⟩:=h.kD hm hb hn
 have Ĭ:dE (g.hand bs n) w sz es a cap:=⟨fun hne=>by
  obtain ⟨b,off,ha,đ⟩:=Ĉ.at_ hne;refine ⟨b,off,ha,fun i e he j x hx=> ?_⟩;obtain ⟨v,hv,rv,ov⟩:=đ i e he j x hx;refine ⟨v,hv,rv.aT (g':=g.hand bs n) (fun _ _ hs=>Or.inl hs) (fun _ _ _=>rfl) ?_,ov⟩;have hp:=(Ĉ.ok i e he).1
  cases e <;> simp only [AV.cells] at hx <;> first
   | (simp only [AV.plain] at hp;exact bZ hp hx)
   | (cases j with
      | zero => simp at hx; rw [<- hx]; exact hp
      | succ j => simp at hx), Ĉ.ok, Ĉ.nil, Ĉ.cap⟩
 have:=sZ (h:=É es) (l:=0) γ Ĭ (fun x h=>by cases h) (fun b off ū i j e x he hx=>by
  have hne:es≠ []:=by intro h0;rw [h0] at he;cases he
  rcases hl with ⟨b',rfl,rfl⟩ | ⟨_,h0,_⟩
  ·simp only [E,Addr.mk.injEq,and_true] at ū;obtain ⟨rfl,rfl⟩:=ū;refine .inr ⟨k,sh,sz,es,hk,hb,by rw [ā];rfl,?_⟩;have hlt:=al he;have Ų:=al hx;rw [(Ĉ.ok _ _ he).2] at Ų;have:(i+1)*sz<=É es*sz:=J _ hlt;rw [O] at this;omega
  ·exact ξ h0 hne) (Β _) (δ _)
 simp only [Ϡ,ϳ,ό,Ι] at this
 have ha:(if cap=0 then a else a.map (·.add 0))=a:=by
  split
  ·rfl
  ·cases a with
   | none=>rfl
   | some a=>simp [Addr.add]
 rw [ha] at this;exact this
theorem QJ (hm:Mem g bs w) {k m n lo hi:N} {v:H} (h:Rd g w (.gO k m lo hi) v) (hk:n<=k) {sh:Hd} {sz:N} {es:I AV} (hb:af.at bs k= .sl sh sz es) (hn:m=É es) (hlh:lo<=hi) (hh:hi<=m):Rd (g.hand bs n) w (.ah γ sz ((es.take hi).drop lo)) v:=by
 obtain ⟨b,cap,a,rfl,ha,ā,hr,Ĉ⟩:=h.rO hm hb hn
 have Ĭ:dE (g.hand bs n) w sz es (B ⟨b,0,γ⟩) cap:=⟨fun hne=>by
  obtain ⟨b,off,ha,đ⟩:=Ĉ.at_ hne;refine ⟨b,off,ha,fun i e he j x hx=> ?_⟩;obtain ⟨v,hv,rv,ov⟩:=đ i e he j x hx;refine ⟨v,hv,rv.aT (g':=g.hand bs n) (fun _ _ hs=>Or.inl hs) (fun _ _ _=>rfl) ?_,ov⟩;have hp:=(Ĉ.ok i e he).1
  cases e <;> simp only [AV.cells] at hx <;> first
   | (simp only [AV.plain] at hp;exact bZ hp hx)
   | (cases j with
      | zero => simp at hx; rw [<- hx]; exact hp
      | succ j => simp at hx), Ĉ.ok, Ĉ.nil, Ĉ.cap⟩
 exact Eh Ĭ (fun o ho=> .inr ⟨k,sh,sz,es,hk,hb,by rw [ā];rfl,ho⟩) ha hlh (by omega)
mutual
theorem CX (hm:Mem g bs w) (n:N): ∀(d d':AV) (v:H),Rd g w d v->d.hand n bs=B d'->d'.under n=true->Rd (g.hand bs n) w d' v
 | .aC k m,d',v,h,hh,hu=>by
  simp only [AV.hand] at hh;split at hh
  ·cases hh;exact h.bD n hu
  ·rename_i hk;split at hh
   ·rename_i sh sz es hb;split at hh
    ·rename_i ŋ;cases hh;exact QI hm h (by omega) hb ŋ
    ·cases hh
   ·cases hh
 | .gO k m lo hi,d',v,h,hh,hu=>by
  simp only [AV.hand] at hh;split at hh
  ·cases hh;exact h.bD n hu
  ·rename_i hk;split at hh
   ·rename_i sh sz es hb;split at hh
    ·rename_i ŋ;cases hh;exact QJ hm h (by omega) hb ŋ.1 ŋ.2.1 ŋ.2.2
    ·cases hh
   ·cases hh
 | .agg cs,d',v,h,hh,hu=>by
  simp only [AV.hand] at hh;cases hc:lx n bs cs with
  | none=>rw [hc] at hh;cases hh
  | some ĭ=>rw [hc] at hh;cases hh;simp only [AV.under] at hu;obtain ⟨vs,rfl,hn,h'⟩:=h.eI;obtain ⟨h1,h2⟩:=sb hm n cs ĭ vs.toList (by simpa using hn.symm) (fun i c v hc hv=>h' i c v hc (by simpa using hv)) hc hu;exact .agg _ _ (by rw [<-h1,hn]) (fun i c v hc hv=>h2 i c v hc (by simpa using hv))
 | .aK cs,d',v,h,hh,hu=>by
  simp only [AV.hand] at hh;cases hc:lx n bs cs with
  | none=>rw [hc] at hh;cases hh
  | some ĭ=>rw [hc] at hh;cases hh;simp only [AV.under] at hu;obtain ⟨vs,rfl,hn,h'⟩:=h.Cy;obtain ⟨h1,h2⟩:=sb hm n cs ĭ vs.toList (by simpa using hn.symm) (fun i c v hc hv=>h' i c v hc (by simpa using hv)) hc hu;exact .aK _ _ (by rw [<-h1,hn]) (fun i c v hc hv=>h2 i c v hc (by simpa using hv))
 | .any,d',v,h,hh,hu=>by cases hh;exact .any v
 | .jZ,d',v,h,hh,hu=>by cases hh;exact h.bD n hu
 | .int k m,d',v,h,hh,hu=>by cases hh;exact h.bD n hu
 | .bool b,d',v,h,hh,hu=>by cases hh;exact h.bD n hu
 | .str s,d',v,h,hh,hu=>by cases hh;exact h.bD n hu
 | .cn,d',v,h,hh,hu=>by cases hh;exact h.bD n hu
 | .ptr k off,d',v,h,hh,hu=>by cases hh;exact h.bD n hu
 | .cZ k m i off,d',v,h,hh,hu=>by cases hh;exact h.bD n hu
 | .dB cs,d',v,h,hh,hu=>by cases hh;exact h.bD n hu
 | .ah nl sz es,d',v,h,hh,hu=>by cases hh;exact h.bD n hu
 | .cG nl,d',v,h,hh,hu=>by
  cases hh;cases h with
  | cG _ a Ł=>exact .ah nl 0 [] a 0 0 0 (fun _ _=> .nilFunc) Ł (fun _=>⟨rfl,rfl⟩) (δ _) (fun h=>ξ rfl h) (fun i e h=>by cases h) (fun i j e x h=>by cases h) (fun i j e x h=>by cases h)
 | .fn f a b,d',v,h,hh,hu=>by cases hh;exact h.bD n hu
 | .er,d',v,h,hh,hu=>by cases hh;exact h.bD n hu
 | .il b,d',v,h,hh,hu=>by cases hh;exact h.bD n hu
 | .mG _ _ _,d',v,h,hh,hu=>by cases hh;exact h.bD n hu
 | .gG k s env,d',v,h,hh,hu=>by cases hh;exact h.bD n hu
 | .cg k,d',v,h,hh,hu=>by cases hh;exact h.bD n hu
 | .lU k,d',v,h,hh,hu=>by cases hh;exact h.bD n hu
 | .iv,d',v,h,hh,hu=>by cases hh;exact h.bD n hu
theorem sb (hm:Mem g bs w) (n:N): ∀(cs ĭ:I AV) (vs:I H),É cs=É vs->(∀(i:N) (c:AV) (v:H),cs[i]?=B c->vs[i]?=B v->Rd g w c v)->lx n bs cs=B ĭ->aA n ĭ=true->
  É cs=ĭ.length/\ ∀(i:N) (c:AV) (v:H),ĭ[i]?=B c->vs[i]?=B v->Rd (g.hand bs n) w c v
 | [],ĭ,vs,hn,h,hh,hu=>by cases hh;exact ⟨rfl,fun i c v hc=>by simp at hc⟩
 | d::r,ĭ,vs,hn,h,hh,hu=>by
  simp only [lx] at hh;split at hh
  ·rename_i a l ha hl;cases hh;simp only [aA,L] at hu;cases vs with
   | nil=>simp at hn
   | cons v vs=>
    have h0:=CX hm n d a v (h 0 d v rfl rfl) ha hu.1;obtain ⟨h1,h2⟩:=sb hm n r l vs (by simpa using hn) (fun i c v hc hv=>h (i+1) c v (by simpa using hc) (by simpa using hv)) hl hu.2;refine ⟨by simp [h1],fun i c v hc hv=> ?_⟩;cases i with
    | zero=>simp at hc hv;subst hc;subst hv;exact h0
    | succ i=>simp at hc hv;exact h2 i c v hc hv
  ·cases hh
end
end
end Go.Am
namespace Go.Am
variable [Kn]
def dT (g:Gh) (w:η) (bs':I af) (r:AV) (e:Å) (w':η):Prop:=
 ∃v g',e= .returned v/\Mem g' bs' w'/\Le g w g' w'/\Fr g w g' w'/\Rd g' w' r v
def Enters (P:υ) (f:Ϻ):Prop:= ∃fn,P.funcs[f]?=B fn/\(fn.name== "runtime.NumGoroutine")=φ/\fn.body.isNone=φ
structure rZ (P:υ) (cf:aQ):Prop where
 fn: ∀f xs bs r bs',cf (.fn f) xs bs=B (r,bs')->Enters P f/\ ∀g w (vs:μ H),Mem g bs w->bL g w xs vs.toList->À P f vs w (dT g w bs' r)
 gG: ∀k s env xs bs r bs',cf (.gG k s env) xs bs=B (r,bs')-> ∀g w v (vs:μ H),Mem g bs w->Rd g w (.gG k s env) v->bL g w xs vs.toList->
  ∃l fn tmps asg body,v= .func (.yield l) #[] #[]/\(Instr.yield l vs).run P w= .ok (.round l fn tmps asg body) w/\RoundIn Fence.wide 0 P l fn tmps asg body w (dT g w bs' r)
def QK (P:υ) (c:aD):Prop:= ∀f G,c.ov f=B G-> ∀xs r,G xs=B r->ak xs=true->Enters P f/\ ∀g w (vs:μ H),Mem g [] w->bL g w xs vs.toList->À P f vs w (dT g w [] r)
section
variable {P:υ} {g:Gh} {bs:I af} {w:η}
theorem vU {c:aD} (hc:cb c P) (hm:Mem g bs w) {t:Env} {a:Act} (ht:gv g w t a) {F:ResultVar->Sem H} (h1: ∀i,F (.tmp i)=pure (a.tmps.getD i undef)) (h2: ∀p ty,F (.cell p ty)=do loadVar ty (<-asAddr (a.tmps.getD p undef))):
  ∀(l:I ResultVar) (rs:I AV),jh c t bs l=B rs-> ∃vs,(l.mapM F).run P w= .ok vs w/\bL g w rs vs
 | [],rs,h=>by cases h;exact ⟨[],rfl,.nil⟩
 | r::l,rs,h=>by
  simp only [jh] at h;split at h
  ·rename_i x xs hx hxs;cases h;obtain ⟨vs,hv,rv⟩:=vU hc hm ht h1 h2 l xs hxs;unfold wZ at hx;split at hx
   ·rename_i i;cases hx;exact ⟨a.tmps.getD i undef::vs,by simp only [ϻ,Sem.run_bind,h1,Sem.run_pure,Result.andThen_ok,hv],.cons (ht.get i) rv⟩
   ·rename_i p ty;split at hx
    ·rename_i k off hp;split at hx
     ·rename_i ļ cs i hb hi;obtain ⟨info,ġ⟩:=bS (hc.ty ty i hi);have hrp:=ht.get p;rw [hp] at hrp;obtain ⟨b,ā,hu⟩:=hrp.g7;obtain ⟨b',ĕ,cc,hh,hn,đ⟩:=hm.var k ļ cs hb;rw [ā] at ĕ;cases ĕ
      have ħ:ly g w b 0 cs:=fun j x hx=>by
       have hj:=al hx;have ę:j<cc.size:=by omega
       exact ⟨cc[j],by rw [Η,eT hh];simp [ę],đ j x _ hx (by simp [ę])⟩
      obtain ⟨z,hz,rz⟩:=Ee (P:=P) ġ ħ hx;rw [Η] at hz;have hF:(F (.cell p ty)).run P w= .ok z w:=by rw [h2];simp [hu,asAddr,hz]
      exact ⟨z::vs,by simp only [ϻ,Sem.run_bind,hF,Sem.run_pure,Result.andThen_ok,hv],.cons rz rv⟩
     ·cases hx
    ·cases hx
  ·cases h
theorem KN {c:aD} (hc:cb c P) (hm:Mem g bs w) {t:Env} {a:Act} (ht:gv g w t a) {fn:Func} {rs:I AV} (h:jh c t bs fn.results.toList=B rs): ∃v,(results fn a.tmps).run P w= .ok v w/\Rd g w (D6 rs) v:=by
 have key: ∃vs,(results fn a.tmps).run P w= .ok (if h:vs.toArray.size=1 then vs.toArray[0] else .tuple vs.toArray) w/\bL g w rs vs:=by unfold results;rw [Array.mapM_eq_mapM_toList];simp only [Sem.run_bind,Sem.run_map];obtain ⟨vs,hv,rv⟩:=vU (P:=P) hc hm ht (F:=fun | .tmp t=>pure (a.tmps.getD t undef) | .cell p ty=>do loadVar ty (<-asAddr (a.tmps.getD p undef))) (fun _=>rfl) (fun _ _=>rfl) _ _ h;exact ⟨vs,by erw [hv];rfl,rv⟩
 obtain ⟨vs,Ā,rv⟩:=key;refine ⟨_,Ā,?_⟩;cases rv with
 | nil=>exact .aK _ _ rfl (fun i c v h=>by simp at h)
 | @cons x v xs ws hx ht'=>
  cases ht' with
  | nil=>exact hx
  | @cons y u ys us hy ht''=>obtain ⟨k1,k2⟩:=(bL.cons hx (bL.cons hy ht'')).get;rw [dif_neg (by simp)];exact .aK _ _ (by simp at k1;simp [k1]) (fun i c v hc hv=>k2 i c v hc (by simpa using hv))
theorem tC {g0:Gh} {w0:η} {bs0:I af} (hm0:Mem g0 bs0 w0) {s:St} (hm:Mem g s.b w) (hl:Le g0 w0 g w) (hf:Fr g0 w0 g w) {v:H} {x r:AV} {bs':I af} (hx:Rd g w x v) (h:handOver (É bs0) s x=B (r,bs')):
  ∃g',Mem g' bs' w/\Le g0 w0 g' w/\Fr g0 w0 g' w/\Rd g' w r v:=by
 unfold handOver at h;split at h
 ·rename_i d hd;split at h
  ·rename_i hu;cases h
   have hle:Le g0 w0 (g.hand s.b (É bs0)) w:=⟨fun b o hs=> .inl (hl.S b o hs),hl.cell,fun k=>by
    simp only [Gh.hand];split
    ·exact hl.e k
    ·rw [hm0.no k (by simp [af.at,M,ψ (by omega:É bs0<=k)])];exact .no _⟩
   obtain ⟨m',f'⟩:=hm.hand (É bs0);refine ⟨g.hand s.b (É bs0),?_,hle,hf.trans f',CX hm _ x r v hx hd hu⟩;unfold St.cut;split
   ·rename_i Ć;exact (hm.Nn (by simpa using Ć)).1
   ·exact m'
  ·cases h;exact ⟨g,hm,hl,hf,hx⟩
 ·cases h
theorem Hy (hm:Mem g bs w) {args:I AV}: ∀{xs l:I AV} {vs:I H},bL g w xs vs->(∀z∈bc xs,z∈args)->dO bs xs=B l->ak l=true->bL (g.dj bs args) w l vs:=by
 intro xs l vs hx
 induction hx generalizing l with
 | nil=>intro _ h _;cases h;exact .nil
 | cons h _ ih=>
  intro hin hl hp;simp only [dO] at hl;simp only [bc] at hin;split at hl
  ·rename_i a r ha hr;cases hl;simp only [ak,L] at hp;exact .cons (C7 hm h (fun z hz=>hin z (ϡ _ hz)) ha hp.1) (ih (fun z hz=>hin z (Ϟ _ hz)) hr hp.2)
  ·cases hl
def adQ:H->N
 | .int _ _=>1
 | .string _=>2
 | .bool _=>3
 | .slice _ _ _=>4
 | _=>0
omit [Kn] in
theorem Rd.ZX {g:Gh} {w:η} {x:AV} {v:H} (h:Rd g w x v):x.Ul=0\/x.Ul=adQ v:=by cases h <;> first | exact .inl rfl | exact .inr rfl
omit [Kn] in
theorem Hz {g g0:Gh} {w w0:η} {x y:AV} {v:H} (h:Rd g w x v) (k:Rd g0 w0 y v):x.differ y=false:=by
 unfold AV.differ;split
 ·cases h;cases k;simp
 ·rename_i s t;generalize hv:v=u at k;cases h;cases k;simp only [Value.string.injEq,ByteArray.mk.injEq] at hv;have:=congrArg Array.toList hv;simp at this;simp [this]
 ·cases h;cases k;simp
 ·rw [ϖ];rintro ⟨h1,h2,h3⟩;have e1:=h.ZX.resolve_left h1;have e2:=k.ZX.resolve_left h2;exact h3 (e1.trans e2.symm)
omit [Kn] in
theorem vV: ∀(a b l:I AV),fh a l=true->fh b (l.drop (É a))=true->fh (a++b) l=κ
 | [],_,_,_,h=>h
 | _::_,_, [],h,_=>by cases h
 | x::a,b,y::l,h1,h2=>by
  simp only [fh,L] at h1;simp only [List.cons_append,fh,L];exact ⟨h1.1,vV a b l h1.2 h2⟩
omit [Kn] in
theorem AQ: ∀(cs l:I AV),(∀(j:N) (x:AV),cs[j]?=B x-> ∃y,l[j]?=B y/\x.differ y=φ)->fh cs l=κ
 | [],_,_=>rfl
 | x::cs, [],h=>by obtain ⟨y,hy,_⟩:=h 0 x rfl;cases hy
 | x::cs,y::l,h=>by
  obtain ⟨z,hz,hd⟩:=h 0 x rfl;cases hz;simp only [fh,L,Ρ];exact ⟨hd,AQ cs l fun j x hx=>h (j+1) x hx⟩
omit [Kn] in
theorem E5 {sz:N} (ys:I AV): ∀(es:I AV) (off:N),(∀(i:N) (e:AV),es[i]?=B e->e.cells.length=sz)->(∀(i j:N) (e x:AV),es[i]?=B e->e.cells[j]?=B x-> ∃y,ys[off+i*sz+j]?=B y/\x.differ y=φ)->fh (es.flatMap AV.cells) (ys.drop off)=κ
 | [],_,_,_=>rfl
 | e::es,off,hl,h=>by
  rw [ϔ];refine vV _ _ _ (AQ _ _ fun j x hx=> ?_) ?_
  ·have:=h 0 j e x rfl hx;simpa [ϭ] using this
  ·rw [List.drop_drop,hl 0 e rfl];refine E5 ys es (off+sz) (fun i e he=>hl (i+1) e he) fun i j e x he hx=> ?_;have:=h (i+1) j e x he hx
   rwa [O,ϸ,Ã (i*sz) sz,<-Â] at this
omit [Kn] in
theorem sc {xs:I AV}: ∀(l:I AV) (n:N),fh xs (l.drop n)=true->lr xs l=κ
 | [],n,h=>by simpa [lr] using h
 | y::l,0,h=>by simp only [lr,σ];exact .inl h
 | y::l,n+1,h=>by simp only [lr,σ];exact .inr (sc l n h)
omit [Kn] in
theorem eJ {ys:I AV}: ∀{cs:I AV} {i:N} {c:AV},fq ys cs=true->cs[i]?=B c->c.apart ys=κ
 | _::_,0,_,h,hi=>by simp only [fq,L] at h;cases hi;exact h.1
 | _::_,i+1,_,h,hi=>by simp only [fq,L] at h;exact eJ h.2 hi
omit [Kn] in
theorem Rd.No {g g' g0:Gh} {w w0:η} (Y:I AV->Prop)
  (hS: ∀b o,g.S b o->g'.S b o\/ ∃ys,Y ys/\(∀o',g.S b o'->o'<É ys)/\ ∀(o':N) (y:AV),ys[o']?=B y-> ∃v,w.cell? ⟨b,o',γ⟩=B v/\Rd g0 w0 y v)
  {d:AV} {v:H} (h:Rd g w d v):(∀ys,Y ys->d.apart ys=κ)->(d.apart []=κ)->Rd g' w d v:=by
 induction h with
 | any v=>exact fun _ _=> .any v
 | jZ v h=>exact fun _ _=> .jZ v h
 | int k n=>exact fun _ _=> .int k n
 | bool b=>exact fun _ _=> .bool b
 | str s=>exact fun _ _=> .str s
 | agg cs vs hn _ ih=>exact fun hy h0=> .agg cs vs hn (fun i c v hc hv=>ih i c v hc hv (fun ys hs=>eJ (by simpa only [AV.apart] using hy ys hs) hc) (eJ (by simpa only [AV.apart] using h0) hc))
 | aK cs vs hn _ ih=>exact fun hy h0=> .aK cs vs hn (fun i c v hc hv=>ih i c v hc hv (fun ys hs=>eJ (by simpa only [AV.apart] using hy ys hs) hc) (eJ (by simpa only [AV.apart] using h0) hc))
 | cn=>exact fun _ _=> .cn
 | ptr k off b h=>intro _ h0;simp [AV.apart] at h0
 | cZ k n i off m sz loc v h1 h hle hv=>intro _ h0;simp [AV.apart] at h0
 | dB cs b off vals hp _ ih=>intro _ h0;simp [AV.apart] at h0
 | ah nl sz es a cap b off vals Ł Ŝ Ď ha hp hc hr ih=>
  intro hy h0
  have down: ∀{ys:I AV} {i j:N} {e x:AV},(AV.ah nl sz es).apart ys=true->es[i]?=B e->e.cells[j]?=B x->x.apart ys=true:=fun {ys i j e x} h he hx=>by
   simp only [AV.apart,L] at h;have h:=eJ h.2 he;cases e with
   | agg cs=>simp only [AV.apart] at h;exact eJ h hx
   | _=>cases j with
    | zero=>simp only [AV.cells,X,E] at hx;subst hx;exact h
    | succ j=>simp [AV.cells] at hx
  refine .ah nl sz es a cap b off vals Ł Ŝ Ď ha hp (fun i j e x he hx=>⟨?_,(hc i j e x he hx).2⟩) (fun i j e x he hx=>ih i j e x he hx (fun ys hs=>down (hy ys hs) he hx) (down h0 he hx));rcases hS _ _ (hc i j e x he hx).1 with h | ⟨ys,hys,h1,h2⟩
  ·exact h
  ·exfalso;have hq:=hy ys hys;simp only [AV.apart,L,σ,Ρ] at hq;rcases hq.1 with q | q
   ·rw [List.isEmpty_iff] at q;rw [q] at he;cases he
   ·have:=E5 ys es off (fun i e he=>(hp i e he).2) (fun i j e x he hx=>by
     obtain ⟨c1,c2,_⟩:=hc i j e x he hx;have hlt:=h1 _ c1;obtain ⟨v,v1,v2⟩:=h2 _ _ (ζ hlt);rw [c2] at v1;cases v1;exact ⟨_,ζ hlt,Hz (hr i j e x he hx) v2⟩)
    rw [sc ys off this] at q;cases q
 | cG nl a h=>exact fun _ _=> .cG nl a h
 | aC k n m sz loc v h1 h hle hv=>intro _ h0;simp [AV.apart] at h0
 | gO k n lo hi m sz loc v h1 h hle hv=>intro _ h0;simp [AV.apart] at h0
 | fn f cs ds vs us hn hm _ _ ih ih'=>intro _ h0;simp [AV.apart] at h0
 | er=>exact fun _ _=> .er
 | il b v h=>exact fun _ _=> .il b v h
 | mG t k n=>exact fun _ _=> .mG t k n
 | gG k b s env r h hs _ _=>intro _ h0;simp [AV.apart] at h0
 | cg k b h=>intro _ h0;simp [AV.apart] at h0
 | lU k b h=>intro _ h0;simp [AV.apart] at h0
 | iv=>exact fun _ _=> .iv
omit [Kn] in
theorem sd {v:AV} {bs:I af} {k:N} {sh:Hd} {sz:N} {es:I AV} (hb:af.at bs k= .sl sh sz es) (ho:sh.out=φ): ∀{args:I AV},dK v bs args=true->args.any (leadsTo k)=true->v.apart (es.flatMap AV.cells)=κ
 | [],_,h=>by cases h
 | x::r,h,hk=>by
  rw [ϕ,σ] at hk;have tail:dK v bs r=true->r.any (leadsTo k)=true->v.apart (es.flatMap AV.cells)=true:=fun h hk=>sd hb ho h hk
  have here: ∀j,(rL v (af.at bs j)&&dK v bs r)=true->((j==k)=κ\/r.any (leadsTo k)=κ)->v.apart (es.flatMap AV.cells)=true:=fun j hj hjk=>by
   rw [L] at hj;rcases hjk with hjk | hjk
   ·have:j=k:=by simpa using hjk
    subst this;rw [hb] at hj;simpa [rL,ho] using hj.1
   ·exact tail hj.2 hjk
  cases x with
  | aC j n=>exact here j (by simpa only [dK] using h) (by simpa only [leadsTo] using hk)
  | gO j n lo hi=>exact here j (by simpa only [dK] using h) (by simpa only [leadsTo] using hk)
  | _=>exact tail (by simpa only [dK] using h) (hk.resolve_left (by simp [leadsTo]))
omit [Kn] in
theorem yF {sz:N}: ∀{es:I AV} {o:N} {y:AV},(∀(i:N) (e:AV),es[i]?=B e->e.cells.length=sz)->(es.flatMap AV.cells)[o]?=B y-> ∃i j e,es[i]?=B e/\e.cells[j]?=B y/\o=i*sz+j
 | [],o,y,_,h=>by cases h
 | e::es,o,y,hl,h=>by
  rw [ϔ] at h;have h0:=hl 0 e rfl;by_cases ho:o<e.cells.length
  ·rw [Z ho] at h;exact ⟨0,o,e,rfl,h,by omega⟩
  ·rw [U (by omega)] at h;obtain ⟨i,j,e',h1,h2,h3⟩:=yF (fun i e he=>hl (i+1) e he) h;exact ⟨i+1,j,e',h1,h2,by rw [O,ϸ];omega⟩
omit [Kn] in
theorem yG {sz:N}: ∀{es:I AV},(∀(i:N) (e:AV),es[i]?=B e->e.cells.length=sz)->(es.flatMap AV.cells).length=É es*sz
 | [],_=>by simp
 | e::es,hl=>by
  rw [ϔ,Ζ,hl 0 e rfl,yG (fun i e he=>hl (i+1) e he),Φ,O];omega
omit [Kn] in
mutual
theorem AR: ∀{v:AV} {ys:I AV},v.apart ys=true->v.apart []=κ
 | .ah _ _ es,ys,h=>by
  simp only [AV.apart,L,σ,Ρ] at h⊢;refine ⟨h.1.imp_right fun h1=> ?_,jR h.2⟩;rw [lr];cases hc:fh (es.flatMap AV.cells) [] with
  | false=>rfl
  | true=>rw [sc ys (É ys) (by rw [List.drop_length];exact hc)] at h1;cases h1
 | .agg cs,ys,h=>by simp only [AV.apart] at h⊢;exact jR h
 | .aK cs,ys,h=>by simp only [AV.apart] at h⊢;exact jR h
 | .any,_,h=>by simpa only [AV.apart] using h
 | .jZ,_,h=>by simpa only [AV.apart] using h
 | .int _ _,_,h=>by simpa only [AV.apart] using h
 | .bool _,_,h=>by simpa only [AV.apart] using h
 | .str _,_,h=>by simpa only [AV.apart] using h
 | .cn,_,h=>by simpa only [AV.apart] using h
 | .ptr _ _,_,h=>by simpa only [AV.apart] using h
 | .cZ _ _ _ _,_,h=>by simpa only [AV.apart] using h
 | .dB _,_,h=>by simpa only [AV.apart] using h
 | .cG _,_,h=>by simpa only [AV.apart] using h
 | .aC _ _,_,h=>by simpa only [AV.apart] using h
 | .gO _ _ _ _,_,h=>by simpa only [AV.apart] using h
 | .fn _ _ _,_,h=>by simpa only [AV.apart] using h
 | .er,_,h=>by simpa only [AV.apart] using h
 | .il _,_,h=>by simpa only [AV.apart] using h
 | .mG _ _ _,_,h=>by simpa only [AV.apart] using h
 | .gG _ _ _,_,h=>by simpa only [AV.apart] using h
 | .cg _,_,h=>by simpa only [AV.apart] using h
 | .lU _,_,h=>by simpa only [AV.apart] using h
 | .iv,_,h=>by simpa only [AV.apart] using h
theorem jR: ∀{vs ys:I AV},fq ys vs=true->fq [] vs=κ
 | [],_,_=>rfl
 | v::r,ys,h=>by
  simp only [fq,L] at h⊢;exact ⟨AR h.1,jR h.2⟩
end
theorem HA (hm:Mem g bs w) {args:I AV} {v:AV} (hp:v.plain=κ) (ha:dK v bs args=κ) {w':η} {g':Gh} {val:H} (m':Mem g' [] w') (l':Le (g.dj bs args) w g' w') (f':Fr (g.dj bs args) w g' w') (rv:Rd g' w' v val)
  (ğ: ∀b,b<w.heap.size->w'.heap[b]?=w.heap[b]?/\ ∀o,g'.S b o->(g.dj bs args).S b o):dT g w bs v (.returned val) w':=by
 have Ą: ∀b,b<w.heap.size->w'.heap[b]?=w.heap[b]?:=fun b hb=>(ğ b hb).1
 obtain ⟨m1,l1⟩:=hm.after (w':=w') (S':=fun b o=>g'.S b o/\(b<w.heap.size->g.S b o)) (sh':=fun _=>φ) (bs':=bs) (fun k=>by cases af.at bs k <;> simp) Ą (fun b o h=>⟨l'.S b o (.inl h),fun _=>h⟩) (fun k sh sz es b o h=>by cases h)
  (fun b o hs=>⟨(m'.dh b o hs.1).1,fun hb=> .inl (hs.2 hb)⟩)
 refine ⟨val,{S:=fun b o=>g'.S b o/\(b<w.heap.size->g.S b o),e:=g.e},rfl,m1,l1,⟨f'.size,fun b hb hne=>⟨Ą b hb,hne,fun o ho=>ho.2 hb⟩,f'.os,f'.tape,f'.output⟩,?_⟩;by_cases hex: ∃k sh sz es,args.any (leadsTo k)=κ/\af.at bs k= .sl sh sz es/\sh.out=φ
 ·refine rv.No (g0:=g) (w0:=w) (fun ys=> ∃k sh sz es,args.any (leadsTo k)=κ/\af.at bs k= .sl sh sz es/\sh.out=φ/\ys=es.flatMap AV.cells) (fun b o hs=> ?_) (fun ys ⟨k,sh,sz,es,h1,h2,h3,h4⟩=>by rw [h4];exact sd h2 h3 ha h1) (by
   obtain ⟨k,sh,sz,es,h1,h2,h3⟩:=hex;exact AR (sd h2 h3 ha h1))
  by_cases hb:b<w.heap.size
  ·rcases (ğ b hb).2 o hs with h1 | ⟨k,sh,sz,es,hin,h2,h3,h4⟩
   ·exact .inl ⟨hs,fun _=>h1⟩
   ·obtain ⟨loc,ā,hr⟩:=hm.sl k sh sz es h2;rw [ā] at h3;cases loc with
    | none=>cases h3
    | some p=>
     obtain ⟨b',cap⟩:=p;simp only [GE.bM,T,E] at h3;subst h3;obtain ⟨c,ty,fz,q1,q2,q3,q4,q5,q6,q7⟩:=hr.2;cases ho:sh.out with
     | true=>exact .inl ⟨hs,fun _=>q6 ho o h4⟩
     | false=>
      have ŭ: ∀(i:N) (e:AV),es[i]?=B e->e.cells.length=sz:=fun i e he=>(hr.1 i e he).2;refine .inr ⟨es.flatMap AV.cells,⟨k,sh,sz,es,hin,h2,ho,rfl⟩,fun o' hs'=> ?_,fun o' y hy=> ?_⟩
      ·rw [yG ŭ];rcases (ğ _ hb).2 o' hs' with h1 | ⟨k',sh',Ĝ,ċ,_,Ś,h3',h4'⟩
       ·obtain ⟨ty',sz'',es'',h5,_⟩:=(hm.dh _ o' h1).2 k (by rw [ā];rfl);rw [h2] at h5;cases h5;cases ho
       ·have:=hm.inj k k' _ (by rw [ā];rfl) h3';subst this;rw [h2] at Ś;cases Ś;exact h4'
      ·obtain ⟨i,j,e,he,hj,rfl⟩:=yF ŭ hy;have hi:=al he;have hjl:=al hj;rw [ŭ i e he] at hjl
       have hlt:i*sz+j<c.size:=by rw [q2];have h9:(i+1)*sz<=cap*sz:=J _ (by omega);rw [O] at h9;omega
       have hg:c[i*sz+j]?=B c[i*sz+j]:=by simp [hlt]
       refine ⟨c[i*sz+j],?_,(q5 i j e y _ he hj hg).1⟩;rw [cr (Ą _ hb),eT q1,hg]
  ·exact .inl ⟨hs,fun h=>ξ h hb⟩
 ·refine rv.aT (g:=g') (g':={S:=fun b o=>g'.S b o/\(b<w.heap.size->g.S b o),e:=g.e}) (w:=w') (w':=w') (fun b o hs=>⟨hs,fun hb=> ?_⟩) (fun _ _ _=>rfl) hp;rcases (ğ b hb).2 o hs with h1 | ⟨k,sh,sz,es,hin,h2,h3,h4⟩
  ·exact h1
  ·obtain ⟨loc,ā,hr⟩:=hm.sl k sh sz es h2;rw [ā] at h3;cases loc with
   | none=>cases h3
   | some p=>
    obtain ⟨b',cap⟩:=p;simp only [GE.bM,T,E] at h3;subst h3;obtain ⟨c,ty,fz,q1,q2,q3,q4,q5,q6,q7⟩:=hr.2;cases ho:sh.out with
    | true=>exact q6 ho o h4
    | false=>exact ξ ⟨k,sh,sz,es,hin,h2,ho⟩ hex
theorem AT (hm:Mem g bs w) {args:I AV} {v r:AV} {e:dy} {id:N} (hp:v.plain=κ) {kb:ϟ} (h:cI kb v args bs=B (r,e)) {bs':I af} (he:e.on bs id=B bs') {en:Å} {w':η}
  (hc:dT (g.dj bs args) w [] v en w'):dT g w bs' r en w':=by
 obtain ⟨val,g',rfl,m',l',f',rv⟩:=hc
 have ğ: ∀b,b<w.heap.size->w'.heap[b]?=w.heap[b]?/\ ∀o,g'.S b o->(g.dj bs args).S b o:=fun b hb=>by
  obtain ⟨h1,_,h3⟩:=f'.frame b hb (fun k=>by simp [Gh.dj,GE.bM]);exact ⟨h1,h3⟩
 have Ą: ∀b,b<w.heap.size->w'.heap[b]?=w.heap[b]?:=fun b hb=>(ğ b hb).1;unfold cI at h;split at h
 ·rename_i ũ;cases h;cases he;simp only [σ,Ρ,L] at ũ;rcases ũ with (ũ | ũ) | ũ
  ·obtain ⟨m1,l1⟩:=hm.after (w':=w') (S':=g.S) (sh':=fun _=>φ) (bs':=bs) (fun k=>by cases af.at bs k <;> simp) Ą (fun _ _ h=>h) (fun k sh sz es b o h=>by cases h)
    (fun b o hs=>⟨Nat.lt_of_lt_of_le (hm.dh b o hs).1 f'.size,fun _=> .inl hs⟩)
   exact ⟨val,{S:=g.S,e:=g.e},rfl,m1,l1,⟨f'.size,fun b hb hne=>⟨Ą b hb,hne,fun _ h=>h⟩,f'.os,f'.tape,f'.output⟩,rv.of_flat ũ⟩
  ·have hls: ∀b o,(g.dj bs args).S b o->g.S b o:=fun b o hs=>by
    rcases hs with hs | ⟨k,sh,sz,es,hin,_⟩
    ·exact hs
    ·rw [Hr ũ k] at hin;cases hin
   obtain ⟨m1,l1⟩:=hm.after (w':=w') (S':=g'.S) (sh':=fun _=>φ) (bs':=bs) (fun k=>by cases af.at bs k <;> simp) Ą (fun b o h=>l'.S b o (.inl h)) (fun k sh sz es b o h=>by cases h)
    (fun b o hs=>⟨(m'.dh b o hs).1,fun hb=> .inl (hls b o ((ğ b hb).2 o hs))⟩)
   exact ⟨val,{S:=g'.S,e:=g.e},rfl,m1,l1,⟨f'.size,fun b hb hne=>⟨Ą b hb,hne,fun o ho=>hls b o ((ğ b hb).2 o ho)⟩,f'.os,f'.tape,f'.output⟩,rv.aT (g:=g') (g':={S:=g'.S,e:=g.e}) (w:=w') (w':=w') (fun _ _ h=>h) (fun _ _ _=>rfl) hp⟩
  ·exact HA hm hp ũ.2 m' l' f' rv ğ
 ·cases h;cases he
  obtain ⟨m1,l1⟩:=hm.after (w':=w') (S':=g'.S) (sh':=fun k=>args.any (leadsTo k)) (bs':=aX bs args) (fun k=>pz bs args k) Ą (fun b o h=>l'.S b o (.inl h))
   (fun k sh sz es b o hk hb Ă ho=>by
    exact l'.S b o (.inr ⟨k,sh,sz,es,hk,hb,Ă,ho⟩))
   (fun b o hs=>⟨(m'.dh b o hs).1,fun hb=>by
    rcases (ğ b hb).2 o hs with h1 | ⟨k,sh,sz,es,hin,h2,h3,h4⟩
    ·exact .inl h1
    ·exact .inr ⟨k,sh,sz,es,hin,h2,h3,h4⟩⟩)
  refine ⟨val,{S:=g'.S,e:=g.e},rfl,m1,l1,⟨f'.size,fun b hb hne=>⟨Ą b hb,hne,fun o ho=> ?_⟩,f'.os,f'.tape,f'.output⟩,rv.aT (g:=g') (g':={S:=g'.S,e:=g.e}) (w:=w') (w':=w') (fun _ _ h=>h) (fun _ _ _=>rfl) hp⟩;rcases (ğ b hb).2 o ho with h1 | ⟨k,sh,sz,es,hin,h2,h3,h4⟩
  ·exact h1
  ·exact ξ h3 (hne k)
omit [Kn] in
theorem HB {e x:AV} {j:N} (h:e.plain=κ) (hx:e.cells[j]?=B x):x.plain=true:=by
 cases e with
 | agg cs=>exact bZ (cs:=cs) (by simpa only [AV.plain] using h) hx
 | _=>cases j with
  | zero=>simp only [AV.cells,X,E] at hx;subst hx;exact h
  | succ j=>simp [AV.cells] at hx
omit [Kn] in
theorem jS (b:I af) (x:af) (k:N):af.at (b++ [x]) k=if k=É b then x else af.at b k:=by
 simp only [af.at,M];by_cases h1:k<É b
 ·rw [Z h1,ο (by omega)]
 ·by_cases h2:k=É b
  ·subst h2;simp
  ·rw [ο h2,ψ (by simp;omega),ψ (by omega)]
omit [Kn] in
theorem yH: ∀{args:I AV} {bs:I af},nC args=false->aX bs args=bs
 | [],_,_=>rfl
 | x::r,bs,h=>by
  cases x <;> simp only [nC,Ϭ] at h <;> (simp only [aX];exact yH h)
theorem Np (hm:Mem g bs w) {args:I AV} {n:N} {sh:Hd} {sz:N} {es:I AV} {en:Å} {w':η}
  {b0:I af} {k0:N} (hb0:af.at b0 k0= .sl sh sz es) (hlk:sh.link=γ) (hc:dT (g.dj bs args) w b0 (.aC k0 n) en w'):dT g w (aX bs args++ [.sl sh sz es]) (.aC (É bs) n) en w':=by
 obtain ⟨val,g',rfl,m',l',f',rv⟩:=hc
 have ğ: ∀b,b<w.heap.size->w'.heap[b]?=w.heap[b]?/\ ∀o,g'.S b o->(g.dj bs args).S b o:=fun b hb=>by
  obtain ⟨h1,_,h3⟩:=f'.frame b hb (fun k=>by simp [Gh.dj,GE.bM]);exact ⟨h1,h3⟩
 have Ą: ∀b,b<w.heap.size->w'.heap[b]?=w.heap[b]?:=fun b hb=>(ğ b hb).1
 obtain ⟨m1,l1⟩:=hm.after (w':=w') (S':=g'.S) (sh':=fun k=>args.any (leadsTo k)) (bs':=aX bs args) (fun k=>pz bs args k) Ą (fun b o h=>l'.S b o (.inl h))
  (fun k sh sz es b o hk hb Ă ho=>by
   exact l'.S b o (.inr ⟨k,sh,sz,es,hk,hb,Ă,ho⟩))
  (fun b o hs=>⟨(m'.dh b o hs).1,fun hb=>by
   rcases (ğ b hb).2 o hs with h1 | ⟨k,sh,sz,es,hin,h2,h3,h4⟩
   ·exact .inl h1
   ·exact .inr ⟨k,sh,sz,es,hin,h2,h3,h4⟩⟩)
 have Ć:(aX bs args).length=É bs:=hZ args bs;obtain ⟨loc,ā,hsl⟩:=m'.sl k0 sh sz es hb0
 have Ă: ∀b,(g'.e k0).bM=B b->w.heap.size<=b:=fun b hb=>by
  rcases ϊ b w.heap.size with h | h
  ·obtain ⟨_,h2,_⟩:=f'.frame b h (fun k=>by simp [Gh.dj,GE.bM]);exact ξ hb (h2 k0)
  ·exact h
 let G:Gh:={S:=g'.S,e:=fun j=>if j=É bs then g'.e k0 else g.e j}
 have hGn:G.e (É bs)=g'.e k0:=by simp [G]
 have ı: ∀j,j≠É bs->G.e j=g.e j:=fun j h=>by simp [G,h]
 have ĸ:g.e (É bs)= .no:=hm.no _ (by simp [af.at])
 have hlG:Le {S:=g'.S,e:=g.e} w' G w':=⟨fun _ _ h=>h,fun _ _ _=>rfl,fun j=>by
  by_cases h:j=É bs
  ·subst h;rw [ĸ];exact .no _
  ·rw [ı j h];exact .same _⟩
 have hsl':mL G w' sh sz es loc:=by
  refine ⟨hsl.1,?_⟩;cases loc with
  | none=>exact hsl.2
  | some p=>obtain ⟨c,ty,fz,q1,q2,q3,q4,q5,q6⟩:=hsl.2;exact ⟨c,ty,fz,q1,q2,q3,q4,fun i j e x v a1 a2 a3=>⟨(q5 i j e x v a1 a2 a3).1.aT (g:=g') (g':=G) (w:=w') (w':=w') (fun _ _ h=>h) (fun _ _ _=>rfl) (HB (hsl.1 i e a1).1 a2),(q5 i j e x v a1 a2 a3).2⟩,q6.1,fun _ _ _ _ h=>(by rw [hlk] at h;cases h)⟩
 have m2:Mem G (aX bs args++ [.sl sh sz es]) w':=by
  refine ⟨fun k hk=> ?_,fun k ty cs hk=> ?_,fun k sh' Ĝ ċ hk=> ?_,fun k st hk=> ?_,fun k es clock hk=> ?_,fun k hk=> ?_,fun k o hk=> ?_,fun k l b hk hl=> ?_,fun b o hs=> ?_,fun p hp=>⟨(m1.kn p hp).1,fun k hk=> ?_⟩⟩
  ·rw [jS,Ć] at hk;split at hk
   ·cases hk
   ·rename_i h;rw [ı k h];exact m1.no k hk
  ·rw [jS,Ć] at hk;split at hk
   ·cases hk
   ·rename_i h;obtain ⟨b,h1,h2⟩:=m1.var k ty cs hk;exact ⟨b,by rw [ı k h];exact h1,h2.mono hlG rfl⟩
  ·rw [jS,Ć] at hk;split at hk
   ·rename_i h;cases hk;subst h;exact ⟨loc,by rw [hGn];exact ā,hsl'⟩
   ·rename_i h;obtain ⟨loc,h1,h2⟩:=m1.sl k sh' Ĝ ċ hk;exact ⟨loc,by rw [ı k h];exact h1,h2.mono hlG (fun _ _=>rfl)⟩
  ·rw [jS,Ć] at hk;split at hk
   ·cases hk
   ·rename_i h;obtain ⟨b,r,h1,h2⟩:=m1.loop k st hk;exact ⟨b,r,by rw [ı k h];exact h1,h2⟩
  ·rw [jS,Ć] at hk;split at hk
   ·cases hk
   ·rename_i h;obtain ⟨b,h1,h2⟩:=m1.mp k es clock hk;exact ⟨b,by rw [ı k h];exact h1,h2.mono hlG rfl⟩
  ·rw [jS,Ć] at hk;split at hk
   ·cases hk
   ·rename_i h;rw [ı k h];exact m1.gone k hk
  ·rw [jS,Ć] at hk;split at hk
   ·cases hk
   ·rename_i h;rw [ı k h];obtain ⟨b,h1,h2⟩:=m1.it k o hk;exact ⟨b,h1,h2.le hlG rfl⟩
  ·by_cases h1:k=É bs
   ·by_cases h2:l=É bs
    ·rw [h1,h2]
    ·subst h1;rw [hGn] at hk;rw [ı l h2] at hl;have:=Ă b hk;have:=hm.cR hl;omega
   ·by_cases h2:l=É bs
    ·subst h2;rw [hGn] at hl;rw [ı k h1] at hk;have:=Ă b hl;have:=hm.cR hk;omega
    ·rw [ı k h1] at hk;rw [ı l h2] at hl;exact hm.inj k l b hk hl
  ·obtain ⟨h1,h2⟩:=m1.dh b o hs;refine ⟨h1,fun k hk=> ?_⟩;by_cases h:k=É bs
   ·subst h;rw [hGn] at hk;obtain ⟨ty,Ĝ,ċ,h3,h4⟩:=(m'.dh b o hs).2 k0 hk;have h3:af.sl sh sz es= .sl ⟨κ,ty,γ⟩ Ĝ ċ:=hb0.symm.trans h3;exact ⟨ty,Ĝ,ċ,by rw [jS,Ć,θ rfl];exact h3,h4⟩
   ·rw [ı k h] at hk;obtain ⟨ty,Ĝ,ċ,h3,h4⟩:=h2 k hk;exact ⟨ty,Ĝ,ċ,by rw [jS,Ć,ο h];exact h3,h4⟩
  ·by_cases h:k=É bs
   ·subst h;rw [hGn] at hk;exact (m'.kn p hp).2 k0 hk
   ·rw [ı k h] at hk;exact (m1.kn p hp).2 k hk
 refine ⟨val,G,rfl,m2,l1.trans hlG,⟨f'.size,fun b hb hne=>⟨Ą b hb,fun k hk=> ?_,fun o ho=> ?_⟩,f'.os,f'.tape,f'.output⟩,?_⟩
 ·by_cases h:k=É bs
  ·subst h;rw [hGn] at hk;have:=Ă b hk;omega
  ·rw [ı k h] at hk;exact hne k hk
 ·rcases (ğ b hb).2 o ho with h1 | ⟨k,sh,sz,es,hin,h2,h3,h4⟩
  ·exact h1
  ·exact ξ h3 (hne k)
 ·cases rv with
  | aC _ _ m Ĝ loc' _ h1 h hle hv=>exact .aC _ _ m Ĝ loc' _ h1 (by rw [hGn];exact h) hle hv
def Jp (P:υ) (c:aD):Prop:= ∀f G,c.rH f=B G-> ∀xs bs r k,Ks G xs bs=B (r,k)->Enters P f/\ ∀g w (vs:μ H),Mem g bs w->bL g w xs vs.toList->À P f vs w (dT g w (bs.set k .gone) r)
theorem E6 {c:aD} {cf:aQ} (ł:rZ P cf) (Ń:QK P c) (hea:Jp P c) (hm:Mem g bs w) {f:Ϻ} {args:I AV} {vs:μ H} (hx:bL g w args vs.toList) {r:AV} {e:dy} {id:N}
  (h:oz c cf f args bs=B (r,e)) {bs':I af} (he:e.on bs id=B bs'):Enters P f/\À P f vs w (dT g w bs' r):=by
 have all: ∀{v:AV} {bs1:I af},cf (.fn f) args bs=B (v,bs1)->(B (v,dy.all bs1):Out)=B (r,e)->Enters P f/\À P f vs w (dT g w bs' r):=fun {v bs1} h1 h2=>by
  cases h2;cases he;obtain ⟨h3,h4⟩:=ł.fn _ _ _ _ _ h1;exact ⟨h3,h4 g w vs hm hx⟩
 unfold oz at h;split at h
 ·split at h
  ·rename_i G hG;split at h
   ·rename_i hv;cases h;cases he;obtain ⟨h3,h4⟩:=hea f G hG _ _ _ _ hv;exact ⟨h3,h4 g w vs hm hx⟩
   ·cases h
  ·split at h
   ·rename_i h1;exact all h1 h
   ·cases h
 unfold vF at h;split at h
 ·rename_i l hl;split at h
  ·rename_i hp;have hlr:=Hy hm (args:=bc args) hx (fun _ h=>h) hl hp;split at h
   ·rename_i G hG;split at h
    ·rename_i v hv;split at h
     ·rename_i hvp;obtain ⟨h1,h2⟩:=Ń f G hG l v hv hp;exact ⟨h1,(h2 _ w vs (yA hm (bc args)) hlr).mono fun en w' hc=>AT hm hvp h he hc⟩
     ·cases h
    ·cases h
   ·split at h
    ·rename_i v hv;split at h
     ·rename_i hvp;obtain ⟨h1,h2⟩:=ł.fn _ _ _ _ _ hv;exact ⟨h1,(h2 _ w vs (yA hm (bc args)) hlr).mono fun en w' hc=>AT hm hvp h he hc⟩
     ·cases h
    ·rename_i hv;split at h
     ·rename_i hfr;obtain ⟨h1,h2⟩:=ł.fn _ _ _ _ _ hv;obtain ⟨k0,rfl,hb0,hlk⟩:=Kr hfr;refine ⟨h1,(h2 _ w vs (yA hm (bc args)) hlr).mono fun en w' hc=> ?_⟩;have h5:=Np hm hb0 hlk hc;split at h
      ·cases h;cases he;exact h5
      ·rename_i ğ;cases h;cases he;rw [yH ğ] at h5;exact h5
     ·split at h
      ·rename_i h1;exact all h1 h
      ·cases h
    ·cases h
  ·split at h
   ·rename_i h1;exact all h1 h
   ·cases h
 ·cases h
def Nq (P:υ) (c:aD):Prop:= ∀f G,c.GN f=B G-> ∀xs bs r bs',G xs bs=B (r,bs')->Enters P f/\ ∀g w (vs:μ H),Mem g bs w->bL g w xs vs.toList->À P f vs w (dT g w bs' r)
def Nr (P:υ) (c:aD):Prop:= ∀f G,c.ext f=B G-> ∀xs r,G xs=B r-> ∀g w (vs:μ H),bL g w xs vs.toList-> ∃v,(callFunc f vs).run P w= .ok (.value v) w/\Rd g w r v
structure E7 (P:υ) (c:aD):Prop where
 ov:QK P c
 GN:Nq P c
 rH:Jp P c
 ext:Nr P c
theorem E8 {c:aD} {cf:aQ} (ł:rZ P cf) (Ń:E7 P c) (hm:Mem g bs w) {f:Ϻ} {args:I AV} {vs:μ H} (hx:bL g w args vs.toList) {r:AV} {e:dy} {id:N}
  (h:oA c cf f args bs=B (r,e)) {bs':I af} (he:e.on bs id=B bs'):Enters P f/\À P f vs w (dT g w bs' r):=by
 unfold oA at h;split at h
 ·rename_i G hG;split at h
  ·rename_i hv;cases h;cases he;obtain ⟨h3,h4⟩:=Ń.GN f G hG _ _ _ _ hv;exact ⟨h3,h4 g w vs hm hx⟩
  ·cases h
 ·exact E6 ł Ń.ov Ń.rH hm hx h he
end
end Go.Am
namespace Go.Am
variable [Kn]
def FW (ro:Δ N):Fence:={Fence.wide with round:=ro}
theorem yo {ro:Δ N} {n:N} {P:υ} {f:Ϻ} {args:μ H} {w:η} {R:Å->η->Prop} (h:À P f args w R):CallsIn (FW ro) n P f args w R:=
 (callsIn_wide (n:=n)).2 h
theorem HC {ro:Δ N} {n:N} {P:υ} {l:N} {f:Ϻ} {tmps:μ H} {assign body:Code} {w:η} {R:Å->η->Prop} (h:RoundIn Fence.wide 0 P l f tmps assign body w R):RoundIn (FW ro) n P l f tmps assign body w R:=
 ⟨trivial,fun c cs _=>h.2 c cs (room_wide _)⟩
section
variable {P:υ} {g:Gh} {bs:I af} {w:η}
theorem bL.append {xs ys:I AV} {us vs:I H} (h:bL g w xs us) (k:bL g w ys vs):bL g w (xs++ys) (us++vs):=by
 induction h with
 | nil=>exact k
 | cons h _ ih=>exact .cons h ih
theorem bL.nV: ∀{xs:I AV} {vs:I H},É xs=É vs->(∀(i:N) (x:AV) (v:H),xs[i]?=B x->vs[i]?=B v->Rd g w x v)->bL g w xs vs
 | [], [],_,_=> .nil
 | [],_::_,h,_=>by simp at h
 | _::_, [],h,_=>by simp at h
 | x::xs,v::vs,h,k=> .cons (k 0 x v rfl rfl) (bL.nV (by simpa using h) (fun i x v hx hv=>k (i+1) x v (by simpa using hx) (by simpa using hv)))
theorem AF {f:Ϻ} (h:Enters P f) (args:μ H) (w:η):(callFunc f args).run P w= .ok (.enter f args) w:=by obtain ⟨fn,h1,h2,h3⟩:=h;simp only [callFunc,Sem.run_bind,run_program,Result.andThen_ok,h1,h2,h3];rfl
theorem nX {c:aD} (hc:cb c P) {cf:aQ} (ł:rZ P cf) (Ń:E7 P c) (hm:Mem g bs w) {t:Env} {a:Act} (ht:gv g w t a) {o:Oper} {r:AV} {e:dy} {id:N}
  (h:bB c cf o.op t bs id=B (r,e)) {bs':I af} (he:e.on bs id=B bs') {K:Act->η->Prop} {Q:Exit->Act->η->Prop}
  (hK: ∀v w' g',Mem g' bs' w'->Le g w g' w'->Fr g w g' w'->Rd g' w' r v->K (a.put o.dst v) w') (ro:Δ N):o.wpIn (FW ro) 0 P a w K Q:=by
 have hnd: ∀x,o.op≠ .defer x:=fun x hx=>by rw [hx] at h;simp [bB,gn] at h
 refine ⟨fun _ _=>trivial,?_⟩;rw [Oper.semAt_eq _ _ _ hnd]
 have plain:gn c o.op t bs id=B (r,e)->o.uponIn (FW ro) 0 P a K Q ((execOp a.eval o).run P w):=fun h1=>by
  obtain ⟨nx,v,w',g',h2,h3,h4,h5,h6,h7⟩:=KW (P:=P) hc hm ht (o:=o) h1 he;rw [h2];rcases h3 with rfl | ⟨rfl,rfl⟩
  ·exact hK v w' g' h4 h5 h6 h7
  ·exact hK undef w' g' h4 h5 h6 h7
 obtain ⟨dst,op,type,pos,after,guard⟩:=o;unfold bB at h;simp only at h plain hK⊢;split at h
 ·rename_i k;split at h
  ·rename_i f hf;split at h
   ·rename_i fid first caps hev
    obtain ⟨callee,args,argTypes⟩:=k;simp only at hf;subst hf;have hfv:=ht.ev f;rw [hev] at hfv;generalize hfu:a.eval f=fu at hfv;cases hfv with
    | fn _ _ _ vs us hn ŋ h1 h2=>
     have hra:bL g w (first++ou t args.toList++caps) (vs++args.map a.eval++us).toList:=by simp only [Array.toList_append];refine ((bL.nV (by simpa using hn.symm) (fun i x v hx hv=>h1 i x v hx (by simpa using hv))).append ?_).append (bL.nV (by simpa using ŋ.symm) (fun i x v hx hv=>h2 i x v hx (by simpa using hv)));simpa using bL.AO ht args.toList
     split at h
     ·rename_i G hG;split at h
      ·rename_i v hv;cases h;cases he;obtain ⟨z,h5,h6⟩:=Ń.ext fid G hG _ _ hv g w (vs++args.map a.eval++us) hra
       have Ā:(execOp a.eval ⟨dst,.call ⟨.value f,args,argTypes⟩,type,pos,after,guard⟩).run P w= .ok (.value z) w:=by simp only [execOp,resolve,hfu,Deferred.ofValue,Sem.run_bind,Sem.run_pure,Result.andThen_ok,invoke];exact h5
       rw [Ā];exact hK z w g hm (Le.refl g w) (Fr.refl g w) h6
      ·cases h
     obtain ⟨h3,h4⟩:=E8 ł Ń hm (vs:=vs++args.map a.eval++us) hra h he
     have Ā:(execOp a.eval ⟨dst,.call ⟨.value f,args,argTypes⟩,type,pos,after,guard⟩).run P w= .ok (.enter fid (vs++args.map a.eval++us)) w:=by simp only [execOp,resolve,hfu,Deferred.ofValue,Sem.run_bind,Sem.run_pure,Result.andThen_ok,invoke];exact AF h3 _ w
     rw [Ā];refine ⟨fun h=>(by cases h),yo (h4.mono fun en w' hp=> ?_)⟩;obtain ⟨v,g',rfl,k1,k2,k3,k4⟩:=hp;exact hK v w' g' k1 k2 k3 k4
   ·rename_i l s env hev;obtain ⟨callee,args,argTypes⟩:=k;simp only at hf;subst hf;have hfv:=ht.ev f;rw [hev] at hfv;split at h
    ·rename_i v1 bs1 hcall;cases h;cases he;have hra:bL g w (ou t args.toList) (args.map a.eval).toList:=by simpa using bL.AO ht args.toList
     obtain ⟨b,fn,tmps,asg,body,hv,hy,hR⟩:=ł.gG l s env _ bs _ _ hcall g w _ (args.map a.eval) hm hfv hra
     have Ā:(execOp a.eval ⟨dst,.call ⟨.value f,args,argTypes⟩,type,pos,after,guard⟩).run P w= .ok (.round b fn tmps asg body) w:=by simp only [execOp,resolve,hv,Deferred.ofValue,Sem.run_bind,Sem.run_pure,Result.andThen_ok,invoke];simpa using hy
     rw [Ā];refine ⟨fun h=>(by cases h),HC (hR.mono fun en w' hp=> ?_)⟩;obtain ⟨v,g',rfl,k1,k2,k3,k4⟩:=hp;exact hK v w' g' k1 k2 k3 k4
    ·cases h
   ·cases h
  ·exact plain h
 ·exact plain h
theorem kN {ops:μ Oper} {t:Env} {a:Act} (ht:gv g w t a) {o:Oper} {b:ϟ} (h:bh ops t o.guard=B b):Region.wanted o (yielded ops a.tmps)=b:=by
 unfold bh at h;unfold Region.wanted;split at h
 ·rename_i hg;rw [hg];cases h;rfl
 ·rename_i j want hg;rw [hg];simp only [yielded];split at h
  ·rename_i hd;rw [hd];cases h;rfl
  ·rename_i d hd;rw [hd];simp only [Option.bind_some];have hr:=ht.get d;split at h
   ·rename_i x hx;rw [hx] at hr;have hb:=hr.dL;cases h
    have hlt:d<a.tmps.size:=by
     rcases ϊ d a.tmps.size with h' | h'
     ·exact h'
     ·simp [τ h',undef] at hb
    have Ŋ:a.tmps[d]?=B (.bool x):=by simp [hlt] at hb⊢;exact hb
    rw [Ŋ];cases x <;> cases want <;> rfl
   ·rename_i vs hx;rw [hx] at hr;obtain ⟨us,hu,_⟩:=hr.Cy;cases h;cases ĺ:a.tmps[d]? with
    | none=>rfl
    | some z=>
     have:z= .tuple us:=by have:=hu;simp [Array.getD_eq_getD_getElem?,ĺ] at this;exact this
     rw [this];rfl
   ·cases h
theorem nU (bs:I af) (n k:N):af.at (bs++Θ n .dead) k=af.at bs k:=by
 simp only [af.at,M,Γ];split
 ·rfl
 ·rename_i h;rw [ψ (by omega:É bs<=k),Ξ];split <;> rfl
theorem Mem.pad (hm:Mem g bs w) (n:N):Mem g (bs++Θ n .dead) w:=
 ⟨fun k hk=>hm.no k (by rwa [nU] at hk),fun k ty cs hk=>hm.var k ty cs (by rwa [nU] at hk),fun k sh sz es hk=>hm.sl k sh sz es (by rwa [nU] at hk),fun k st hk=>hm.loop k st (by rwa [nU] at hk),fun k es clock hk=>hm.mp k es clock (by rwa [nU] at hk),fun k hk=>hm.gone k (by rwa [nU] at hk),fun k o hk=>hm.it k o (by rwa [nU] at hk),hm.inj,fun b o hs=>by
  obtain ⟨h1,h2⟩:=hm.dh b o hs;exact ⟨h1,fun k hk=>by obtain ⟨ty,sz,es,h3,h4⟩:=h2 k hk;exact ⟨ty,sz,es,by rw [nU];exact h3,h4⟩⟩,hm.kn⟩
def Jl (ds:I Deferred) (g:Gh) (w:η) (s':St) (a':Act) (w':η):Prop:=a'.defers=ds/\ ∃g',Mem g' s'.b w'/\gv g' w' s'.t a'/\Le g w g' w'/\Fr g w g' w'
theorem put_defers (a:Act) (d:Δ Tmp) (v:H):(a.put d v).defers=a.defers:=by cases d <;> rfl
theorem qj {c:aD} (hc:cb c P) {cf:aQ} (ł:rZ P cf) (Ń:E7 P c) {ops:μ Oper} {Q:Exit->Act->η->Prop} {s':St} {g0:Gh} {w0:η} {ds:I Deferred} {ro:Δ N}
  (hQ: ∀a' w',Jl ds g0 w0 s' a' w'->Q .normal a' w'):
  ∀(l:I Oper) (id:N) (t:Env) (bs:I af) (g:Gh) (w:η) (a:Act),rM c cf ops l id t bs=B s'->Mem g bs w->gv g w t a->a.defers=ds->Le g0 w0 g w->Fr g0 w0 g w->wpListIn (FW ro) 0 P ops Q l a w
 | [],id,t,bs,g,w,a,h,hm,ht,hd,hl,hf=>by
  cases h;exact hQ a w ⟨hd,g,hm,ht,hl,hf⟩
 | o::r,id,t,bs,g,w,a,h,hm,ht,hd,hl,hf=>by
  simp only [rM] at h;unfold wpListIn;split at h
  ·rename_i hw;rw [kN ht hw,θ rfl];split at h
   ·rename_i v e hop;split at h
    ·rename_i bs' he;refine nX hc ł Ń hm ht hop he (fun v' w' g' k1 k2 k3 k4=> ?_) ro;exact qj hc ł Ń hQ r _ _ _ g' w' _ h k1 ((ht.mono k2).put o.dst k4) (by rw [put_defers];exact hd) (hl.trans k2) (hf.trans k3)
    ·cases h
   ·cases h
  ·rename_i hw;rw [kN ht hw,ο (by simp)];refine ⟨fun _ _=>trivial,?_⟩;exact qj hc ł Ń hQ r _ _ _ g w _ h hm (ht.put o.dst (.aK [] #[] rfl (fun i c v h=>by simp at h))) (by rw [put_defers];exact hd) hl hf
  ·cases h
end
end Go.Am
namespace Go.Am
variable [Kn]
section
variable {P:υ} {g:Gh} {bs:I af} {w:η}
theorem Ut (hm:Mem g bs w) {t:Env} {a:Act} (ht:gv g w t a) {o:Oper} {x:Operand} (hop:o.op= .next x φ) {k m clock:N} {seen:I N} {es:I (AV×AV×N)} (hx:ev t x= .lU k) (hk:af.at bs k= .iter (.map m seen clock)) (hmp:af.at bs m= .mp es clock)
  {K:Act->η->Prop} {Q:Exit->Act->η->Prop}
  (hK0:(∀e∈es,seen.contains e.2.2=κ)-> ∀v w' g',Mem g' bs w'->Le g w g' w'->Fr g w g' w'->Rd g' w' (.aK [.bool φ]) v->K (a.put o.dst v) w')
  (hK1: ∀e∈es,seen.contains e.2.2=false-> ∀v w' g',Mem g' (bs.set k (.iter (.map m (seen++ [e.2.2]) clock))) w'->Le g w g' w'->Fr g w g' w'->Rd g' w' (.aK [.bool κ,e.1,e.2.1]) v->K (a.put o.dst v) w')
  (ro:Δ N):o.wpIn (FW ro) 0 P a w K Q:=by
 have hnd: ∀x,o.op≠ .defer x:=fun x hx=>by rw [hx] at hop;cases hop
 refine ⟨fun _ _=>trivial,?_⟩;rw [Oper.semAt_eq _ _ _ hnd];have hev:=ht.ev x;rw [hx] at hev;generalize hu:a.eval x=u at hev;cases hev with
 | lU _ b hg=>
  obtain ⟨b',Ň,hr⟩:=hm.it k _ hk;rw [hg] at Ň;cases Ň;obtain ⟨hmk,bm,hgm,hh⟩:=hr;obtain ⟨bm',ň,ents,hhm,Č,ś⟩:=hm.mp m es clock hmp;rw [hgm] at ň;cases ň
  have Ū: ∀r w',(Instr.next (.pointer (B ⟨b,0,γ⟩)) φ o.type).run P w= .ok r w'->(execOp a.eval o).run P w= .ok (.value r) w':=fun r w' h=>by
   simp only [execOp,hop,hu];exact aZ P w _ _ _ h
  have getb: ∀(i:N) (hi:i<ents.size),∃e,es[i]?=B e/\(fY e.1=κ/\Rd g w e.1 ents[i].key)/\(gE e.2.1=κ/\Rd g w e.2.1 ents[i].val)/\ents[i].born=e.2.2/\ents[i].born<clock:=fun i hi=>by
   have Đ:i<É es:=by omega
   exact ⟨es[i],ζ Đ,ś i es[i] ents[i] (ζ Đ) (ϑ hi)⟩
  rcases run_next_at (P:=P) w o.type b bm clock clock seen.toArray ents clock hh hhm (fun x hx=>by
    obtain ⟨i,hi,rfl⟩:=Ϩ hx;obtain ⟨e,_,_,_,_,h⟩:=getb i (by simpa using hi);simpa using h) (δ _) with ⟨h0,Ā⟩ | ⟨e,he,w1,hw1,Ā⟩
  ·rw [Ū _ _ Ā]
   refine hK0 (fun e he=> ?_) (.tuple #[.bool φ]) w g hm (Le.refl _ _) (Fr.refl _ _) (.aK _ _ rfl (fun i c v hc hv=>by
    match i,hc,hv with
    | 0,hc,hv=>cases hc;cases hv;exact .bool _))
   obtain ⟨i,hi,rfl⟩:=Ϩ he;have Đ:i<ents.size:=by omega
   obtain ⟨e',he',_,_,Ě,_⟩:=getb i Đ;rw [ζ hi] at he';cases he';rcases hc:seen.contains es[i].2.2 with _ | _
   ·exfalso
    have hmem:ents[i]∈leftOf ents seen.toArray:=by unfold leftOf;rw [Ϸ];refine ⟨Array.getElem_mem Đ,?_⟩;rw [Ě];simpa using hc
    have:=Array.size_pos_of_mem hmem;omega
   ·rfl
  ·rw [Ū _ _ Ā];have hem:e∈leftOf ents seen.toArray:=by simpa using he
   unfold leftOf at hem;rw [Ϸ] at hem;obtain ⟨hem,hns⟩:=hem;obtain ⟨i,hi,rfl⟩:=Array.getElem_of_mem hem;obtain ⟨e',he',⟨hk1,hk2⟩,⟨hv1,hv2⟩,Ě,_⟩:=getb i hi
   have hns':seen.contains e'.2.2=false:=by rw [Ě] at hns;simpa using hns
   have hkl:k<É bs:=fA (by rw [hk];simp);have hlt:=bV hh
   have hw:w1.heap=w.heap/\w1.os=w.os/\w1.tape=w.tape/\w1.output=w.output:=by rcases hw1 with rfl | rfl <;> exact ⟨rfl,rfl,rfl,rfl⟩
   generalize hW:ChangeMaps.setBlock w1 b (.mapIter (B bm) clock (seen.toArray.push ents[i].born) clock)=W;have Ő:W.heap=w.heap.setIfInBounds b (.mapIter (B bm) clock (seen.toArray.push ents[i].born) clock):=by rw [<-hW,<-hw.1];rfl
   have ő: ∀b2,b2≠b->W.heap[b2]?=w.heap[b2]?:=fun b2 hne=>by
    rw [Ő,Array.getElem?_setIfInBounds_ne (Ne.symm hne)]
   have Ğ:W.heap[b]?=B (.mapIter (B bm) clock (seen.toArray.push ents[i].born) clock):=by rw [Ő,Array.getElem?_setIfInBounds_self_of_lt hlt]
   have ą: ∀b2 o,g.S b2 o->W.cell? ⟨b2,o,γ⟩=w.cell? ⟨b2,o,γ⟩:=fun b2 o hs=>by
    have hne:b2≠b:=fun e=>by
     obtain ⟨ty,sz,ċ,h3,_⟩:=(hm.dh b2 o hs).2 k (by rw [hg,e];rfl);rw [hk] at h3;cases h3
    unfold World.cell?;rw [ő _ hne]
   obtain ⟨m',l',f'⟩:=hm.upd (id:=k) (x:= .iter (.map m (seen++ [e'.2.2]) clock)) (ge:= .mp b) (S':=g.S) (w':=W) hkl (fun _ _ h=>h) ą (by rw [hg];exact .same _)
    (fun b2 _ hne=>ő b2 (fun e=>hne (by rw [hg,e];rfl))) (by rw [Ő];simp) (fun b2 ė=> .inl (by rw [hg];exact ė)) (by simp) (fun _ _ h=>by cases h) (fun _ _ _ h=>by cases h) (fun _ _ h=> .inl h)
    (fun b2 o hs ė=>by
     obtain ⟨ty,sz,ċ,h3,_⟩:=(hm.dh b2 o hs).2 k (by rw [hg];exact ė)
     rw [hk] at h3;cases h3) (by rw [<-hW];exact hw.2.1) (by rw [<-hW];exact hw.2.2.1) (by rw [<-hW];exact hw.2.2.2) (hit:=fun o' h=>by
      cases h;refine ⟨b,rfl,hmk,bm,?_,?_⟩
      ·rw [Gh.bj _ _ _ (by omega)];exact hgm
      ·rw [Ğ,Ě];simp)
   refine hK1 e' (Ϣ he') hns' (.tuple #[.bool κ,ents[i].key,ents[i].val]) W _ m' l' f' (.aK _ _ rfl (fun j c v hc hv=> ?_))
   match j,hc,hv with
   | 0,hc,hv=>cases hc;cases hv;exact .bool _
   | 1,hc,hv=>cases hc;cases hv;exact hk2.mono l'
   | 2,hc,hv=>cases hc;cases hv;exact hv2.mono l'
end
end Go.Am
