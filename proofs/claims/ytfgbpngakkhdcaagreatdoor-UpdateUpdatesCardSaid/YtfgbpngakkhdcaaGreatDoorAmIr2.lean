/- What expressions ask, and what they hang on. -/
import Derived.Test.YtfgbpngakkhdcaaGreatDoorAmMono
open Array renaming length_toList->ϙ,mem_append->Ψ,replicate->Ν
open Bool renaming false->τ,true->ν,and_assoc->ϖ,and_eq_true->I,and_self->Μ,false_and->Ϫ,false_eq_true->Ξ,false_or->Ϛ,not_eq_true'->Φ,or_eq_false_iff->Θ,or_eq_true->ϋ,or_false->ϯ
open Go renaming Code->Ι,Deferred->Ϭ,Exit->ϫ,FuncId->ώ,IntKind->Β,Oper->Τ,Operand->Υ,Program->Ϝ,TypeId->ω,Value->Ϗ,World->γ,fenced_calm->ϔ,run_endRound->Ϟ,wpIn_cond_false->ϧ,wpIn_mono->ϱ,wpIn_region_any->Ϧ,wpIn_region_list->Ϣ
open Int renaming natCast_nonneg->ϛ,toNat_natCast->ϟ
open List renaming length->É,all_eq_true->ε,cons_append->π,getD_eq_getElem?_getD->H,getElem?_append_left->Λ,getElem?_eq_getElem->Γ,getElem?_eq_none->Η,getElem?_map->Χ,getElem?_set_ne->δ,length_map->ϥ,length_set->Ε,map_congr_left->Ϙ,map_cons->U,mem_append->θ,mem_append_left->Ω,mem_append_right->Α,mem_cons->υ,mem_cons_of_mem->κ,mem_cons_self->η,mem_map_of_mem->χ,mem_of_getElem?->ϊ,mem_range->ϭ,mem_range'_1->ϝ,nodup_cons->Ϥ,nodup_nil->Ϩ,not_mem_nil->μ,pairwise_lt_range'->ϑ,range->ϵ,range'->ϳ,replicate->O,set_append_left->ϕ
open List.cons renaming injEq->Ϸ
open Nat renaming add_zero->ϲ,le_refl->Δ,zero_add->ϒ
open Option renaming none->ο,some->G,getD_some->ϐ,map->ϴ,map_eq_some_iff->Z,map_none->ϣ,map_some->ξ
open Option.some renaming injEq->Y
open Prod.mk renaming injEq->ϰ
open _root_ renaming Array->Κ,Bool->ι,False->Ρ,List->A,Nat->N,Option->C,True->Ϯ,UInt8->ό,absurd->ϩ,beq_iff_eq->Ο,decide_eq_false->ϓ,decide_eq_true_eq->ζ,eq_false->ϗ,eq_true->Ϡ,if_neg->Ζ,if_pos->ϡ,or_false->ύ
set_option linter.all false
namespace Go.Am
theorem Eo: ∀{a b:A ό},Ja a b=true->a=b
 | [], [],_=>rfl
 | [],_::_,h=>by cases h
 | _::_, [],h=>by cases h
 | a::l,b::m,h=>by
  simp only [Ja,I,Ο] at h;rw [h.1,Eo h.2]
theorem KD: ∀{a b:AV},Hb a b=true->a=b:=by
 intro a b h;unfold Hb at h;split at h
 ·simp only [I,Ο] at h;rw [h.1,h.2]
 ·rw [Ο] at h;rw [h]
 ·rw [Eo h]
 ·rfl
 ·cases h
theorem cT: ∀{a b:E},ba a b=true->a=b:=by
 intro a
 induction a <;> intro b h <;> cases b <;> simp only [ba,I,Ο,Ξ] at h
 case cst.cst=>rw [KD h]
 case var.var=>rw [h]
 case bin.bin ih1 ih2 _ _ _ _=>obtain ⟨⟨⟨rfl,rfl⟩,h1⟩,h2⟩:=h;rw [ih1 h1,ih2 h2]
 case un.un ih _ _=>obtain ⟨rfl,h1⟩:=h;rw [ih h1]
 case pick.pick ih1 ih2 ih3 _ _ _=>obtain ⟨⟨h1,h2⟩,h3⟩:=h;rw [ih1 h1,ih2 h2,ih3 h3]
 case guard.guard ih1 ih2 _ _ _=>obtain ⟨⟨h1,rfl⟩,h3⟩:=h;rw [ih1 h1,ih2 h3]
 case and.and ih1 ih2 _ _=>rw [ih1 h.1,ih2 h.2]
 case or.or ih1 ih2 _ _=>rw [ih1 h.1,ih2 h.2]
 case index.index ih1 ih2 _ _ _=>obtain ⟨⟨rfl,h1⟩,h2⟩:=h;rw [ih1 h1,ih2 h2]
 case field.field ih _ _ _=>obtain ⟨⟨rfl,h1⟩,rfl⟩:=h;rw [ih h1]
 case extract.extract ih _ _=>obtain ⟨h1,rfl⟩:=h;rw [ih h1]
 case conv.conv ih _ _ _=>obtain ⟨⟨rfl,rfl⟩,h1⟩:=h;rw [ih h1]
 case toInt.toInt ih _ _=>obtain ⟨rfl,h1⟩:=h;rw [ih h1]
 case len.len ih _ _=>obtain ⟨rfl,h1⟩:=h;rw [ih h1]
 case lenS.lenS ih _=>rw [ih h]
 case slA.slA ih _=>rw [ih h]
 case slL.slL ih1 ih2 _ _=>rw [ih1 h.1,ih2 h.2]
 case slH.slH ih1 ih2 _ _=>rw [ih1 h.1,ih2 h.2]
 case slB.slB ih1 ih2 ih3 _ _ _=>rw [ih1 h.1.1,ih2 h.1.2,ih3 h.2]
 case load.load ih _ _=>obtain ⟨rfl,h1⟩:=h;rw [ih h1]
 case faddr.faddr ih _ _ _=>obtain ⟨⟨rfl,h1⟩,rfl⟩:=h;rw [ih h1]
 case iaddr.iaddr ih1 ih2 _ _ _=>obtain ⟨⟨rfl,h1⟩,h2⟩:=h;rw [ih1 h1,ih2 h2]
 case nilck.nilck ih _=>rw [ih h]
theorem eW {o:Out} {v:AV} (h:th o=G v):o=G (v,.none):=by
 unfold th at h;split at h
 ·cases h;rfl
 ·cases h
theorem eu {x:C AV} {f:AV->C AV} {v:AV} (h:Hc x f=G v): ∃a,x=G a/\f a=G v:=by
 cases x with
 | none=>cases h
 | some a=>exact ⟨a,rfl,h⟩
theorem fB {x y:C AV} {f:AV->AV->C AV} {v:AV} (h:Jb x y f=G v): ∃a b,x=G a/\y=G b/\f a b=G v:=by
 cases x with
 | none=>cases h
 | some a=>cases y with
  | none=>cases h
  | some b=>exact ⟨a,b,rfl,rfl,h⟩
theorem pb {x y z:C AV} {f:AV->AV->AV->C AV} {v:AV} (h:PD x y z f=G v): ∃a b d,x=G a/\y=G b/\z=G d/\f a b d=G v:=by
 cases x with
 | none=>cases h
 | some a=>cases y with
  | none=>cases h
  | some b=>cases z with
   | none=>cases h
   | some d=>exact ⟨a,b,d,rfl,rfl,rfl,h⟩
theorem jn {g e:C AV} {w:ι} {v:AV} (h:nI g w e=G v):(g=G (.bool w)/\e=G v)\/(g=G (.bool (!w))/\v= .aK [])\/(∃l,g=G (.aK l))/\v= .aK []:=by
 unfold nI at h;split at h
 ·rename_i b;split at h
  ·rename_i hb;rw [Ο] at hb;subst hb;exact .inl ⟨rfl,h⟩
  ·rename_i hb;cases h;refine .inr (.inl ⟨?_,rfl⟩);cases b <;> cases w <;> simp_all
 ·cases h;exact .inr (.inr ⟨⟨_,rfl⟩,rfl⟩)
 ·cases h
theorem gw (w:ι) (e:C AV):nI (G (.bool w)) w e=e:=by simp [nI]
theorem uM (w:ι) (e:C AV):nI (G (.bool (!w))) w e=G (.aK []):=by cases w <;> rfl
theorem nJ (w:ι) (l:A AV) (e:C AV):nI (G (.aK l)) w e=G (.aK []):=rfl
theorem mO {p b:C AV} {v:AV} (h:KE p b=G v):(p=G (.bool ν)/\b=G v)\/(p=G (.bool τ)/\v= .bool τ):=by
 unfold KE at h;split at h
 ·exact .inl ⟨rfl,h⟩
 ·cases h;exact .inr ⟨rfl,rfl⟩
 ·cases h
theorem pd {p b:C AV} {v:AV} (h:WW p b=G v):(p=G (.bool τ)/\b=G v)\/(p=G (.bool ν)/\v= .bool ν):=by
 unfold WW at h;split at h
 ·cases h;exact .inr ⟨rfl,rfl⟩
 ·exact .inl ⟨rfl,h⟩
 ·cases h
section
variable {c:aD} {env:A (C AV)}
theorem xX {bs bs':A af}: ∀{e:E},e.reads=false->bQ c env bs e=bQ c env bs' e:=by
 intro e
 induction e <;> intro h <;> simp only [E.reads,Θ,Bool.true_eq_false] at h <;> simp only [bQ]
 case bin ih1 ih2=>rw [ih1 h.1,ih2 h.2]
 case un ih=>rw [ih h]
 case pick ih1 ih2 ih3=>rw [ih1 h.1.1,ih2 h.1.2,ih3 h.2]
 case guard ih1 ih2=>rw [ih1 h.1,ih2 h.2]
 case and ih1 ih2=>rw [ih1 h.1,ih2 h.2]
 case or ih1 ih2=>rw [ih1 h.1,ih2 h.2]
 case index ih1 ih2=>rw [ih1 h.1,ih2 h.2]
 case field ih=>rw [ih h]
 case extract ih=>rw [ih h]
 case toInt ih=>rw [ih h]
 case lenS ih=>rw [ih h]
 case slA ih=>rw [ih h]
 case slL ih1 ih2=>rw [ih1 h.1,ih2 h.2]
 case slH ih1 ih2=>rw [ih1 h.1,ih2 h.2]
 case slB ih1 ih2 ih3=>rw [ih1 h.1.1,ih2 h.1.2,ih3 h.2]
 case nilck ih=>rw [ih h]
theorem CP {bs:A af} {k:N} {x:C AV}: ∀{e:E},e.looks k=false->bQ c (env.set k x) bs e=bQ c env bs e:=by
 intro e
 induction e <;> intro h <;> simp only [E.looks,Θ,beq_eq_false_iff_ne,ne_eq] at h <;> simp only [bQ]
 case var i=>simp only [lX,H,δ h]
 case bin ih1 ih2=>rw [ih1 h.1,ih2 h.2]
 case un ih=>rw [ih h]
 case pick ih1 ih2 ih3=>rw [ih1 h.1.1,ih2 h.1.2,ih3 h.2]
 case guard ih1 ih2=>rw [ih1 h.1,ih2 h.2]
 case and ih1 ih2=>rw [ih1 h.1,ih2 h.2]
 case or ih1 ih2=>rw [ih1 h.1,ih2 h.2]
 case index ih1 ih2=>rw [ih1 h.1,ih2 h.2]
 case field ih=>rw [ih h]
 case extract ih=>rw [ih h]
 case conv ih=>rw [ih h]
 case toInt ih=>rw [ih h]
 case len ih=>rw [ih h]
 case lenS ih=>rw [ih h]
 case slA ih=>rw [ih h]
 case slL ih1 ih2=>rw [ih1 h.1,ih2 h.2]
 case slH ih1 ih2=>rw [ih1 h.1,ih2 h.2]
 case slB ih1 ih2 ih3=>rw [ih1 h.1.1,ih2 h.1.2,ih3 h.2]
 case load ih=>rw [ih h]
 case faddr ih=>rw [ih h]
 case iaddr ih1 ih2=>rw [ih1 h.1,ih2 h.2]
 case nilck ih=>rw [ih h]
theorem j5 {bs:A af} {g:E} {w:ι} (hg:bQ c env bs g=G (.bool w)): ∀(e:E),bQ c env bs (bP g w e)=bQ c env bs e:=by
 intro e
 induction e <;> simp only [bP]
 case guard x v y ih1 ih2=>
  split
  ·rename_i h;simp only [I,Ο] at h;obtain ⟨h1,rfl⟩:=h;obtain rfl:=cT h1;rw [ih2];simp only [bQ];rw [hg,gw]
  ·simp only [bQ];rw [ih1,ih2]
 all_goals simp only [bQ, *]
theorem nK {bs:A af} {g:E} {w:ι} (hg:bQ c env bs g=G (.bool (!w))\/ ∃l,bQ c env bs g=G (.aK l)): ∀{e:E},qf g w e=true->bQ c env bs e=G (.aK []):=by
 intro e
 induction e <;> intro h <;> simp only [qf,Ξ] at h
 case guard x v y ih1 ih2=>
  simp only [ϋ,I,Ο] at h;simp only [bQ];rcases h with ⟨h1,rfl⟩ | h1
  ·obtain rfl:=cT h1;rcases hg with hg | ⟨l,hg⟩
   ·rw [hg,uM]
   ·rw [hg,nJ]
  ·rw [ih1 h1,nJ]
theorem He {bs:A af}: ∀{F e:E},e.within F=true->(bQ c env bs F).isSome=true->(bQ c env bs e).isSome=true:=by
 intro F
 induction F <;> intro e h hF <;> simp only [E.within,ϋ,I] at h
 case var=>rw [cT h];exact hF
 case cst=>rw [cT h];exact hF
 case guard g w x ih1 ih2=>
  rcases h with (h | h) | ⟨h1,h2⟩
  ·rw [cT h];exact hF
  ·obtain ⟨v,hv⟩:=Option.isSome_iff_exists.1 hF;refine ih1 h ?_;simp only [bQ] at hv;rcases jn hv with ⟨h1,h2⟩ | ⟨h1,rfl⟩ | ⟨⟨l,h1⟩,rfl⟩ <;> rw [h1] <;> rfl
  ·obtain ⟨v,hv⟩:=Option.isSome_iff_exists.1 hF;simp only [bQ] at hv;rcases jn hv with ⟨h3,h4⟩ | ⟨h3,rfl⟩ | ⟨h3,rfl⟩
   ·rw [<-j5 h3];exact ih2 h2 (by rw [h4];rfl)
   ·rw [nK (.inl h3) h1];rfl
   ·rw [nK (.inr h3) h1];rfl
 case and g x ih1 ih2=>
  rcases h with (h | h) | ⟨h1,h2⟩
  ·rw [cT h];exact hF
  ·obtain ⟨v,hv⟩:=Option.isSome_iff_exists.1 hF;refine ih1 h ?_;simp only [bQ] at hv;rcases mO hv with ⟨h1,h2⟩ | ⟨h1,rfl⟩ <;> rw [h1] <;> rfl
  ·obtain ⟨v,hv⟩:=Option.isSome_iff_exists.1 hF;simp only [bQ] at hv;rcases mO hv with ⟨h3,h4⟩ | ⟨h3,rfl⟩
   ·rw [<-j5 h3];exact ih2 h2 (by rw [h4];rfl)
   ·rw [nK (.inl h3) h1];rfl
 case or g x ih1 ih2=>
  rcases h with (h | h) | ⟨h1,h2⟩
  ·rw [cT h];exact hF
  ·obtain ⟨v,hv⟩:=Option.isSome_iff_exists.1 hF;refine ih1 h ?_;simp only [bQ] at hv;rcases pd hv with ⟨h1,h2⟩ | ⟨h1,rfl⟩ <;> rw [h1] <;> rfl
  ·obtain ⟨v,hv⟩:=Option.isSome_iff_exists.1 hF;simp only [bQ] at hv;rcases pd hv with ⟨h3,h4⟩ | ⟨h3,rfl⟩
   ·rw [<-j5 h3];exact ih2 h2 (by rw [h4];rfl)
   ·rw [nK (.inl h3) h1];rfl
 case pick p x y ih1 ih2 ih3=>
  obtain ⟨v,hv⟩:=Option.isSome_iff_exists.1 hF;simp only [bQ] at hv;obtain ⟨a,b,d,h1,h2,h3,h4⟩:=pb hv;rcases h with ((h | h) | h) | h
  ·rw [cT h];exact hF
  ·exact ih1 h (by rw [h1];rfl)
  ·exact ih2 h (by rw [h2];rfl)
  ·exact ih3 h (by rw [h3];rfl)
 case slB p x y ih1 ih2 ih3=>
  obtain ⟨v,hv⟩:=Option.isSome_iff_exists.1 hF;simp only [bQ] at hv;obtain ⟨a,b,d,h1,h2,h3,h4⟩:=pb hv;rcases h with ((h | h) | h) | h
  ·rw [cT h];exact hF
  ·exact ih1 h (by rw [h1];rfl)
  ·exact ih2 h (by rw [h2];rfl)
  ·exact ih3 h (by rw [h3];rfl)
 case bin ih1 ih2=>
  obtain ⟨v,hv⟩:=Option.isSome_iff_exists.1 hF;simp only [bQ] at hv;obtain ⟨a,b,h1,h2,h3⟩:=fB hv;rcases h with (h | h) | h
  ·rw [cT h];exact hF
  ·exact ih1 h (by rw [h1];rfl)
  ·exact ih2 h (by rw [h2];rfl)
 case index ih1 ih2=>
  obtain ⟨v,hv⟩:=Option.isSome_iff_exists.1 hF;simp only [bQ] at hv;obtain ⟨a,b,h1,h2,h3⟩:=fB hv;rcases h with (h | h) | h
  ·rw [cT h];exact hF
  ·exact ih1 h (by rw [h1];rfl)
  ·exact ih2 h (by rw [h2];rfl)
 case slL ih1 ih2=>
  obtain ⟨v,hv⟩:=Option.isSome_iff_exists.1 hF;simp only [bQ] at hv;obtain ⟨a,b,h1,h2,h3⟩:=fB hv;rcases h with (h | h) | h
  ·rw [cT h];exact hF
  ·exact ih1 h (by rw [h1];rfl)
  ·exact ih2 h (by rw [h2];rfl)
 case slH ih1 ih2=>
  obtain ⟨v,hv⟩:=Option.isSome_iff_exists.1 hF;simp only [bQ] at hv;obtain ⟨a,b,h1,h2,h3⟩:=fB hv;rcases h with (h | h) | h
  ·rw [cT h];exact hF
  ·exact ih1 h (by rw [h1];rfl)
  ·exact ih2 h (by rw [h2];rfl)
 case iaddr ih1 ih2=>
  obtain ⟨v,hv⟩:=Option.isSome_iff_exists.1 hF;simp only [bQ] at hv;obtain ⟨a,b,h1,h2,h3⟩:=fB hv;rcases h with (h | h) | h
  ·rw [cT h];exact hF
  ·exact ih1 h (by rw [h1];rfl)
  ·exact ih2 h (by rw [h2];rfl)
 all_goals
  rename_i ih;obtain ⟨v,hv⟩:=Option.isSome_iff_exists.1 hF;simp only [bQ] at hv;obtain ⟨a,h1,h2⟩:=eu hv;rcases h with h | h
  ·rw [cT h];exact hF
  ·exact ih h (by rw [h1];rfl)
theorem Jc {bs:A af} {bad:E->ι}: ∀{F e:E},e∈dY bad F->(bQ c env bs F).isSome=true->(bQ c env bs e).isSome=true:=by
 have į: ∀{g x e:E} {w:ι} {v:AV},e∈(dY bad x).map (.guard g w)->(∀{e},e∈dY bad x->(bQ c env bs x).isSome=true->(bQ c env bs e).isSome=ν)->nI (bQ c env bs g) w (bQ c env bs x)=G v->(bQ c env bs e).isSome=true:=by
  intro g x e w v he ih hv;obtain ⟨y,hy,rfl⟩:=List.mem_map.1 he;simp only [bQ];rcases jn hv with ⟨h1,h2⟩ | ⟨h1,rfl⟩ | ⟨⟨l,h1⟩,rfl⟩
  ·rw [h1,gw];exact ih hy (by rw [h2];rfl)
  ·rw [h1,uM];rfl
  ·rw [h1,nJ];rfl
 intro F
 induction F <;> intro e h hF <;> simp only [dY] at h
 case guard g w x ih1 ih2=>
  split at h
  case h_2=>simp only [υ,μ,ύ] at h;rw [h];exact hF
  obtain ⟨v,hv⟩:=Option.isSome_iff_exists.1 hF;simp only [bQ] at hv;rw [θ] at h;rcases h with h | h
  ·refine ih1 h ?_;rcases jn hv with ⟨h1,h2⟩ | ⟨h1,rfl⟩ | ⟨⟨l,h1⟩,rfl⟩ <;> rw [h1] <;> rfl
  ·split at h
   ·cases h
   ·exact į h ih2 hv
 case and g x ih1 ih2=>
  split at h
  case h_2=>simp only [υ,μ,ύ] at h;rw [h];exact hF
  obtain ⟨v,hv⟩:=Option.isSome_iff_exists.1 hF;simp only [bQ] at hv;rw [θ] at h;rcases h with h | h
  ·refine ih1 h ?_;rcases mO hv with ⟨h1,h2⟩ | ⟨h1,rfl⟩ <;> rw [h1] <;> rfl
  ·split at h
   ·cases h
   ·rcases mO hv with ⟨h1,h2⟩ | ⟨h1,rfl⟩
    ·exact į (v:=v) h ih2 (by rw [h1,gw];exact h2)
    ·exact į (v:= .aK []) h ih2 (by rw [h1];rfl)
 case or g x ih1 ih2=>
  split at h
  case h_2=>simp only [υ,μ,ύ] at h;rw [h];exact hF
  obtain ⟨v,hv⟩:=Option.isSome_iff_exists.1 hF;simp only [bQ] at hv;rw [θ] at h;rcases h with h | h
  ·refine ih1 h ?_;rcases pd hv with ⟨h1,h2⟩ | ⟨h1,rfl⟩ <;> rw [h1] <;> rfl
  ·split at h
   ·cases h
   ·rcases pd hv with ⟨h1,h2⟩ | ⟨h1,rfl⟩
    ·exact į (v:=v) h ih2 (by rw [h1,gw];exact h2)
    ·exact į (v:= .aK []) h ih2 (by rw [h1];rfl)
 all_goals
  split at h
  case h_2=>simp only [υ,μ,ύ] at h;rw [h];exact hF
  obtain ⟨v,hv⟩:=Option.isSome_iff_exists.1 hF;simp only [bQ] at hv
  first
   | (simp only [μ] at h;done)
   | (obtain ⟨a, b, d, h1, h2, h3, h4⟩ := pb hv
      rename_i ih1 ih2 ih3 _ _;simp only [θ] at h;rcases h with h | h | h
      ·exact ih1 h (by rw [h1]; rfl)
      ·exact ih2 h (by rw [h2]; rfl)
      ·exact ih3 h (by rw [h3]; rfl))
   | (obtain ⟨a, b, h1, h2, h3⟩ := fB hv
      rename_i ih1 ih2 _ _;simp only [θ] at h;rcases h with h | h
      ·exact ih1 h (by rw [h1]; rfl)
      ·exact ih2 h (by rw [h2]; rfl))
   | (obtain ⟨a, h1, h2⟩ := eu hv
      rename_i ih _ _;exact ih h (by rw [h1]; rfl))
theorem Aw {bad:E->ι} (hb: ∀g w x,bad (.guard g w x)=(bad g || bad x)): ∀{F e:E},e∈dY bad F->bad e=false:=by
 have į: ∀{g x e:E} {w:ι},e∈(match bad g with | true=> [] | false=>(dY bad x).map (E.guard g w))->(∀{e},e∈dY bad x->bad e=τ)->bad e=false:=by
  intro g x e w he ih;split at he
  ·cases he
  ·rename_i hg;obtain ⟨y,hy,rfl⟩:=List.mem_map.1 he;rw [hb,hg,ih hy];rfl
 intro F
 induction F <;> intro e h <;> simp only [dY] at h
 case guard g w x ih1 ih2=>
  split at h
  case h_2=>simp only [υ,μ,ύ] at h;rw [h];assumption
  rw [θ] at h;rcases h with h | h
  ·exact ih1 h
  ·exact į h ih2
 case and g x ih1 ih2=>
  split at h
  case h_2=>simp only [υ,μ,ύ] at h;rw [h];assumption
  rw [θ] at h;rcases h with h | h
  ·exact ih1 h
  ·exact į h ih2
 case or g x ih1 ih2=>
  split at h
  case h_2=>simp only [υ,μ,ύ] at h;rw [h];assumption
  rw [θ] at h;rcases h with h | h
  ·exact ih1 h
  ·exact į h ih2
 all_goals
  split at h
  case h_2=>simp only [υ,μ,ύ] at h;rw [h];assumption
  first
   | (simp only [μ] at h;done)
   | (rename_i ih1 ih2 ih3 _ _
      simp only [θ] at h;rcases h with h | h | h
      ·exact ih1 h
      ·exact ih2 h
      ·exact ih3 h)
   | (rename_i ih1 ih2 _ _
      simp only [θ] at h;rcases h with h | h
      ·exact ih1 h
      ·exact ih2 h)
   | (rename_i ih _ _
      exact ih h)
end
end Go.Am
namespace Go.Am
theorem MO (c:aD) (cf:aQ) (op:Op) (t:Env) (bs:A af) (id:N):bB c cf op t bs id=ew c cf op (ev t) bs id:=by
 cases op
 case call k=>
  obtain ⟨callee,args,ts⟩:=k;cases callee <;> rfl
 all_goals rfl
theorem nM {φ ψ:Υ->AV} {l:A Υ} (h: ∀x∈l,φ x=ψ x):l.map φ=l.map ψ:=Ϙ h
theorem tj {φ ψ:Υ->AV} {l:A (N×Υ)} (h: ∀x∈l.map (·.2),φ x=ψ x):(l.map fun p=>(p.1,φ p.2))=l.map fun p=>(p.1,ψ p.2):=
 Ϙ fun p hp=>by rw [h p.2 (χ hp)]
theorem rP {φ ψ:Υ->AV} {x:C Υ} (h: ∀y∈x.toArray,φ y=ψ y):x.map φ=x.map ψ:=by
 cases x with
 | none=>rfl
 | some x=>simp only [ξ];rw [h x (by simp)]
theorem rQ (c:aD) {op:Op} {φ ψ:Υ->AV} (h: ∀x∈op.operands,φ x=ψ x) (bs:A af) (id:N):dx c op φ bs id=dx c op ψ bs id:=by
 cases op <;> simp only [Op.operands] at h
 case move x=>simp only [dx];rw [h x (by simp)]
 case assign x=>simp only [dx];rw [h x (by simp)]
 case pick x y z=>simp only [dx];rw [h x (by simp),h y (by simp),h z (by simp)]
 case box e x=>simp only [dx];rw [h x (by simp)]
 case build ty ps=>simp only [dx];rw [tj (fun x hx=>h x (by simpa using hx))]
 case buildSlice ty n ps=>simp only [dx];rw [tj (fun x hx=>h x (by simpa using hx))]
 case load ty x=>simp only [dx];rw [h x (by simp)]
 case store ty x y=>simp only [dx];rw [h x (by simp),h y (by simp)]
 case nilCheck x=>simp only [dx];rw [h x (by simp)]
 case makeInterface ty x=>simp only [dx];rw [h x (by simp)]
 case binOp o ty x y ty'=>simp only [dx];rw [h x (by simp),h y (by simp)]
 case unOp o ty x=>simp only [dx];rw [h x (by simp)]
 case convert s d x=>simp only [dx];rw [h x (by simp)]
 case makeFunc fn first caps=>
  cases fn <;> first
   | rfl
   | (simp only [dx];rw [nM (fun x hx=>h x (by simp at hx⊢;exact .inl hx)),nM (fun x hx=>h x (by simp at hx⊢;exact .inr hx))])
 case makeSlice ty x y=>simp only [dx];rw [h x (by simp),h y (by simp)]
 case slice ty x lo hi mx=>
  have h1:=rP (x:=lo) (fun y hy=>h y (by simp only [Ψ];exact .inl (.inl (.inr hy))));have h2:=rP (x:=hi) (fun y hy=>h y (by simp only [Ψ];exact .inl (.inr hy)));simp only [dx];rw [h x (by simp),h1,h2];cases mx with
  | none=>rfl
  | some m=>simp only;rw [h m (by simp)]
 case fieldAddr ty x f=>simp only [dx];rw [h x (by simp)]
 case field ty x f=>simp only [dx];rw [h x (by simp)]
 case indexAddr ty x y=>simp only [dx];rw [h x (by simp),h y (by simp)]
 case index ty x y=>simp only [dx];rw [h x (by simp),h y (by simp)]
 case extract x i=>simp only [dx];rw [h x (by simp)]
 case makeMap ty r=>simp only [dx];rw [rP h]
 case range ty x=>simp only [dx];rw [h x (by simp)]
 case next x str=>simp only [dx];rw [h x (by simp)]
 case lookup ty x k ok=>simp only [dx];rw [h x (by simp),h k (by simp)]
 case mapUpdate ty m k x=>simp only [dx];rw [h m (by simp),h k (by simp),h x (by simp)]
 case insert ty m k x=>simp only [dx];rw [h m (by simp),h k (by simp),h x (by simp)]
 case mapEntry ty m k=>simp only [dx];rw [h m (by simp),h k (by simp)]
 case entryStore ty m s x=>simp only [dx];rw [h m (by simp),h s (by simp),h x (by simp)]
 case entry x=>simp only [dx];rw [h x (by simp)]
 case call k=>
  obtain ⟨callee,args,ts⟩:=k;simp only [dx];rw [nM (fun x hx=>h x (by simp only [Call.operands,Ψ];exact .inr (by simpa using hx)))]
 all_goals rfl
theorem Ep (c:aD) (cf:aQ) {op:Op} {φ ψ:Υ->AV} (h: ∀x∈op.operands,φ x=ψ x) (bs:A af) (id:N):ew c cf op φ bs id=ew c cf op ψ bs id:=by
 unfold ew;split
 ·rename_i k;obtain ⟨callee,args,ts⟩:=k;simp only;cases callee with
  | value f=>simp only;rw [h f (by simp [Op.operands,Call.operands]),nM (fun x hx=>h x (by simp only [Op.operands,Call.operands,Ψ];exact .inr (by simpa using hx)))]
  | invoke r m=>exact rQ c h bs id
  | builtin b=>exact rQ c h bs id
 ·exact rQ c h bs id
theorem dN {x:C E} {f:E->E} {e:E} (h:iB x f=G e): ∃a,x=G a/\e=f a:=by
 unfold iB at h;cases x with
 | none=>cases h
 | some a=>cases h;exact ⟨a,rfl,rfl⟩
theorem kI {x y:C E} {f:E->E->E} {e:E} (h:tm x y f=G e): ∃a b,x=G a/\y=G b/\e=f a b:=by
 unfold tm at h;split at h
 ·cases h;exact ⟨_,_,rfl,rfl,rfl⟩
 ·cases h
theorem xY {x y z:C E} {f:E->E->E->E} {e:E} (h:Er x y z f=G e): ∃a b d,x=G a/\y=G b/\z=G d/\e=f a b d:=by
 unfold Er at h;split at h
 ·cases h;exact ⟨_,_,_,rfl,rfl,rfl,rfl⟩
 ·cases h
theorem Hf {c:aD} {env:A (C AV)} {bs:A af} {p a b:E} {v:AV} (h:bQ c env bs (Hg p a b)=G v):bQ c env bs (.pick p a b)=G v:=by
 unfold Hg at h;split at h
 ·split at h
  ·rename_i hs;obtain rfl:=cT hs;simp only [bQ] at h⊢;rcases mO h with ⟨h1,h2⟩ | ⟨h1,rfl⟩
   ·rw [h1,gw,h2];rfl
   ·rw [h1];rfl
  ·exact h
 ·split at h
  ·rename_i hs;obtain rfl:=cT hs;simp only [bQ] at h⊢;rcases pd h with ⟨h1,h2⟩ | ⟨h1,rfl⟩
   ·rw [h1,gw,h2];rfl
   ·rw [h1];rfl
  ·exact h
 ·exact h
theorem Hh {c:aD} {s d:C TI} {x r:AV} {bs:A af} {i j:N} (h:et c s d x bs i=G (r,.none)):et c s d x bs j=G (r,.none):=by
 unfold et at h⊢
 repeat' (first | exact h | (split at h <;> try (cases h;done)))
 all_goals first
  | exact h
  | (simp_all;done)
theorem Qa {c:aD} {cf:aQ} {env:A (C AV)} {bs:A af} {ρ:Υ->C E} {φ:Υ->AV} (hρ: ∀x e v,ρ x=G e->bQ c env bs e=G v->φ x=v) {op:Op} {e:E} {v:AV}
  (h:nN c ρ op=G e) (hv:bQ c env bs e=G v) (id:N):ew c cf op φ bs id=G (v,.none):=by
 unfold nN at h;split at h
 ·simp only [ew,dx];rw [hρ _ _ _ h hv]
 ·simp only [ew,dx];rw [hρ _ _ _ h hv]
 ·obtain ⟨a,b,d,h1,h2,h3,rfl⟩:=xY h;have hv:=Hf hv;simp only [bQ] at hv;obtain ⟨x,y,z,k1,k2,k3,k4⟩:=pb hv;simp only [ew,dx];rw [hρ _ _ _ h1 k1,hρ _ _ _ h2 k2,hρ _ _ _ h3 k3];exact eW k4
 ·split at h
  ·cases h
  rename_i hq;obtain ⟨a,b,h1,h2,rfl⟩:=kI h;simp only [bQ] at hv;obtain ⟨x,y,k1,k2,k3⟩:=fB hv;simp only [ew,dx,Km,hq];rw [hρ _ _ _ h1 k1,hρ _ _ _ h2 k2,k3];rfl
 ·obtain ⟨a,h1,rfl⟩:=dN h;simp only [bQ] at hv;obtain ⟨x,k1,k2⟩:=eu hv;simp only [ew,dx];rw [hρ _ _ _ h1 k1,k2];rfl
 ·obtain ⟨a,b,h1,h2,rfl⟩:=kI h;simp only [bQ] at hv;obtain ⟨x,y,k1,k2,k3⟩:=fB hv;simp only [ew,dx];rw [hρ _ _ _ h1 k1,hρ _ _ _ h2 k2];exact eW k3
 ·obtain ⟨a,h1,rfl⟩:=dN h;simp only [bQ] at hv;obtain ⟨x,k1,k2⟩:=eu hv;simp only [ew,dx];rw [hρ _ _ _ h1 k1];exact eW k2
 ·obtain ⟨a,h1,rfl⟩:=dN h;simp only [bQ] at hv;obtain ⟨x,k1,k2⟩:=eu hv;simp only [ew,dx];rw [hρ _ _ _ h1 k1];exact eW k2
 ·-- convert
  simp only [ew,dx];split at h
  ·rename_i hs hd;obtain ⟨a,h1,rfl⟩:=dN h;simp only [bQ] at hv;obtain ⟨x,k1,k2⟩:=eu hv;rw [hρ _ _ _ h1 k1];simp only [aD.descOf,Z] at hs hd;obtain ⟨i,hi,hi2⟩:=hs;obtain ⟨j,hj,ő⟩:=hd;unfold Hi at k2;split at k2
   ·cases k2;simp only [hi,hj,et,ő]
   ·cases k2
  ·cases h
  ·obtain ⟨a,h1,rfl⟩:=dN h;simp only [bQ] at hv;obtain ⟨x,k1,k2⟩:=eu hv;rw [hρ _ _ _ h1 k1];exact Hh (eW k2)
 ·obtain ⟨a,h1,rfl⟩:=dN h;simp only [bQ] at hv;obtain ⟨x,k1,k2⟩:=eu hv;simp only [ew,dx];rw [hρ _ _ _ h1 k1];exact eW k2
 ·obtain ⟨a,h1,rfl⟩:=dN h;simp only [bQ] at hv;obtain ⟨x,k1,k2⟩:=eu hv;simp only [ew,dx];rw [hρ _ _ _ h1 k1];exact eW k2
 ·obtain ⟨a,b,h1,h2,rfl⟩:=kI h;simp only [bQ] at hv;obtain ⟨x,y,k1,k2,k3⟩:=fB hv;simp only [ew,dx];rw [hρ _ _ _ h1 k1,hρ _ _ _ h2 k2];exact eW k3
 ·obtain ⟨a,h1,rfl⟩:=dN h;simp only [bQ] at hv;obtain ⟨x,k1,k2⟩:=eu hv;simp only [ew,dx];rw [hρ _ _ _ h1 k1];exact eW k2
 ·-- slice
  have sl: ∀{x r:AV} {lo hi:C AV},rR x lo hi=G r->dX c .string x lo hi bs=G (r,.none):=by
   intro x r lo hi h;unfold rR at h;split at h
   ·simp only [dX];split at h
    ·rename_i hh;rw [hh];simp only;split at h
     ·rename_i hl;rw [hl];cases h;rfl
     ·cases h
    ·cases h
   ·cases h
  split at h
  ·rename_i hd;simp only [aD.descOf,Z] at hd;obtain ⟨j,hj,ő⟩:=hd;simp only [ew,dx,hj,ő];split at h
   ·obtain ⟨a,h1,rfl⟩:=dN h;simp only [bQ] at hv;obtain ⟨x,k1,k2⟩:=eu hv;rw [hρ _ _ _ h1 k1];exact sl k2
   ·obtain ⟨a,b,h1,h2,rfl⟩:=kI h;simp only [bQ] at hv;obtain ⟨x,y,k1,k2,k3⟩:=fB hv;simp only [ξ,ϣ];rw [hρ _ _ _ h1 k1,hρ _ _ _ h2 k2];exact sl k3
   ·obtain ⟨a,b,h1,h2,rfl⟩:=kI h;simp only [bQ] at hv;obtain ⟨x,y,k1,k2,k3⟩:=fB hv;simp only [ξ,ϣ];rw [hρ _ _ _ h1 k1,hρ _ _ _ h2 k2];exact sl k3
   ·obtain ⟨a,b,d,h1,h2,h3,rfl⟩:=xY h;simp only [bQ] at hv;obtain ⟨x,y,z,k1,k2,k3,k4⟩:=pb hv;simp only [ξ];rw [hρ _ _ _ h1 k1,hρ _ _ _ h2 k2,hρ _ _ _ h3 k3];exact sl k4
  ·cases h
 ·-- len
  rename_i k;obtain ⟨callee,args,ts⟩:=k;simp only at h;split at h
  ·rename_i hts Ĥ;simp only [ew,dx];rw [hts,Ĥ];simp only [U,List.map_nil,eR];split at h
   ·rename_i hd;simp only [aD.descOf,Z] at hd;obtain ⟨j,hj,ő⟩:=hd;obtain ⟨a,h1,rfl⟩:=dN h;simp only [bQ] at hv;obtain ⟨x,k1,k2⟩:=eu hv;rw [hρ _ _ _ h1 k1];unfold MP at k2;split at k2
    ·cases k2;simp only [hj,ő,rI]
    ·cases k2
   ·obtain ⟨a,h1,rfl⟩:=dN h;simp only [bQ] at hv;obtain ⟨x,k1,k2⟩:=eu hv;rw [hρ _ _ _ h1 k1];have:=eW k2;unfold Up at this;exact this
  ·cases h
 ·cases h
end Go.Am
namespace Go.Am
section
variable {c:aD} {cf:aQ} {base:N} {kl:A N}
abbrev seen (base:N) (kl:A N) (bs:A af):A af:=bp (kl.map (base+ ·)) bs
theorem pe {env:A (C AV)} {bs:A af}: ∀{l:A (N×E)} {vs:A (N×AV)},qJ c env bs l=G vs-> ∀i e,(i,e)∈l-> ∃v,bQ c env bs e=G v/\(i,v)∈vs
 | [],vs,h,i,e,hm=>by cases hm
 | (j,f)::r,vs,h,i,e,hm=>by
  simp only [qJ] at h;split at h
  ·rename_i v hv;split at h
   ·rename_i l hl;cases h;rcases List.mem_cons.1 hm with h1 | h1
    ·cases h1;exact ⟨v,hv,η⟩
    ·obtain ⟨u,h2,h3⟩:=pe hl i e h1;exact ⟨u,h2,κ _ h3⟩
   ·cases h
  ·cases h
theorem mP {env:A (C AV)} {bs:A af}: ∀{l:A (N×E)} {vs:A (N×AV)},qJ c env bs l=G vs->vs.map (·.1)=l.map (·.1)
 | [],vs,h=>by cases h;rfl
 | (j,f)::r,vs,h=>by
  simp only [qJ] at h;split at h
  ·split at h
   ·rename_i l hl;cases h;simp only [U,mP hl]
   ·cases h
  ·cases h
theorem lZ: ∀(vs:A (N×AV)) (env:A (C AV)),(dV env vs).length=É env
 | [],_=>rfl
 | (i,v)::r,env=>by simp only [dV];rw [lZ r];simp
theorem l5 {k:N}: ∀(vs:A (N×AV)) (env:A (C AV)),(∀p∈vs,p.1≠k)->(dV env vs).getD k ο=env.getD k ο
 | [],_,_=>rfl
 | (i,v)::r,env,h=>by
  simp only [dV];rw [l5 r _ fun p hp=>h p (κ _ hp)];simp only [H];rw [δ (h (i,v) η)]
theorem xZ {k:N} {v:AV}: ∀(vs:A (N×AV)) (env:A (C AV)),(vs.map (·.1)).Nodup->(k,v)∈vs->k<É env->(dV env vs).getD k ο=G v
 | [],_,_,h,_=>by cases h
 | (i,u)::r,env,hn,h,hk=>by
  simp only [U,Ϥ] at hn;simp only [dV];rcases List.mem_cons.1 h with h1 | h1
  ·cases h1;rw [l5 r _ fun p hp e=>hn.1 (by rw [<-e];exact χ hp)];simp [H,hk]
  ·exact xZ r _ hn.2 h1 (by simpa using hk)
theorem rS {bs:A af} {e:E}: ∀(vs:A (N×AV)) (env:A (C AV)),(∀p∈vs,e.looks p.1=τ)->bQ c (dV env vs) bs e=bQ c env bs e
 | [],_,_=>rfl
 | (i,v)::r,env,h=>by
  simp only [dV];rw [rS r _ fun p hp=>h p (κ _ hp)];exact CP (h (i,v) η)
theorem Qb {α:Type} (l:A α) (f g:α->ι):(l.any fun p=>f p || g p)=(l.any f || l.any g):=by
 induction l with
 | nil=>rfl
 | cons a l ih=>simp only [List.any_cons,ih];cases f a <;> cases g a <;> cases l.any f <;> rfl
theorem uN: ∀{ā:A It} {env:A (C AV)} {bs:A af} {r:A (C AV)×A af},bC c cf base kl ā env bs=G r-> ∀e∈rT ā,(bQ c env (seen base kl bs) e).isSome=ν
 | [],_,_,_,_,e,he=>by cases he
 | .par l::ā,env,bs,r,h,e,he=>by
  simp only [bC] at h;split at h
  ·rename_i vs ċ;simp only [rT,θ,List.mem_flatMap] at he;rcases he with he | ⟨f,hf,he⟩
   ·obtain ⟨⟨i,e'⟩,hp,rfl⟩:=List.mem_map.1 he;obtain ⟨v,hv,_⟩:=pe ċ i e' hp;show (bQ c env (seen base kl bs) e').isSome=ν;rw [hv];rfl
   ·have h1:=uN h f hf;have h2:=Jc he h1;have h3:=Aw (bad:=fun e=>l.any fun p=>e.looks p.1) (fun g w x=>by simp only [E.looks];exact Qb l _ _) he;rw [rS vs env (fun p hp=> ?_)] at h2
    ·exact h2
    ·have:p.1∈l.map (·.1):=by rw [<-mP ċ];exact χ hp
     obtain ⟨q,hq,ĥ⟩:=List.mem_map.1 this;rw [List.any_eq_false] at h3;have:=h3 q hq;rw [ĥ] at this;simpa using this
  ·cases h
 | .gJ mask k d g o xs::ā,env,bs,r,h,e,he=>by
  simp only [bC] at h
  have late: ∀{v:AV} {bs':A af},bC c cf base kl ā (x8 env d v) bs'=G r->e∈(rT ā).flatMap (dY fun e=>e.reads || x9 d e)->(bQ c env (seen base kl bs) e).isSome=true:=by
   intro v bs' h he;obtain ⟨f,hf,he⟩:=List.mem_flatMap.1 he;have h1:=uN h f hf;have h2:=Jc he h1
   have h3:=Aw (bad:=fun e=>e.reads || x9 d e) (fun g w x=>by
    cases d with
    | none=>simp only [E.reads,x9,ϯ]
    | some i=>simp only [E.reads,x9,E.looks];cases g.reads <;> cases x.reads <;> cases g.looks i <;> cases x.looks i <;> rfl) he
   simp only [Θ] at h3;rw [xX h3.1 (bs':=seen base kl bs)] at h2;cases d with
   | none=>exact h2
   | some i=>simp only [x8] at h2;rw [CP h3.2] at h2;exact h2
  simp only [rT,θ] at he;split at h
  ·rename_i hw;split at h
   ·rename_i vs ċ;split at h
    ·rcases he with he | he
     ·cases g with
      | none=>simp only at he;obtain ⟨⟨i,e'⟩,hp,rfl⟩:=List.mem_map.1 he;obtain ⟨v,hv,_⟩:=pe ċ i e' hp;show (bQ c env (seen base kl bs) e').isSome=ν;rw [hv];rfl
      | some q=>
       obtain ⟨x,w⟩:=q;simp only [vK,vL] at hw
       have hx:bQ c env (seen base kl bs) x=G (.bool w):=by
        split at hw
        ·rename_i b hb;rw [hb];cases b <;> cases w <;> simp_all
        ·cases hw
        ·cases hw
       simp only [υ] at he;rcases he with rfl | he
       ·rw [hx];rfl
       ·obtain ⟨⟨i,e'⟩,hp,rfl⟩:=List.mem_map.1 he;obtain ⟨v,hv,_⟩:=pe ċ i e' hp;simp only [bQ];rw [hx,gw,hv];rfl
     ·exact late h he
    ·cases h
   ·cases h
  ·rename_i hw;rcases he with he | he
   ·cases g with
    | none=>simp [vK] at hw
    | some q=>
     obtain ⟨x,w⟩:=q;simp only [vK,vL] at hw
     have hx:bQ c env (seen base kl bs) x=G (.bool (!w))\/ ∃l,bQ c env (seen base kl bs) x=G (.aK l):=by
      split at hw
      ·rename_i b hb;left;rw [hb];cases b <;> cases w <;> simp_all
      ·rename_i l hb;right;exact ⟨l,hb⟩
      ·cases hw
     simp only [υ] at he;rcases he with rfl | he
     ·rcases hx with hx | ⟨l,hx⟩ <;> rw [hx] <;> rfl
     ·obtain ⟨⟨i,e'⟩,hp,rfl⟩:=List.mem_map.1 he;simp only [bQ];rcases hx with hx | ⟨l,hx⟩
      ·rw [hx,uM];rfl
      ·rw [hx,nJ];rfl
   ·exact late h he
  ·cases h
theorem mQ {i:N} {e:E}: ∀{σ:A (N×E)},dS σ i=G e->(i,e)∈σ
 | [],h=>by cases h
 | (j,f)::r,h=>by
  simp only [dS] at h;split at h
  ·rename_i Ě;cases h;subst Ě;exact η
  ·exact κ _ (mQ h)
theorem rU {i:N} {e:E}: ∀{σ:A (N×E)},(i,e)∈σ-> ∃f,dS σ i=G f
 | [],h=>by cases h
 | (j,f)::r,h=>by
  simp only [dS];split
  ·exact ⟨f,rfl⟩
  ·rename_i Ě;rcases List.mem_cons.1 h with h1 | h1
   ·cases h1;exact ϩ rfl Ě
   ·exact rU h1
def l6 (σ:A (N×E)):Prop:= ∀i e,(i,e)∈σ->dS σ i=G e
theorem l6.filter {σ:A (N×E)} (h:l6 σ) (p:N×E->ι):l6 (σ.filter p):=fun i e he=>by
 obtain ⟨f,hf⟩:=rU he;have h1:=h i e (List.mem_filter.1 he).1;have h2:=h i f (List.mem_filter.1 (mQ hf)).1;rw [h1] at h2;cases h2;exact hf
theorem l6.look {σ:A (N×E)} (h:l6 σ) {p:N×E->ι} {i:N} {e:E} (hl:dS (σ.filter p) i=G e):dS σ i=G e/\p (i,e)=true:=
 ⟨h i e (List.mem_filter.1 (mQ hl)).1,(List.mem_filter.1 (mQ hl)).2⟩
theorem l6.cons {σ:A (N×E)} (h:l6 σ) (d:N) (e:E):l6 ((d,e)::σ.filter fun p=>p.1 !=d):=fun i f hf=>by
 simp only [dS];rcases List.mem_cons.1 hf with h1 | h1
 ·cases h1;rw [ϡ rfl]
 ·have:=(List.mem_filter.1 h1).2;simp only [bne_iff_ne] at this;rw [Ζ this];exact h.filter _ i f h1
theorem uO: ∀{keep:A N} {i j k:N},posOf keep i=G k->posOf keep j=G k->i=j
 | [],_,_,_,h,_=>by cases h
 | x::r,i,j,k,h1,h2=>by
  simp only [posOf] at h1 h2;split at h1 <;> split at h2
  ·subst_vars;rfl
  ·cases h1;cases hp:posOf r j <;> rw [hp] at h2 <;> cases h2
  ·cases h2;cases hp:posOf r i <;> rw [hp] at h1 <;> cases h1
  ·cases hi:posOf r i with
   | none=>rw [hi] at h1;cases h1
   | some a=>cases hj:posOf r j with
    | none=>rw [hj] at h2;cases h2
    | some b=>rw [hi] at h1;rw [hj] at h2;simp only [ξ,Y] at h1 h2;exact uO hi (by rw [hj];congr 1;omega)
theorem dI: ∀{keep:A N} {i k:N},posOf keep i=G k->keep[k]?=G i
 | [],_,_,h=>by cases h
 | x::r,i,k,h=>by
  simp only [posOf] at h;split at h
  ·cases h;subst_vars;rfl
  ·cases hi:posOf r i with
   | none=>rw [hi] at h;cases h
   | some a=>rw [hi] at h;cases h;simpa using dI hi
theorem ya {keep:A N} {σ:A (N×E)} {i:N} {e:E} (he:dS σ i=G e): ∀{l:A N} {j k0:N},l[j]?=G i->(k0+j,e)∈dW keep σ l k0
 | [],_,_,h=>by simp at h
 | x::r,0,k0,h=>by simp at h;subst h;simp [dW,he]
 | x::r,j+1,k0,h=>by
  have:=ya (keep:=keep) he (l:=r) (j:=j) (k0:=k0+1) (by simpa using h);rw [show k0+1+j=k0+(j+1) by omega] at this;simp only [dW];split
  ·exact κ _ this
  ·exact this
theorem lC {keep:A N} {σ:A (N×E)} {k:N} {e:E}: ∀{l:A N} {k0:N},(k,e)∈dW keep σ l k0-> ∃j i,l[j]?=G i/\k=k0+j/\dS σ i=G e
 | [],_,h=>by cases h
 | x::r,k0,h=>by
  simp only [dW] at h;split at h
  ·rename_i f hf;rcases List.mem_cons.1 h with h1 | h1
   ·cases h1;exact ⟨0,x,rfl,rfl,hf⟩
   ·obtain ⟨j,i,h2,h3,h4⟩:=lC h1;exact ⟨j+1,i,by simpa using h2,by omega,h4⟩
  ·obtain ⟨j,i,h2,h3,h4⟩:=lC h;exact ⟨j+1,i,by simpa using h2,by omega,h4⟩
theorem nO {keep:A N} {σ:A (N×E)}: ∀(l:A N) (k0:N),((dW keep σ l k0).map (·.1)).Nodup
 | [],_=>Ϩ
 | x::r,k0=>by
  simp only [dW];split
  ·simp only [U,Ϥ];refine ⟨fun h=> ?_,nO r _⟩;obtain ⟨⟨k,e⟩,h1,h2⟩:=List.mem_map.1 h;obtain ⟨j,i,_,h4,_⟩:=lC h1;simp only at h2;omega
  ·exact nO r _
structure l7 (c:aD) (keep:A N) (nt:N) (env:A (C AV)) (bs:A af) (σ:A (N×E)) (t:Env):Prop where
 len:É env=É keep
 has: ∀i,i<nt->t.has i=ν
 uniq:l6 σ
 Uq: ∀i e v,dS σ i=G e->bQ c env bs e=G v->t.get .any i=v
 env: ∀i k v,dS σ i=none->posOf keep i=G k->env.getD k ο=G v->t.get .any i=v
variable {keep:A N} {nt:N} {env:A (C AV)} {bs:A af} {σ:A (N×E)} {t:Env}
theorem l7.res (h:l7 c keep nt env bs σ t) {i:N} {e:E} {v:AV} (hr:CQ keep σ i=G e) (hv:bQ c env bs e=G v):t.get .any i=v:=by
 unfold CQ at hr;split at hr
 ·rename_i f hf;cases hr;exact h.Uq i _ v hf hv
 ·rename_i hf;simp only [Z] at hr;obtain ⟨k,hk,rfl⟩:=hr;exact h.env i k v hf hk hv
theorem l7.CR (h:l7 c keep nt env bs σ t) {x:Υ} {e:E} {v:AV} (hr:CR keep σ x=G e) (hv:bQ c env bs e=G v):ev t x=v:=by
 cases x with
 | tmp i=>exact h.res hr hv
 | const u=>cases hr;cases hv;rfl
 | func f=>cases hr;cases hv;rfl
 | global g=>cases hr
theorem l7.flush (h:l7 c keep nt env bs σ t) {vs:A (N×AV)} (ċ:qJ c env bs (dW keep σ keep 0)=G vs): ∀i k v,posOf keep i=G k->(dV env vs).getD k ο=G v->t.get .any i=v:=by
 intro i k v hk hv;have hg:=dI hk;have hlt:k<É env:=by rw [h.len];exact (List.getElem?_eq_some_iff.1 hg).1
 cases hl:dS σ i with
 | some e=>have hm:=ya (keep:=keep) hl (l:=keep) (j:=k) (k0:=0) hg;rw [ϒ] at hm;obtain ⟨u,hu,hum⟩:=pe ċ k e hm;rw [xZ vs env (by rw [mP ċ];exact nO _ _) hum hlt] at hv;cases hv;exact h.Uq i e _ hl hu
 | none=>
  rw [l5 vs env (fun p hp ġ=> ?_)] at hv
  ·exact h.env i k v hl hk hv
  ·have:p.1∈(dW keep σ keep 0).map (·.1):=by rw [<-mP ċ];exact χ hp
   obtain ⟨⟨k',e⟩,h1,h2⟩:=List.mem_map.1 this;obtain ⟨j,i',h3,h4,h5⟩:=lC h1;simp only at h2;have:j=k:=by omega
   subst this;rw [hg] at h3;cases h3;rw [hl] at h5;cases h5
theorem l7.Qc (h:l7 c keep nt env bs σ t) {vs:A (N×AV)} (ċ:qJ c env bs (dW keep σ keep 0)=G vs):l7 c keep nt (dV env vs) bs (Ax keep (dW keep σ keep 0) σ) t where
 len:=by rw [lZ];exact h.len
 has:=h.has
 uniq:=h.uniq.filter _
 Uq:=fun i e v hl hv=>by
  obtain ⟨h1,h2⟩:=h.uniq.look hl;simp only [I,ε,Φ] at h2;rw [rS vs env (fun p hp=> ?_)] at hv
  ·exact h.Uq i e v h1 hv
  ·have:p.1∈(dW keep σ keep 0).map (·.1):=by rw [<-mP ċ];exact χ hp
   obtain ⟨q,hq,ĥ⟩:=List.mem_map.1 this;rw [<-ĥ];exact h2.2 q hq
 env:=fun i k v _ hk hv=>h.flush ċ i k v hk hv
end
end Go.Am
namespace Go.Am
section
variable {c:aD} {cf:aQ} {ops:Κ Τ}
def step1 (c:aD) (cf:aQ) (ops:Κ Τ) (id:N) (o:Τ) (s:St):C St:=
 match bh ops s.t o.guard with
 | some true=>match bB c cf o.op s.t s.b id with
  | some (v,e)=>match e.on s.b id with
   | some bs'=>G {t:=aP s.t o.dst v,b:=bs'}
   | .none=> .none
  | .none=> .none
 | some false=>G {t:=aP s.t o.dst (.aK []),b:=s.b}
 | .none=> .none
def iC (c:aD) (cf:aQ) (ops:Κ Τ) (dr:ι) (base i:N) (o:Τ) (s:St):C St:=
 match dr with
 | true=>aI c cf ops base i o s
 | false=>step1 c cf ops (bN ops.toList i base) o s
def CT (c:aD) (cf:aQ) (ops:Κ Τ) (dr:ι) (base:N):A Τ->N->St->C St
 | [],_,s=>G s
 | o::r,i,s=>match iC c cf ops dr base i o s with
  | some s'=>CT c cf ops dr base r (i+1) s'
  | .none=> .none
theorem Hj (base:N): ∀(l:A Τ) (i:N) (s:St),Kt c cf ops base l i s=CT c cf ops ν base l i s
 | [],_,_=>rfl
 | o::r,i,s=>by
  simp only [Kt,CT,iC];cases aI c cf ops base i o s with
  | none=>rfl
  | some s'=>exact Hj base r _ _
theorem Ay: ∀(l:A Τ) (i base:N) (o:Τ),l[i]?=G o->bN l (i+1) base=next (bN l i base) o.op
 | [],i,base,o,h=>by simp at h
 | p::r,0,base,o,h=>by
  simp at h;subst h;cases r <;> rfl
 | p::r,i+1,base,o,h=>by
  simp at h;simp only [bN];exact Ay r i _ o h
theorem Es (b k:N) (op:Op):next (b+k) op=b+next k op:=by unfold next;split <;> omega
theorem Et (b:N): ∀(l:A Τ) (i k:N),bN l i (b+k)=b+bN l i k
 | _,0,_=>by cases ‹A Τ› <;> rfl
 | [],_+1,_=>rfl
 | o::r,i+1,k=>by simp only [bN];rw [Es];exact Et b r i _
theorem pf (bf:A N) (i b:N): ∀(l:A Τ) (j k:N),dC bf i l j (b+k)=(dC bf i l j k).map (b+ ·)
 | [],_,_=>rfl
 | o::r,j,k=>by
  simp only [dC];split <;> simp only [Es,pf bf i b r,U]
theorem tn (base:N): ∀(l:A Τ) (i:N) (t:Env) (bs:A af),(∀j,l[j]?=ops.toList[i+j]?)->rM c cf ops l (bN ops.toList i base) t bs=CT c cf ops τ base l i ⟨t,bs⟩
 | [],_,_,_,_=>rfl
 | o::r,i,t,bs,h=>by
  have ho:ops.toList[i]?=G o:=by have:=h 0;rw [ϲ] at this;rw [<-this];rfl
  have hr: ∀j,r[j]?=ops.toList[i+1+j]?:=fun j=>by rw [show i+1+j=i+(j+1) by omega,<-h (j+1)];rfl
  simp only [rM,CT,iC,step1];rw [<-Ay _ _ _ _ ho];cases bh ops t o.guard with
  | none=>rfl
  | some b=>cases b with
   | false=>exact tn base r _ _ _ hr
   | true=>
    simp only;cases bB c cf o.op t bs (bN ops.toList i base) with
    | none=>rfl
    | some p=>
     obtain ⟨v,e⟩:=p;simp only;cases e.on bs (bN ops.toList i base) with
     | none=>rfl
     | some bs'=>exact tn base r _ _ _ hr
theorem CU {L M:A N} (h: ∀x∈M,x∈L) (bs:A af):Sub (bp L bs) (bp M bs):=fun k hk=>by
 simp only [af.at,H] at hk⊢;rw [cA] at hk;rw [cA,cA];by_cases h1:k∈L/\k<É bs
 ·rw [ϡ h1] at hk;simp at hk
 ·rw [Ζ h1,Ζ (fun h2=>h1 ⟨h _ h2.1,h2.2⟩)]
variable {base:N} {kl:A N} {keep:A N} {nt:N} {env:A (C AV)} {bs:A af} {σ:A (N×E)} {t:Env}
theorem l7.want (h:l7 c keep nt env bs σ t) {g:C (N×ι)} {x:E} {w:ι} (hg:guardOf ops keep σ g=G (G (x,w))) {u:AV} (hu:bQ c env bs x=G u):bh ops t g=vL (G u) w:=by
 unfold guardOf at hg;split at hg
 ·cases hg
 ·split at hg
  ·cases hg
  ·rename_i d hd;split at hg
   ·rename_i e he;cases hg;simp only [bh,hd];rw [h.res he hu];simp only [vL];cases u <;> rfl
   ·cases hg
theorem Az {g:C (N×ι)} (hg:guardOf ops keep σ g=G ο):bh ops t g=G true:=by
 unfold guardOf at hg;split at hg
 ·rfl
 ·split at hg
  ·cases hg
  ·split at hg <;> cases hg
theorem Qd (hs: ∀i,i<nt->t.has i=ν) (d:C N) (v:AV): ∀i,i<nt->(aP t d v).has i=true:=fun i hi=>by
 cases d with
 | none=>exact hs i hi
 | some j=>simp only [aP];rw [Tr.gp];exact hs i hi
theorem Qe {op:Op} {p:N} (h:iJ op=G p):p∈op.operands.toList.filterMap MQ:=by
 refine List.mem_filterMap.2 ⟨.tmp p,?_,rfl⟩;unfold iJ at h;split at h
 ·rename_i q hq;cases h;unfold eH at hq;split at hq
  ·cases hq;simp [Op.operands]
  ·cases hq;simp [Op.operands]
  ·rename_i args ts;split at hq
   ·rename_i q2 hq2;cases hq;simp only [Op.operands,Call.operands];simp [hq2]
   ·cases hq
  ·cases hq
 ·unfold dD at h;split at h
  ·cases h;simp [Op.operands]
  ·cases h;simp [Op.operands]
  ·cases h
theorem zN {i:C TI} {x r:AV} {f:N} {bs:A af} {e:dy} (h:c9 i x f bs=G (r,e)):ji r=ji x/\oB r=oB x:=by
 unfold c9 at h;split at h
 ·split at h
  ·split at h
   ·split at h
    ·cases h
    ·unfold ow at h;split at h
     ·cases h;exact ⟨rfl,rfl⟩
     ·split at h
      ·split at h
       ·cases h;exact ⟨rfl,rfl⟩
       ·cases h
      ·cases h
     ·cases h;exact ⟨rfl,rfl⟩
     ·cases h
   ·cases h
  ·cases h
 ·cases h
theorem KF {c:aD} {env:A (C AV)} {bs:A af} {b:E}: ∀(a:E) {u:AV},Eu a b=true->bQ c env bs a=G u-> ∃u',bQ c env bs b=G u'/\ji u=ji u'/\oB u=oB u':=by
 intro a
 induction a with
 | faddr ty x f ih=>
  intro u h hu;unfold Eu at h;rw [ϋ] at h;rcases h with h | h
  ·rw [<-cT h];exact ⟨u,hu,rfl,rfl⟩
  ·simp only [bQ] at hu;cases hx:bQ c env bs x with
   | none=>rw [hx] at hu;cases hu
   | some v=>
    rw [hx] at hu;simp only [Hc] at hu;obtain ⟨u',h1,h2,h3⟩:=ih h hx;cases hf:c9 (c.ti ty) v f bs with
    | none=>rw [hf] at hu;cases hu
    | some p=>
     obtain ⟨r,e⟩:=p;rw [hf] at hu;obtain ⟨k1,k2⟩:=zN hf;unfold th at hu;split at hu
     ·rename_i heq;cases heq;cases hu;exact ⟨u',h1,k1.trans h2,k2.trans h3⟩
     ·cases hu
 | _=>intro u h hu;unfold Eu at h;simp only [ϯ] at h;rw [<-cT h];exact ⟨u,hu,rfl,rfl⟩
theorem Qf {c:aD} {ops:Κ Τ} {j:N} {op:Op} {t:Env} (h: ∀p q,iJ op=G p->iW ops j p=G q->ji (t.get .any p)=ji (t.get .any q)/\oB (t.get .any p)=oB (t.get .any q)):cF c ops j op t=true:=by
 unfold cF;split
 ·rfl
 ·rename_i p hp;split
  ·rfl
  ·rename_i q hq;rw [(h p q hp hq).1,(h p q hp hq).2];simp
theorem Ev (h:l7 c keep nt env bs σ t) {j:N} {op:Op} (ha: ∀p,iJ op=G p-> ∀e,CQ keep σ p=G e-> ∃u,bQ c env bs e=G u) {g:C (E×ι)} (ĵ: ∀x,bQ c env bs (fC g x)=bQ c env bs x) (hr:Ew c ops keep g σ ν j op=ν):cF c ops j op t=true:=by
 cases hany:(xN c ops || qc ops) with
 | false=>rw [Θ] at hany;exact MR hany.1 hany.2
 | true=>
  refine Qf fun p q hp hq=> ?_;unfold Ew at hr;rw [hp,hany] at hr;simp only [Μ,hq] at hr;split at hr
  ·rename_i a b Ů hb;obtain ⟨u,hu⟩:=ha p hp a Ů;obtain ⟨u',k1,k2,k3⟩:=KF _ hr ((ĵ a).trans hu);rw [h.res Ů hu,h.res hb ((ĵ b).symm.trans k1)];exact ⟨k2,k3⟩
  ·cases hr
theorem Ey (h:l7 c keep nt env bs σ t) {g:C (E×ι)} {j:N} {op:Op} {e:E} {v:AV} (hp:nN c (fun x=>(CR keep σ x).map (fC g)) op=G e) (ĵ: ∀x,bQ c env bs (fC g x)=bQ c env bs x) (hv:bQ c env bs e=G v) (hr:Ew c ops keep g σ ν j op=ν):cF c ops j op t=true:=by
 refine Ev h (fun p ġ a ha=> ?_) ĵ hr
 have one: ∀x,((CR keep σ (.tmp p)).map (fC g))=G x->(∃u,bQ c env bs x=G u)-> ∃u,bQ c env bs a=G u:=fun x hx ⟨u,hu⟩=>by
  simp only [CR,ha,ξ,Y] at hx;subst hx;exact ⟨u,by rw [<-ĵ];exact hu⟩
 unfold iJ at ġ;split at ġ
 ·rename_i p' ē;cases ġ;unfold eH at ē;split at ē
  ·cases ē;simp only [nN,iB,Z] at hp;obtain ⟨x,hx,rfl⟩:=hp;refine one x (by simpa using hx) ?_;simp only [bQ] at hv;cases İ:bQ c env bs x with
   | none=>rw [İ] at hv;cases hv
   | some u=>exact ⟨u,rfl⟩
  ·cases ē;simp only [nN,iB,Z] at hp;obtain ⟨x,hx,rfl⟩:=hp;refine one x (by simpa using hx) ?_;simp only [bQ] at hv;cases İ:bQ c env bs x with
   | none=>rw [İ] at hv;cases hv
   | some u=>exact ⟨u,rfl⟩
  ·rename_i args ts;split at ē
   ·rename_i p' Ĥ;cases ē;simp only [nN,Ĥ] at hp;split at hp
    ·rename_i x _ _ hxx;simp only [Ϸ,and_true] at hxx;subst hxx;split at hp
     ·simp only [iB,Z] at hp;obtain ⟨x,hx,rfl⟩:=hp;refine one x (by simpa using hx) ?_;simp only [bQ] at hv;cases İ:bQ c env bs x with
      | none=>rw [İ] at hv;cases hv
      | some u=>exact ⟨u,rfl⟩
     ·simp only [iB,Z] at hp;obtain ⟨x,hx,rfl⟩:=hp;refine one x (by simpa using hx) ?_;simp only [bQ] at hv;cases İ:bQ c env bs x with
      | none=>rw [İ] at hv;cases hv
      | some u=>exact ⟨u,rfl⟩
    ·cases hp
   ·cases ē
  ·cases ē
 ·unfold dD at ġ;split at ġ
  ·rename_i Œ;simp [eH] at Œ
  ·cases ġ;rename_i ty lo hi _;simp only [nN] at hp
   have fin: ∀x,((CR keep σ (.tmp p)).map (fC g))=G x->bQ c env bs x≠none-> ∃u,bQ c env bs a=G u:=fun x hx hne=>by
    refine one x hx ?_;cases İ:bQ c env bs x with
    | none=>exact ϩ İ hne
    | some u=>exact ⟨u,rfl⟩
   split at hp
   ·split at hp
    ·simp only [iB,Z] at hp;obtain ⟨x,hx,rfl⟩:=hp;exact fin x (by simpa using hx) (fun e=>by simp [bQ,e,Hc] at hv)
    ·unfold tm at hp;split at hp
     ·rename_i x y hx hy;cases hp;exact fin x hx (fun e=>by simp [bQ,e,Jb] at hv)
     ·cases hp
    ·unfold tm at hp;split at hp
     ·rename_i x y hx hy;cases hp;exact fin x hx (fun e=>by simp [bQ,e,Jb] at hv)
     ·cases hp
    ·unfold Er at hp;split at hp
     ·rename_i x y z hx hy hz;cases hp;exact fin x hx (fun e=>by simp [bQ,e,PD] at hv)
     ·cases hp
   ·cases hp
  ·cases ġ
theorem yb {dr:ι} {i:N} {o:Τ} {v:AV} (hw:bh ops t o.guard=G ν) (hd: ∀(cf:aQ) bs' id,Sub (seen base kl bs) bs'->bB c cf o.op t bs' id=G (v,.none)) (hk:dr=true-> ∀x∈dC (fJ ops) i ops.toList 0 0,x∈kl) (œ:dr=true->cF c ops i o.op t=ν):
  iC c cf ops dr base i o ⟨t,bs⟩=G ⟨aP t o.dst v,bs⟩:=by
 cases dr with
 | false=>simp only [iC,step1,hw];rw [hd _ _ _ (dZ _ _)];rfl
 | true=>
  simp only [iC,aI,hw];split
  ·rw [hd _ _ _ (dZ _ _)];rfl
  ·rw [hd _ _ _ ?_]
   ·simp only [œ rfl]
   unfold bF;refine CU (fun x hx=> ?_) bs;rw [show base=base+0 from rfl,pf] at hx;obtain ⟨y,hy,rfl⟩:=List.mem_map.1 hx;exact χ (hk rfl y hy)
theorem yc {dr:ι} {i:N} {o:Τ} (hw:bh ops t o.guard=G τ):iC c cf ops dr base i o ⟨t,bs⟩=G ⟨aP t o.dst (.aK []),bs⟩:=by cases dr <;> simp only [iC,step1,aI,hw]
theorem jo {i:N} {v:AV}: ∀{vs:A (N×AV)},(∀p∈vs,p.1=i->p.2=v)->(∃p∈vs,p.1=i)->look vs i=v
 | [],_,⟨_,h,_⟩=>by cases h
 | (j,u)::r,h1,⟨p,hp,ů⟩=>by
  simp only [look];split
  ·rename_i Ě;exact h1 (j,u) η Ě.symm
  ·rename_i Ě;refine jo (fun q hq=>h1 q (κ _ hq)) ?_;rcases List.mem_cons.1 hp with rfl | hp
   ·exact ϩ ů.symm Ě
   ·exact ⟨p,hp,ů⟩
theorem Jd {g:C (E×ι)} (hg: ∀e,bQ c env bs (fC g e)=bQ c env bs e): ∀{l:A N} {xs:A (N×E)} {vs:A (N×AV)},uP keep σ l=G xs->qJ c env bs (xs.map fun p=>(p.1,fC g p.2))=G vs-> ∀i∈l,∀e,CQ keep σ i=G e-> ∃u,bQ c env bs e=G u
 | [],_,_,_,_=>fun i hi=>by cases hi
 | i::r,xs,vs,h1,h2=>by
  simp only [uP] at h1;split at h1
  ·rename_i e l he hl;cases h1;simp only [U,qJ] at h2;split at h2
   ·rename_i v hv;split at h2
    ·rename_i Ű Ğ;intro j hj e' Ŕ;rcases List.mem_cons.1 hj with rfl | hj
     ·rw [he] at Ŕ;cases Ŕ;exact ⟨v,by rw [<-hg];exact hv⟩
     ·exact Jd hg hl Ğ j hj e' Ŕ
    ·cases h2
   ·cases h2
  ·cases h1
theorem l7.args (h:l7 c keep nt env bs σ t) {g:C (E×ι)} (hg: ∀e,bQ c env bs (fC g e)=bQ c env bs e): ∀{l:A N} {xs:A (N×E)} {vs:A (N×AV)},uP keep σ l=G xs->qJ c env bs (xs.map fun p=>(p.1,fC g p.2))=G vs->(∀p∈vs,p.2=t.get .any p.1)/\ ∀i∈l,∃p∈vs,p.1=i
 | [],xs,vs,h1,h2=>by
  cases h1;cases h2;exact ⟨fun p hp=>(by cases hp),fun i hi=>by cases hi⟩
 | i::r,xs,vs,h1,h2=>by
  simp only [uP] at h1;split at h1
  ·rename_i e l he hl;cases h1;simp only [U,qJ] at h2;split at h2
   ·rename_i v hv;split at h2
    ·rename_i Ű Ğ;cases h2;obtain ⟨k1,k2⟩:=l7.args h hg hl Ğ;rw [hg] at hv;refine ⟨fun p hp=> ?_,fun j hj=> ?_⟩
     ·rcases List.mem_cons.1 hp with rfl | hp
      ·exact (h.res he hv).symm
      ·exact k1 p hp
     ·rcases List.mem_cons.1 hj with rfl | hj
      ·exact ⟨_,η,rfl⟩
      ·obtain ⟨p,hp,ů⟩:=k2 j hj;exact ⟨p,κ _ hp,ů⟩
    ·cases h2
   ·cases h2
  ·cases h1
theorem mR {dr:ι} (hk:dr=true-> ∀i,∀x∈dC (fJ ops) i ops.toList 0 0,x∈kl): ∀(l:A Τ) (i:N) (σ:A (N×E)) (ā:A It) (env:A (C AV)) (bs:A af) (t:Env) (ď:A (C AV)) (bs':A af),
  nP c ops keep nt dr l i σ=G ā->l7 c keep nt env (seen base kl bs) σ t->bC c cf base kl ā env bs=G (ď,bs')-> ∃t',CT c cf ops dr base l i ⟨t,bs⟩=G ⟨t',bs'⟩/\l7 c keep nt ď (seen base kl bs') [] t'
 | [],i,σ,ā,env,bs,t,ď,bs',hl,hr,Ā=>by
  simp only [nP,Y] at hl;subst hl;refine ⟨t,?_⟩;have hu:l6 ([]:A (N×E)):=fun i e h=>by cases h
  unfold Je at Ā;split at Ā
  ·rename_i hfl;simp only [bC,Y,ϰ] at Ā;obtain ⟨rfl,rfl⟩:=Ā;refine ⟨rfl,hr.len,hr.has,hu,fun i e v h=>(by cases h),fun i k v _ hk hv=> ?_⟩;exact hr.flush (vs:= []) (by rw [hfl];rfl) i k v hk hv
  ·simp only [bC] at Ā;split at Ā
   ·rename_i vs ċ;simp only [Y,ϰ] at Ā;obtain ⟨rfl,rfl⟩:=Ā;exact ⟨rfl,by rw [lZ];exact hr.len,hr.has,hu,fun i e v h=>(by cases h),fun i k v _ hk hv=>hr.flush ċ i k v hk hv⟩
   ·cases Ā
 | o::r,i,σ,ā,env,bs,t,ď,bs',hl,hr,Ā=>by
  simp only [nP] at hl;split at hl
  ·cases hl
  ·rename_i g hg;split at hl
   ·-- an expression
    rename_i e d ŕ Ħ;replace ŕ:=Ez ŕ;split at hl
    ·rename_i ľ;split at hl
     ·rename_i Ė ė
      have key:(bQ c env (seen base kl bs) (yd g e)).isSome=ν/\bC c cf base kl Ė env bs=G (ď,bs'):=by
       split at hl
       ·rename_i Ł;cases hl;refine ⟨?_,Ā⟩;unfold covered at Ł;rw [ϋ] at Ł;rcases Ł with hc | hc
        ·cases hw:yd g e <;> rw [hw] at hc <;> simp only [E.sure,Ξ] at hc;rfl
        ·rw [List.any_eq_true] at hc;obtain ⟨f,hf,hwf⟩:=hc;exact He hwf (uN Ā f hf)
       ·cases hl;simp only [bC,qJ] at Ā;split at Ā
        ·rename_i vs ċ;split at ċ
         ·rename_i v hv;cases ċ;refine ⟨by unfold seen;rw [hv];rfl,?_⟩;simp only [dV] at Ā;rw [List.set_eq_of_length_le (by rw [hr.len];exact Δ _)] at Ā;exact Ā
         ·cases ċ
        ·cases Ā
      obtain ⟨Ŗ,Ā⟩:=key;obtain ⟨v,hv⟩:=Option.isSome_iff_exists.1 Ŗ
      have ě:iC c cf ops dr base i o ⟨t,bs⟩=G ⟨aP t o.dst v,bs⟩:=by
       have pure: ∀(ĵ: ∀x,bQ c env (seen base kl bs) (fC g x)=bQ c env (seen base kl bs) x) (đ:bQ c env (seen base kl bs) e=G v) (cf:aQ) (bs':A af) (id:N),Sub (seen base kl bs) bs'->bB c cf o.op t bs' id=G (v,.none):=by intro ĵ đ cf bs' id hs;refine ye hs trivial ?_;rw [MO];refine Qa (ρ:=fun x=>(CR keep σ x).map (fC g)) (fun x e v hx hv=> ?_) ŕ đ id;simp only [Z] at hx;obtain ⟨e0,h0,rfl⟩:=hx;rw [ĵ] at hv;exact hr.CR h0 hv
       cases g with
       | none=>exact yb (Az hg) (pure (fun _=>rfl) hv) (fun h=>hk h i) (fun h=>by subst h;exact Ey hr (g:=none) ŕ (fun _=>rfl) hv (I _ _▸ľ:_/\_).2)
       | some q=>
        obtain ⟨x,w⟩:=q;simp only [yd,bQ] at hv;rcases jn hv with ⟨h1,h2⟩ | ⟨h1,rfl⟩ | ⟨⟨l,h1⟩,rfl⟩
        ·refine yb ?_ (pure (fun y=>j5 h1 y) h2) (fun h=>hk h i) (fun h=>by subst h;exact Ey hr (g:=some (x,w)) ŕ (fun y=>j5 h1 y) h2 (I _ _▸ľ:_/\_).2);rw [hr.want hg h1];simp [vL]
        ·refine yc ?_;rw [hr.want hg h1];cases w <;> rfl
        ·refine yc ?_;rw [hr.want hg h1];rfl
      rw [Ħ] at ě;have hd:t.has d=true:=hr.has d (by have h:=(I _ _▸ľ:_/\_).1;simpa using h)
      have ł:l7 c keep nt env (seen base kl bs) ((d,yd g e)::σ.filter fun p=>p.1 !=d) (t.set d v):=by
       refine ⟨hr.len,fun i hi=>by rw [Tr.gp];exact hr.has i hi,hr.uniq.cons _ _,fun j f u hj hu=> ?_,fun j k u hj hk hu=> ?_⟩
       ·simp only [dS] at hj;split at hj
        ·rename_i Ĭ;subst Ĭ;cases hj;rw [hv] at hu;cases hu;exact Tr.ed _ _ _ hd
        ·rename_i Ĭ;rw [Tr.bK _ _ _ (Ne.symm Ĭ)];exact hr.Uq j f u (hr.uniq.look hj).1 hu
       ·simp only [dS] at hj;split at hj
        ·cases hj
        ·rename_i Ĭ;rw [Tr.bK _ _ _ (Ne.symm Ĭ)];refine hr.env j k u ?_ hk hu;cases ŗ:dS σ j with
         | none=>rfl
         | some f=>obtain ⟨f',ĉ⟩:=rU (σ:=σ.filter fun p=>p.1 !=d) (List.mem_filter.2 ⟨mQ ŗ,by simpa using Ĭ⟩);rw [hj] at ĉ;cases ĉ
      obtain ⟨t',h1,h2⟩:=mR hk r (i+1) _ _ env bs _ ď bs' ė ł Ā;refine ⟨t',?_,h2⟩;simp only [CT,ě];exact h1
     ·cases hl
    ·cases hl
   ·-- an operation
    split at hl
    ·cases hl
    ·rename_i g' hg';split at hl
     ·cases hl
     ·rename_i xs ű;split at hl
      ·rename_i Ń;split at hl
       ·rename_i Ė ė;simp only [Y] at hl;subst hl
        -- the variables are set
        obtain ⟨vs,ċ,Ā⟩: ∃vs,qJ c env (seen base kl bs) (dW keep σ keep 0)=G vs/\bC c cf base kl (.gJ (xe c ops dr i o.op) (bN ops.toList i 0) (EA keep o.dst) g' o.op (xs.map fun p=>(p.1,fC g' p.2))::Ė) (dV env vs) bs=G (ď,bs'):=by
         unfold Je at Ā;split at Ā
         ·rename_i hfl;exact ⟨[],by rw [hfl];rfl,Ā⟩
         ·rw [bC] at Ā;split at Ā
          ·rename_i vs ċ;exact ⟨vs,ċ,Ā⟩
          ·cases Ā
        have ĕ:=hr.Qc ċ;have Ĕ:=hr.flush ċ
        -- what is behind the operation
        have after: ∀(v:AV) (ń:A af),iC c cf ops dr base i o ⟨t,bs⟩=G ⟨aP t o.dst v,ń⟩->bC c cf base kl Ė (x8 (dV env vs) (EA keep o.dst) v) ń=G (ď,bs')->
          ∃t',CT c cf ops dr base (o::r) i ⟨t,bs⟩=G ⟨t',bs'⟩/\l7 c keep nt ď (seen base kl bs') [] t':=by
         intro v ń ě Ř
         have ł:l7 c keep nt (x8 (dV env vs) (EA keep o.dst) v) (seen base kl ń) (Ss keep o.dst (Ax keep (dW keep σ keep 0) σ)) (aP t o.dst v):=by
          refine ⟨?_,Qd hr.has _ _,ĕ.uniq.filter _,fun j f u hj hu=> ?_,fun j k u hj hk hu=> ?_⟩
          ·have:=ĕ.len;cases EA keep o.dst with
           | none=>exact this
           | some p=>simp only [x8,Ε];exact this
          ·obtain ⟨h1,h2⟩:=ĕ.uniq.look hj;simp only [I,Φ] at h2;rw [xX h2.1 (bs':=seen base kl bs)] at hu;cases hd:o.dst with
           | none=>rw [hd] at hu;exact ĕ.Uq j f u h1 hu
           | some d=>
            rw [hd] at hu h2;simp only [I,bne_iff_ne] at h2;simp only [aP];rw [Tr.bK _ _ _ (Ne.symm h2.2.1)];refine ĕ.Uq j f u h1 ?_;simp only [EA] at hu;cases hp:posOf keep d with
            | none=>rw [hp] at hu;exact hu
            | some p=>rw [hp] at hu h2;simp only [x8] at hu;rw [CP (by simpa using h2.2.2)] at hu;exact hu
          ·cases hd:o.dst with
           | none=>rw [hd] at hu;exact Ĕ j k u hk hu
           | some d=>
            rw [hd] at hu;have Ņ:d<nt:=by have ħ:=(I _ _▸Ń:_/\_).1;have Ķ:=(I _ _▸ħ:_/\_).1;rw [hd] at Ķ;simpa [Su] using Ķ
            simp only [aP];by_cases Ĭ:j=d
            ·subst Ĭ;simp only [EA,hk,x8] at hu;have hlt:k<(dV env vs).length:=by rw [ĕ.len];exact (List.getElem?_eq_some_iff.1 (dI hk)).1
             simp [H,hlt] at hu;subst hu;exact Tr.ed _ _ _ (hr.has j Ņ)
            ·rw [Tr.bK _ _ _ (Ne.symm Ĭ)];refine Ĕ j k u hk ?_;simp only [EA] at hu;cases hp:posOf keep d with
             | none=>rw [hp] at hu;exact hu
             | some p=>rw [hp] at hu;simp only [x8] at hu;have:p≠k:=fun e=>Ĭ (uO hk (e▸hp));simp only [H] at hu⊢;rw [δ this] at hu;exact hu
         obtain ⟨t',h1,h2⟩:=mR hk r (i+1) _ _ _ ń _ ď bs' ė ł Ř;refine ⟨t',?_,h2⟩;simp only [CT,ě];exact h1
        simp only [bC] at Ā;split at Ā
        ·-- it is wanted
         rename_i hw
         have Ą:bh ops t o.guard=G ν/\ ∀e,bQ c (dV env vs) (seen base kl bs) (fC g' e)=bQ c (dV env vs) (seen base kl bs) e:=by
          cases g' with
          | none=>exact ⟨Az hg',fun _=>rfl⟩
          | some q=>
           obtain ⟨x,w⟩:=q;simp only [vK] at hw;cases hx:bQ c (dV env vs) (seen base kl bs) x with
           | none=>rw [hx] at hw;cases hw
           | some u=>
            rw [hx] at hw;refine ⟨by rw [ĕ.want hg' hx];exact hw,fun e=> ?_⟩;simp only [vL] at hw;split at hw
            ·rename_i b hb;cases hb;have:b=w:=by simpa using hw
             subst this;exact j5 hx e
            ·cases hw
            ·cases hw
         split at Ā
         ·rename_i Ű Ğ;obtain ⟨k1,k2⟩:=ĕ.args Ą.2 ű Ğ
          have ğ: ∀x∈o.op.operands,Zb Ű x=ev t x:=by
           intro x hx;cases x with
           | tmp j=>refine jo (fun p hp hpj=>by rw [k1 p hp,hpj];rfl) (k2 j (Ω _ ?_));exact List.mem_filterMap.2 ⟨.tmp j,by simpa using hx,rfl⟩
           | const u=>rfl
           | func f=>rfl
           | global g=>rfl
          have hdo: ∀(cf:aQ) ř id,ew c cf o.op (Zb Ű) ř id=bB c cf o.op t ř id:=fun cf ř id=>by rw [MO];exact Ep c cf ğ ř id
          have hid:base+bN ops.toList i 0=bN ops.toList i base:=by rw [<-Et];rfl
          split at Ā
          ·rename_i v ń Ă;refine after v ń ?_ Ā;unfold KG at Ă;split at Ă
           ·rename_i hm;rw [hdo,hid] at Ă;unfold Jf at Ă
            have Č:dr=true->alone ops i=true:=fun h=>by
             subst h;unfold xe at hm;split at hm
             ·cases hm
             ·rename_i ha;simpa using ha
            split at Ă
            ·rename_i v' e ą;split at Ă
             ·rename_i ř hon;cases Ă;cases dr with
              | false=>simp only [iC,step1,Ą.1,ą,hon]
              | true=>simp only [iC,aI,Ą.1,Č rfl,ą,hon]
             ·cases Ă
            ·cases Ă
           ·rename_i ms hm;unfold xe at hm;split at hm
            ·rename_i ha;simp only [I,Φ] at ha;cases hm;simp only [List.tail_cons,List.headD_cons] at Ă;rw [EC] at Ă;rw [hdo,hid] at Ă
             have Ś:bp ((dC (fJ ops) i ops.toList 0 0).map (base+ ·)) bs=bF ops base i bs:=by unfold bF;rw [<-pf];rfl
             rw [Ś] at Ă;rw [ha.1]
             have hrt:cF c ops i o.op t=true:=by have h2:=(I _ _▸Ń:_/\_).2;rw [ha.1] at h2;exact Ev ĕ (fun p hp=>Jd Ą.2 ű Ğ p (Ω _ (Qe hp))) Ą.2 h2
             unfold Jg at Ă;split at Ă
             ·rename_i v' ą;cases Ă;simp only [iC,aI,Ą.1,ha.2,ą,hrt]
             ·rename_i v' x ą;split at Ă
              ·rename_i hask;split at Ă
               ·rename_i ś;cases Ă;simp only [iC,aI,Ą.1,ha.2,ą,hask,ś]
               ·cases Ă
              ·cases Ă
             ·rename_i v' kk ty cs ą;split at Ă
              ·rename_i ă;cases Ă;rw [I] at ă;have Ŝ:(dr&& !alone ops i&&cP o.op)=true:=by rw [ha.1,ha.2,ă.1];rfl
               have Ę:(dr&& !alone ops i&&(cP o.op || (e9 o.op&&bq ops i o.op)))=true:=by rw [ha.1,ha.2,ă.1];rfl
               have Ĩ:bq ops i o.op=true:=by have ħ:=(I _ _▸Ń:_/\_).1;have h2:=(I _ _▸ħ:_/\_).2;unfold Sv at h2;rw [Ŝ] at h2;exact h2
               have č:nQ c ops dr i o.op=iz ops i:=by unfold nQ;rw [Ę]
               have Ď:((iz ops i).all fun p=>fQ kk (t.get .any p))=true:=by rw [ε];intro p hp;obtain ⟨q,hq,ĥ⟩:=k2 p (Α _ (by rw [č];exact hp));have h3:=ă.2;unfold ED at h3;rw [ε] at h3;have h4:=h3 q hq;rw [k1 q hq,ĥ,AB Ĩ hp,Ϛ] at h4;exact h4
               simp only [iC,aI,Ą.1,ha.2,ą,Ĩ,sP,ă.1,hrt,Ď,Μ]
              ·cases Ă
             ·rename_i v' kk sh sz es ą;split at Ă
              ·rename_i ă;cases Ă;rw [I] at ă
               have hgr:(e9 o.op&&bq ops i o.op)=true:=by have h1:=ă.1;rw [KH] at h1;exact h1
               have Ĩ:bq ops i o.op=true:=(I _ _▸hgr:_/\_).2;have ŝ:e9 o.op=true:=(I _ _▸hgr:_/\_).1;have Ę:(dr&& !alone ops i&&(cP o.op || (e9 o.op&&bq ops i o.op)))=true:=by rw [ha.1,ha.2,hgr];simp
               have č:nQ c ops dr i o.op=iz ops i:=by unfold nQ;rw [Ę]
               have Ď:((iz ops i).all fun p=>fQ kk (t.get .any p))=true:=by rw [ε];intro p hp;obtain ⟨q,hq,ĥ⟩:=k2 p (Α _ (by rw [č];exact hp));have h3:=ă.2;unfold ED at h3;rw [ε] at h3;have h4:=h3 q hq;rw [k1 q hq,ĥ,AB Ĩ hp,Ϛ] at h4;exact h4
               simp only [iC,aI,Ą.1,ha.2,ą,Ĩ,sP,ŝ,hrt,Ď,Μ]
              ·cases Ă
             ·rename_i v' bx ą;split at Ă
              ·rename_i ă;cases Ă;rw [I,EC] at ă;have Ş:=ă.1
               have hcv:cQ o.op=true:=by have h1:=Ş;simp only [bg,I] at h1;exact yf h1.1.1
               obtain ⟨hns,hng⟩:=uQ hcv
               have č:nQ c ops dr i o.op=eS ops i:=by unfold nQ;rw [hns,hng,ha.1,ha.2,gg Ş];rfl
               have Ď:((eS ops i).all fun p=>o0 (É bs) (t.get .any p))=true:=by rw [ε];intro p hp;obtain ⟨q,hq,ĥ⟩:=k2 p (Α _ (by rw [č];exact hp));have h3:=ă.2;rw [ε] at h3;have h4:=h3 q hq;rw [k1 q hq,ĥ] at h4;exact h4
               rw [Ş] at ą;simp only [iC,aI,Ą.1,ha.2,Ş,ą,Ď,Μ]
              ·cases Ă
             ·rename_i v' kk ą;split at Ă
              ·rename_i ă;cases Ă;rw [I] at ă;obtain ⟨Ş,hea⟩:=MS ă.1;have ņ:=hea;simp only [fR,I] at ņ
               have hcv:cQ o.op=true:=by
                cases hc:cQ o.op with
                | true=>rfl
                | false=>have h1:=ņ.1.1;rw [CV hc] at h1;cases h1
               obtain ⟨hns,hng⟩:=uQ hcv
               have č:nQ c ops dr i o.op=eS ops i:=by unfold nQ;rw [hns,hng,ha.1,ha.2,eU hea];rfl
               have Ď:((eS ops i).all fun p=>sT kk (t.get .any p))=true:=by rw [ε];intro p hp;obtain ⟨q,hq,ĥ⟩:=k2 p (Α _ (by rw [č];exact hp));have h3:=ă.2;rw [ε] at h3;have h4:=h3 q hq;have h5:=ņ.2;rw [ε] at h5;have h6:=(I _ _▸h5 p hp:_/\_).2;rw [Φ] at h6;rw [k1 q hq,ĥ,h6,Ϛ] at h4;exact h4
               simp only [iC,aI,Ą.1,ha.2,ą,hea,Ď,Μ]
              ·cases Ă
             ·cases Ă
            ·cases hm
          ·cases Ā
         ·cases Ā
        ·-- it is not
         rename_i hw;refine after (.aK []) bs (yc ?_) Ā;cases g' with
         | none=>simp [vK] at hw
         | some q=>
          obtain ⟨x,w⟩:=q;simp only [vK] at hw;cases hx:bQ c (dV env vs) (seen base kl bs) x with
          | none=>rw [hx] at hw;cases hw
          | some u=>rw [hx] at hw;rw [ĕ.want hg' hx];exact hw
        ·cases Ā
       ·cases hl
      ·cases hl
end
end Go.Am
namespace Go.Am
def CW (n:N) (v:A (C AV)) (b:A af):A (C AV):=
 match decide (É b<=n) with
 | true=>v
 | false=>v.map (ϴ (forget n))
def ee (n:N) (b:A af):A af:=
 match decide (É b<=n) with
 | true=>b
 | false=>(b.take n).map (b9 n)
def lB:A N->A (C AV)->A (C AV)
 | [],v=>v
 | i::r,v=>lB r (v.set i ο)
def fU (k:A N) (n:N):N->A (C AV)->ι
 | _, []=>ν
 | i,ο::r=>fU k n (i+1) r
 | i,G a::r=>(a.under n || !k.contains (i+1000))&&fU k n (i+1) r
def gx (n:N) (b:A af) (v:AV):AV:=
 match v.under n with
 | true=>v
 | false=>match v.hand n b with
  | some v'=>match v'.under n with
   | true=>v'
   | false=> .any
  | none=> .any
def vM (n:N) (v:A (C AV)) (b:A af):A (C AV):=v.map (ϴ (gx n b))
def s9 (k:A N) (n:N) (v:A (C AV)) (b:A af):A (C AV):=
 match decide (É b<=n) with
 | true=>v
 | false=>match fU k n 0 (lB k v) with
  | true=>vM n v b
  | false=>v
def tc (k:A N) (n:N) (v:A (C AV)) (b:A af):A af:=
 match decide (É b<=n) with
 | true=>b
 | false=>match fU k n 0 (lB k v) with
  | true=>ee n b
  | false=>b
def leave (i:N):Ex->Ex
 | .exit j=>if j=i then .normal else .exit j
 | e=>e
def AV.isNil:AV->ι
 | .ah nl _ es=>(nl==G ν)&&es.isEmpty
 | _=>τ
def MT (x:AV) (b:A af):A af:=
 match x with
 | .aC k _=>match af.at b k with
  | .sl sh sz es=>b.set k (.sl ⟨ν,sh.ty,ο⟩ sz es)
  | _=>b
 | _=>b
def KI (o:tq) (v:A (C AV)) (b:A af):A (C AV)×A af:=
 match o.cell with
 | none=>match lX v o.slot with
  | some x=>if x.isNil=ν then (if o.sz=0 then (v,b) else (v.set o.slot (G (.aC (É b) 0)),b++ [.sl ⟨τ,G o.el,ο⟩ o.sz []])) else (v,if o.sz=0 then MT x b else b)
  | none=>(v,b)
 | some off=>match lX v o.slot with
  | some (.ptr k base)=>match af.at b k with
   | .var ty cs=>match cs[base+off]? with
    | some x=>if x.isNil=ν then (v,b.set k (.var ty (cs.set (base+off) (.aC (É b) 0)))++ [.sl ⟨τ,G o.el,ο⟩ o.sz []]) else (v,b)
    | none=>(v,b)
   | _=>(v,b)
  | _=>(v,b)
def jB:A tq->A (C AV)->A af->A (C AV)×A af
 | [],v,b=>(v,b)
 | o::r,v,b=>jB r (KI o v b).1 (KI o v b).2
def jA (keep:A N) (args:A AV):A (C AV):=
 match keep with
 | []=> []
 | i::r=>args[i]?::jA r args
def Qg (c:aD) (v:A (C AV)) (b:A af):PE->C AV
 | .v i=>lX v i
 | .cell i ty=>match lX v i with
  | some (.ptr k off)=>match af.at b k,c.ti ty with
   | .var _ cs,G i=>je i cs off
   | _,_=>ο
  | _=>ο
def mS (c:aD) (v:A (C AV)) (b:A af):A PE->C (A AV)
 | []=>G []
 | r::l=>match Qg c v b r with
  | some x=>match mS c v b l with
   | some y=>G (x::y)
   | none=>ο
  | none=>ο
def MU (n:N) (b:A af) (v:AV):C (AV×A af):=
 match v.hand n b with
 | some v'=>match v'.under n with
  | true=>G (v',ee n b)
  | false=>G (v,b)
 | none=>ο
def MW (own:ι) (n:N) (b:A af) (v:AV):C (AV×A af):=
 match own&& !v.under n with
 | true=>G (v,b)
 | false=>MU n b v
def KJ (c:aD) (own:ι) (res:A PE) (n:N) (v:A (C AV)) (b:A af):C (AV×A af):=
 match mS c v b res with
 | some vs=>MW own n b (D6 vs)
 | none=>ο
def yg:Ex->Uk
 | .normal=> .ready
 | e=> .done e
def Ex.tr:Ex->ι
 | .normal=>ν
 | _=>τ
def Qh (v:A (C AV)) (n:N) (r:C (AV×A af)):C (Ex×A (C AV)×A af):=
 match r with
 | some (_,b')=>match af.at b' n with
  | .loop .ready=>G (.normal,CW n v b',ee n b')
  | .loop (.done e)=>G (e,CW n v b',ee n b')
  | _=>ο
 | none=>ο
def zM (c:aD) (cf:aQ) (x:N) (s:Site) (v:A (C AV)) (b:A af):C (Ex×A (C AV)×A af):=
 match lX v x with
 | some (.fn f [] caps)=>match c.ext f with
  | some _=>ο
  | none=>Qh v (É b) (cf (.fn f) (.gG (É b) s (v.map (·.getD .any))::caps) (b++ [.loop .ready]))
 | _=>ο
section
variable {c:aD} {f g:aQ}
theorem kJ (h:L7 f g) {op:Op} {φ:Υ->AV} {bs:A af} {id:N} {r:AV×dy} (hr:ew c f op φ bs id=G r):ew c g op φ bs id=G r:=by
 unfold ew at hr⊢;split at hr
 ·split at hr
  ·split at hr
   ·split at hr
    ·exact hr
    ·exact MX h hr
   ·split at hr
    ·rename_i hf;rw [h _ _ _ _ hf];exact hr
    ·cases hr
   ·cases hr
  ·exact hr
 ·exact hr
theorem MY {f g:aQ} (h:L7 f g):L7 (sR f) (sR g):=fun t args bs r hr=>by
 unfold sR at hr⊢;split at hr
 ·split at hr
  ·rename_i hf;rw [h _ _ _ _ hf];exact hr
  ·rename_i hf;rw [h _ _ _ _ hf];exact hr
  ·cases hr
 ·exact h _ _ _ _ hr
theorem mT {f g:aQ} (h:L7 f g): ∀b,L7 (cM f b) (cM g b)
 | true=>h
 | false=>MY h
theorem Qi (h:L7 f g) {base:N} {mask:C (A N)} {k:N} {o:Op} {vs:A (N×AV)} {bs:A af} {r:AV×A af} (hr:KG c f base mask k o vs bs=G r):KG c g base mask k o vs bs=G r:=by
 unfold KG at hr⊢;split at hr
 ·unfold Jf at hr⊢;split at hr
  ·rename_i hd;rw [kJ h hd];exact hr
  ·cases hr
 ·unfold Jg at hr⊢;split at hr
  ·rename_i hd;rw [kJ (mT h _) hd];exact hr
  ·rename_i hd;rw [kJ (mT h _) hd];exact hr
  ·rename_i hd;rw [kJ (mT h _) hd];exact hr
  ·rename_i hd;rw [kJ (mT h _) hd];exact hr
  ·rename_i hd;rw [kJ (mT h _) hd];exact hr
  ·rename_i hd;rw [kJ (mT h _) hd];exact hr
  ·cases hr
theorem ey (h:L7 f g) {base:N} {kl:A N}: ∀(ā:A It) (env:A (C AV)) (bs:A af) (r:A (C AV)×A af),bC c f base kl ā env bs=G r->bC c g base kl ā env bs=G r
 | [],_,_,_,hr=>hr
 | .par l::ā,env,bs,r,hr=>by
  simp only [bC] at hr⊢;split at hr
  ·exact ey h ā _ _ r hr
  ·cases hr
 | .gJ mask k d g' o xs::ā,env,bs,r,hr=>by
  simp only [bC] at hr⊢;split at hr
  ·split at hr
   ·split at hr
    ·rename_i he;rw [Qi h he];exact ey h ā _ _ r hr
    ·cases hr
   ·cases hr
  ·exact ey h ā _ _ r hr
  ·cases hr
end
theorem Jh {c:aD} {f g:aQ} (h:L7 f g) {x:N} {s:Site} {v:A (C AV)} {b:A af} {r:Ex×A (C AV)×A af} (hr:zM c f x s v b=G r):zM c g x s v b=G r:=by
 unfold zM at hr⊢;split at hr
 ·split at hr
  ·cases hr
  ·unfold Qh at hr⊢;split at hr
   ·rename_i hf;rw [h _ _ _ _ hf];exact hr
   ·cases hr
 ·cases hr
abbrev dp:=Ex->A (C AV)->A af->Prop
def EF (W:dp->A (C AV)->A af->Prop) (Q:dp):dp:=fun e v b=>
 match e with
 | .normal=>W Q v b
 | e=>Q e v b
def qg (W:dp->A (C AV)->A af->Prop) (k:A N) (Q:dp):N->A (C AV)->A af->Prop
 | 0,_,_=>Ρ
 | n+1,v,b=>W (fun e v' b'=>match e with
  | .normal=>qg W k Q n (s9 k (É b) v' b') (tc k (É b) v' b')
  | e=>Q e v' b') (lB k v) b
def qK (r:C (A (C AV)×A af)) (Q:dp):Prop:=
 match r with
 | some (v,b)=>Q .normal v b
 | none=>Ρ
def AD (x:C AV) (p q:Prop):Prop:=
 match x with
 | some (.bool ν)=>p
 | some (.bool τ)=>q
 | _=>Ρ
def Qj (r:C (Ex×A (C AV)×A af)) (Q:dp):Prop:=
 match r with
 | some (e,v,b)=>Q e v b
 | none=>Ρ
def CN (c:aD) (own:ι) (res:A PE) (n:N) (r:AV×A af):dp:=fun e v b=>
 match e with
 | .exit _=>Ρ
 | _=>KJ c own res n v b=G r
mutual
inductive mN (c:aD):IR->dp->A (C AV)->A af->Prop where
 | skip {Q:dp} {v:A (C AV)} {b:A af} (h:Q .normal v b):mN c .skip Q v b
 | ret {Q:dp} {v:A (C AV)} {b:A af} (h:Q .ret v b):mN c .ret Q v b
 | own {l:A tq} {Q:dp} {v:A (C AV)} {b:A af} (h:Q .normal (jB l v b).1 (jB l v b).2):mN c (.own l) Q v b
 | exit {i:N} {Q:dp} {v:A (C AV)} {b:A af} (h:Q (.exit i) v b):mN c (.exit i) Q v b
 | seq {x y:IR} {Q R:dp} {v:A (C AV)} {b:A af} (h1:mN c x R v b) (h2: ∀v' b',R .normal v' b'->mN c y Q v' b') (h3: ∀e v' b',e≠ .normal->R e v' b'->Q e v' b'):mN c (.seq x y) Q v b
 | block {i:N} {x:IR} {Q:dp} {v:A (C AV)} {b:A af} (h:mN c x (fun e v b=>Q (leave i e) v b) v b):mN c (.block i x) Q v b
 | jC {m:N} {kl:A N} {ā:A It} {Q:dp} {v v':A (C AV)} {b b':A af} (cf:aQ) (h: ∀f a bs r,cf f a bs=G r->Ha c f a bs r) (hr:bC c cf (É b) kl ā v (b++O m .dead)=G (v',b')) (hq:Q .normal v' b'):mN c (.jC m kl ā) Q v b
 | yes {k:N} {x y:IR} {Q:dp} {v:A (C AV)} {b:A af} (hx:lX v k=G (.bool ν)) (h:mN c x Q (v.set k ο) b):mN c (.cond k x y) Q v b
 | no {k:N} {x y:IR} {Q:dp} {v:A (C AV)} {b:A af} (hx:lX v k=G (.bool τ)) (h:mN c y Q (v.set k ο) b):mN c (.cond k x y) Q v b
 | loop {k:A N} {x:IR} {Q R:dp} {v:A (C AV)} {b:A af} (h1:mN c x R (lB k v) b) (h2: ∀v' b',R .normal v' b'->mN c (.loop k x) Q (s9 k (É b) v' b') (tc k (É b) v' b')) (h3: ∀e v' b',e≠ .normal->R e v' b'->Q e v' b'):mN c (.loop k x) Q v b
 | td {x:N} {s:Site} {Q:dp} {v v':A (C AV)} {b b':A af} {e:Ex} (cf:aQ) (h: ∀f a bs r,cf f a bs=G r->Ha c f a bs r) (hr:zM c cf x s v b=G (e,v',b')) (hq:Q e v' b'):mN c (.td x s) Q v b
 | CL {x k n i m clock:N} {seen:A N} {es:A (AV×AV×N)} {ā:A It} {Q:dp} {v:A (C AV)} {b:A af} (cf:aQ) (h: ∀f a bs r,cf f a bs=G r->Ha c f a bs r) (hx:lX v x=G (.lU i)) (hi:af.at b i= .iter (.map m seen clock)) (hm:af.at b m= .mp es clock)
   (h0:(∀e∈es,seen.contains e.2.2=ν)-> ∃v' b',bC c cf (É b) [] ā (v.set k (G (.aK [.bool τ]))) (b++O n .dead)=G (v',b')/\Q .normal v' b')
   (h1: ∀e∈es,seen.contains e.2.2=false-> ∃v' b',bC c cf (É b) [] ā (v.set k (G (.aK [.bool ν,e.1,e.2.1]))) (b.set i (.iter (.map m (seen++ [e.2.2]) clock))++O n .dead)=G (v',b')/\Q .normal v' b'):mN c (.CL x k n ā) Q v b
 | alt {l:A (N×A N×A It)} {Q:dp} {v:A (C AV)} {b:A af} (cf:aQ) (h: ∀f a bs r,cf f a bs=G r->Ha c f a bs r) (hne:l≠ [])
   (hr: ∀x∈l,∃v' b',bC c cf (É b) x.2.1 x.2.2 v (b++O x.1 .dead)=G (v',b')/\Q .normal v' b'):mN c (.alt l) Q v b
inductive Ha (c:aD):Y6->A AV->A af->AV×A af->Prop where
 | fn {f:ώ} {fn:Func} {L:bt} {args:A AV} {bs:A af} {r:AV×A af} (hf:c.fn.get ο f=G fn) (hl:aj c fn=G L) (h:mN c L.code (CN c (c.own f) L.res (É bs) r) (jA L.keep args) bs):Ha c (.fn f) args bs r
 | gG {k:N} {s:Site} {env args:A AV} {bs:A af} {r:AV×A af} {asg body:IR} {R:dp} (hl:xc c s=G (asg,body)) (hn:É args=s.ps.size) (he:É env=s.keep.length) (hk:af.at bs k= .loop .ready) (h1:mN c asg R (CK s env args) bs)
   (h2: ∀e v1 b1,R e v1 b1->e= .normal/\af.at b1 k= .loop .ready) (h3: ∀e v1 b1,R e v1 b1->mN c body (fun e _ b2=>af.at b2 k= .loop .busy/\(AV.bool e.tr,ee (É bs) (b2.set k (.loop (yg e))))=r) v1 (b1.set k (.loop .busy))):Ha c (.gG k s env) args bs r
end
def Ji (f g:aQ):aQ:=fun t a b=>match f t a b with
 | some r=>G r
 | none=>g t a b
theorem tu (f g:aQ):L7 f (Ji f g):=fun t a b r h=>by simp only [Ji,h]
theorem tv {f g:aQ} (h: ∀t a b r r',f t a b=G r->g t a b=G r'->r=r'):L7 g (Ji f g):=fun t a b r hr=>by
 unfold Ji;cases hf:f t a b with
 | none=>exact hr
 | some r0=>rw [h t a b r0 r hf hr]
theorem mN.both {c:aD} {x:IR} {Q:dp} {v:A (C AV)} {b:A af} (h:mN c x Q v b): ∀Q',mN c x Q' v b-> ∃e v' b',Q e v' b'/\Q' e v' b':=by
 refine mN.rec (c:=c) (motive_1:=fun x Q v b _=> ∀Q',mN c x Q' v b-> ∃e v' b',Q e v' b'/\Q' e v' b') (motive_2:=fun t a bs r _=> ∀r',Ha c t a bs r'->r=r')
  ?_ ?_ ?_ ?_ ?_ ?_ ?_ ?_ ?_ ?_ ?_ ?_ ?_ ?_ ?_ h
 ·intro Q v b h Q' k;cases k with | skip h'=>exact ⟨_,_,_,h,h'⟩
 ·intro Q v b h Q' k;cases k with | ret h'=>exact ⟨_,_,_,h,h'⟩
 ·intro l Q v b h Q' k;cases k with | own h'=>exact ⟨_,_,_,h,h'⟩
 ·intro i Q v b h Q' k;cases k with | exit h'=>exact ⟨_,_,_,h,h'⟩
 ·intro x y Q R v b h1 h2 h3 ih1 ih2 Q' k;cases k with
  | seq k1 k2 k3=>
   obtain ⟨e,v',b',p1,p2⟩:=ih1 _ k1;cases e with
   | normal=>exact ih2 v' b' p1 _ (k2 v' b' p2)
   | ret=>exact ⟨_,_,_,h3 _ _ _ (by simp) p1,k3 _ _ _ (by simp) p2⟩
   | exit i=>exact ⟨_,_,_,h3 _ _ _ (by simp) p1,k3 _ _ _ (by simp) p2⟩
 ·intro i x Q v b h ih Q' k;cases k with
  | block h'=>obtain ⟨e,v',b',p1,p2⟩:=ih _ h';exact ⟨_,_,_,p1,p2⟩
 ·intro m kl ā Q v v' b b' cf h hr hq ih Q' k;cases k with
  | jC Ģ h' Ĝ hq'=>have hj: ∀t a b r r',cf t a b=G r->Ģ t a b=G r'->r=r':=fun t a b r r' h1 h2=>ih t a b r h1 _ (h' t a b r' h2);have e1:=ey (tu cf Ģ) _ _ _ _ hr;have e2:=ey (tv hj) _ _ _ _ Ĝ;rw [e1] at e2;cases e2;exact ⟨_,_,_,hq,hq'⟩
 ·intro k x y Q v b hx h ih Q' h';cases h' with
  | yes ĭ h'=>exact ih _ h'
  | no ĭ h'=>rw [hx] at ĭ;cases ĭ
 ·intro k x y Q v b hx h ih Q' h';cases h' with
  | yes ĭ h'=>rw [hx] at ĭ;cases ĭ
  | no ĭ h'=>exact ih _ h'
 ·intro k x Q R v b h1 h2 h3 ih1 ih2 Q' h';cases h' with
  | loop k1 k2 k3=>
   obtain ⟨e,v',b',p1,p2⟩:=ih1 _ k1;cases e with
   | normal=>exact ih2 v' b' p1 _ (k2 v' b' p2)
   | ret=>exact ⟨_,_,_,h3 _ _ _ (by simp) p1,k3 _ _ _ (by simp) p2⟩
   | exit i=>exact ⟨_,_,_,h3 _ _ _ (by simp) p1,k3 _ _ _ (by simp) p2⟩
 ·intro x s Q v v' b b' e cf h hr hq ih Q' k;cases k with
  | td Ģ h' Ĝ hq'=>have hj: ∀t a b r r',cf t a b=G r->Ģ t a b=G r'->r=r':=fun t a b r r' h1 h2=>ih t a b r h1 _ (h' t a b r' h2);have e1:=Jh (tu cf Ģ) hr;have e2:=Jh (tv hj) Ĝ;rw [e1] at e2;cases e2;exact ⟨_,_,_,hq,hq'⟩
 ·intro x n0 n i m clock seen es ā Q v b cf h hx hi hm h0 h1 ih Q' k;cases k with
  | CL Ģ h' ĭ hi' Č h0' ş=>
   rw [hx] at ĭ;cases ĭ;rw [hi] at hi';cases hi';rw [hm] at Č;cases Č;have hj: ∀t a b r r',cf t a b=G r->Ģ t a b=G r'->r=r':=fun t a b r r' h1 h2=>ih t a b r h1 _ (h' t a b r' h2);by_cases Ĕ: ∀e∈es,seen.contains e.2.2=ν
   ·obtain ⟨v1,b1,r1,q1⟩:=h0 Ĕ;obtain ⟨v2,b2,r2,q2⟩:=h0' Ĕ;have e1:=ey (tu cf Ģ) _ _ _ _ r1;have e2:=ey (tv hj) _ _ _ _ r2;rw [e1] at e2;cases e2;exact ⟨_,_,_,q1,q2⟩
   ·have: ∃e∈es,seen.contains e.2.2=false:=by simpa using Ĕ
    obtain ⟨e,he,hn⟩:=this;obtain ⟨v1,b1,r1,q1⟩:=h1 e he hn;obtain ⟨v2,b2,r2,q2⟩:=ş e he hn;have e1:=ey (tu cf Ģ) _ _ _ _ r1;have e2:=ey (tv hj) _ _ _ _ r2;rw [e1] at e2;cases e2;exact ⟨_,_,_,q1,q2⟩
 ·intro l Q v b cf h hne hr ih Q' k;cases k with
  | alt Ģ h' hne' Ĝ=>
   have hj: ∀t a b r r',cf t a b=G r->Ģ t a b=G r'->r=r':=fun t a b r r' h1 h2=>ih t a b r h1 _ (h' t a b r' h2);cases l with
   | nil=>exact ϩ rfl hne
   | cons x l=>obtain ⟨v1,b1,r1,q1⟩:=hr x η;obtain ⟨v2,b2,r2,q2⟩:=Ĝ x η;have e1:=ey (tu cf Ģ) _ _ _ _ r1;have e2:=ey (tv hj) _ _ _ _ r2;rw [e1] at e2;cases e2;exact ⟨_,_,_,q1,q2⟩
 ·intro f fn L args bs r hf hl h ih r' k;cases k with
  | fn ĉ Ć h'=>
   rw [hf] at ĉ;cases ĉ;rw [hl] at Ć;cases Ć;obtain ⟨e,v',b',p1,p2⟩:=ih _ h';unfold CN at p1 p2;cases e with
   | normal=>rw [p1] at p2;cases p2;rfl
   | ret=>rw [p1] at p2;cases p2;rfl
   | exit i=>exact p1.elim
 ·intro k s env args bs r asg body R hl hn he hk h1 h2 h3 ih1 ih3 r' k';cases k' with
  | gG Ć hn' Ŕ Š ş h2' h3'=>rw [hl] at Ć;cases Ć;obtain ⟨e,v1,b1,p1,p2⟩:=ih1 _ ş;obtain ⟨e2,v2,b2,q1,q2⟩:=ih3 _ _ _ p1 _ (h3' _ _ _ p2);rw [<-q1.2,<-q2.2]
theorem Ha.one {c:aD} {t:Y6} {a:A AV} {bs:A af} {r r':AV×A af} (h:Ha c t a bs r) (h':Ha c t a bs r'):r=r':=by
 cases h with
 | fn hf hl h=>
  cases h' with
  | fn ĉ Ć h'=>
   rw [hf] at ĉ;cases ĉ;rw [hl] at Ć;cases Ć;obtain ⟨e,v',b',p1,p2⟩:=h.both _ h';unfold CN at p1 p2;cases e with
   | normal=>rw [p1] at p2;cases p2;rfl
   | ret=>rw [p1] at p2;cases p2;rfl
   | exit i=>exact p1.elim
 | gG hl hn he hk h1 h2 h3=>
  cases h' with
  | gG Ć hn' Ŕ Š ş h2' h3'=>rw [hl] at Ć;cases Ć;obtain ⟨e,v1,b1,p1,p2⟩:=h1.both _ ş;obtain ⟨e2,v2,b2,q1,q2⟩:=(h3 _ _ _ p1).both _ (h3' _ _ _ p2);rw [<-q1.2,<-q2.2]
noncomputable def pg (c:aD):aQ:=fun f args bs=>
 open Classical in if h: ∃r,Ha c f args bs r then G (Classical.choose h) else ο
theorem kG {c:aD} {f:Y6} {args:A AV} {bs:A af} {r:AV×A af}:pg c f args bs=G r↔Ha c f args bs r:=by
 unfold pg;constructor
 ·intro h;split at h
  ·rename_i hx;cases h;exact Classical.choose_spec hx
  ·cases h
 ·intro h;have hx: ∃r,Ha c f args bs r:=⟨r,h⟩;rw [dif_pos hx];rw [Ha.one (Classical.choose_spec hx) h]
noncomputable abbrev ar (c:aD) (f:ώ):A AV->A af->C (AV×A af):=pg c (.fn f)
def Wp (c:aD):IR->dp->A (C AV)->A af->Prop
 | .skip,Q,v,b=>Q .normal v b
 | .ret,Q,v,b=>Q .ret v b
 | .stuck,_,_,_=>Ρ
 | .own l,Q,v,b=>Q .normal (jB l v b).1 (jB l v b).2
 | .exit i,Q,v,b=>Q (.exit i) v b
 | .seq x y,Q,v,b=>Wp c x (EF (Wp c y) Q) v b
 | .block i x,Q,v,b=>Wp c x (fun e v b=>Q (leave i e) v b) v b
 | .jC n kl ā,Q,v,b=>qK (bC c (pg c) (É b) kl ā v (b++O n .dead)) Q
 | .cond x p q,Q,v,b=>AD (lX v x) (Wp c p Q (v.set x ο) b) (Wp c q Q (v.set x ο) b)
 | .loop k x,Q,v,b=> ∃n,qg (Wp c x) k Q n v b
 | .td x s,Q,v,b=>Qj (zM c (pg c) x s v b) Q
 | .CL x k n ā,Q,v,b=> ∃i m clock seen es,lX v x=G (.lU i)/\af.at b i= .iter (.map m seen clock)/\af.at b m= .mp es clock/\
   ((∀e∈es,seen.contains e.2.2=ν)->qK (bC c (pg c) (É b) [] ā (v.set k (G (.aK [.bool τ]))) (b++O n .dead)) Q)/\
   (∀e∈es,seen.contains e.2.2=false->qK (bC c (pg c) (É b) [] ā (v.set k (G (.aK [.bool ν,e.1,e.2.1]))) (b.set i (.iter (.map m (seen++ [e.2.2]) clock))++O n .dead)) Q)
 | .alt l,Q,v,b=>l≠ []/\ ∀x∈l,qK (bC c (pg c) (É b) x.2.1 x.2.2 v (b++O x.1 .dead)) Q
theorem xf {r:C (A (C AV)×A af)} {Q:dp} (h:qK r Q): ∃v b,r=G (v,b)/\Q .normal v b:=by
 unfold qK at h;split at h
 ·exact ⟨_,_,rfl,h⟩
 ·exact h.elim
theorem uR {r:C (A (C AV)×A af)} {Q Q':dp} (hq: ∀e v b,Q e v b->Q' e v b) (h:qK r Q):qK r Q':=by obtain ⟨v,b,rfl,h⟩:=xf h;exact hq _ _ _ h
theorem tw {W:dp->A (C AV)->A af->Prop} (hW: ∀{Q Q':dp},(∀e v b,Q e v b->Q' e v b)-> ∀v b,W Q v b->W Q' v b) {k:A N} {Q Q':dp} (h: ∀e v b,Q e v b->Q' e v b): ∀(n:N) (v:A (C AV)) (b:A af),qg W k Q n v b->qg W k Q' n v b
 | 0,_,_,hr=>hr
 | n+1,v,b,hr=>by
  refine hW (fun e v' b' hq=> ?_) _ _ hr;cases e with
  | normal=>exact tw hW h n _ _ hq
  | ret=>exact h _ _ _ hq
  | exit i=>exact h _ _ _ hq
theorem Wp.mono {c:aD}: ∀(ir:IR) {Q Q':dp},(∀e v b,Q e v b->Q' e v b)-> ∀v b,Wp c ir Q v b->Wp c ir Q' v b
 | .skip,_,_,h,v,b,hw=>h _ _ _ hw
 | .ret,_,_,h,v,b,hw=>h _ _ _ hw
 | .stuck,_,_,_,_,_,hw=>hw
 | .own l,_,_,h,v,b,hw=>h _ _ _ hw
 | .exit _,_,_,h,v,b,hw=>h _ _ _ hw
 | .seq x y,Q,Q',h,v,b,hw=>Wp.mono x (fun e v b hq=>by
   cases e with
   | normal=>exact Wp.mono y h v b hq
   | ret=>exact h _ _ _ hq
   | exit i=>exact h _ _ _ hq) v b hw
 | .block i x,Q,Q',h,v,b,hw=>Wp.mono x (fun e v b hq=>h _ _ _ hq) v b hw
 | .jC n kl ā,Q,Q',h,v,b,hw=>by
  simp only [Wp,qK] at hw⊢;split at hw
  ·exact h _ _ _ hw
  ·exact hw
 | .cond x p q,Q,Q',h,v,b,hw=>by
  simp only [Wp,AD] at hw⊢;split at hw
  ·exact Wp.mono p h _ b hw
  ·exact Wp.mono q h _ b hw
  ·exact hw
 | .loop k x,Q,Q',h,v,b,hw=>by
  obtain ⟨n,hn⟩:=hw;exact ⟨n,tw (fun h v b=>Wp.mono x h v b) h n v b hn⟩
 | .td x s,Q,Q',h,v,b,hw=>by
  simp only [Wp,Qj] at hw⊢;split at hw
  ·exact h _ _ _ hw
  ·exact hw
 | .CL x k n ā,Q,Q',h,v,b,hw=>by
  obtain ⟨i,m,clock,seen,es,h1,h2,h3,h4,h5⟩:=hw;exact ⟨i,m,clock,seen,es,h1,h2,h3,fun p=>uR h (h4 p),fun e he p=>uR h (h5 e he p)⟩
 | .alt l,Q,Q',h,v,b,hw=>⟨hw.1,fun x hx=>uR h (hw.2 x hx)⟩
theorem yh {c:aD} {x:IR} {k:A N} (ih: ∀(Q:dp) (v:A (C AV)) (b:A af),Wp c x Q v b->mN c x Q v b) {Q:dp}:
  ∀(m:N) (v:A (C AV)) (b:A af),qg (Wp c x) k Q m v b->mN c (.loop k x) Q v b
 | 0,_,_,h=>h.elim
 | m+1,v,b,h=>by
  refine .loop (ih _ _ _ h) (fun v' b' h'=>yh ih m _ _ h') (fun e v' b' hne h'=> ?_);cases e with
  | normal=>exact ϩ rfl hne
  | ret=>exact h'
  | exit i=>exact h'
theorem rV {c:aD}: ∀(x:IR) (Q:dp) (v:A (C AV)) (b:A af),Wp c x Q v b->mN c x Q v b
 | .skip,Q,v,b,h=> .skip h
 | .ret,Q,v,b,h=> .ret h
 | .stuck,Q,v,b,h=>h.elim
 | .own l,Q,v,b,h=> .own h
 | .exit i,Q,v,b,h=> .exit h
 | .seq x y,Q,v,b,h=> .seq (rV x _ v b h) (fun v' b' h'=>rV y _ v' b' h') (fun e v' b' hne h'=>by
   cases e with
   | normal=>exact ϩ rfl hne
   | ret=>exact h'
   | exit i=>exact h')
 | .block i x,Q,v,b,h=> .block (rV x _ v b h)
 | .jC m kl ā,Q,v,b,h=>by
  simp only [Wp,qK] at h;split at h
  ·rename_i v' b' Ā;exact .jC (pg c) (fun _ _ _ _ hr=>kG.1 hr) Ā h
  ·exact h.elim
 | .cond x p q,Q,v,b,h=>by
  simp only [Wp,AD] at h;split at h
  ·rename_i hx;exact .yes hx (rV p _ _ b h)
  ·rename_i hx;exact .no hx (rV q _ _ b h)
  ·exact h.elim
 | .loop k x,Q,v,b,h=>by
  obtain ⟨m,hm⟩:=h;exact yh (fun Q v b h=>rV x Q v b h) m v b hm
 | .td x s,Q,v,b,h=>by
  simp only [Wp,Qj] at h;split at h
  ·rename_i e v' b' Ā;exact .td (pg c) (fun _ _ _ _ hr=>kG.1 hr) Ā h
  ·exact h.elim
 | .CL x k n ā,Q,v,b,h=>by
  obtain ⟨i,m,clock,seen,es,h1,h2,h3,h4,h5⟩:=h;exact .CL (pg c) (fun _ _ _ _ hr=>kG.1 hr) h1 h2 h3 (fun p=>xf (h4 p)) (fun e he p=>xf (h5 e he p))
 | .alt l,Q,v,b,h=> .alt (pg c) (fun _ _ _ _ hr=>kG.1 hr) h.1 (fun x hx=>xf (h.2 x hx))
theorem aa {c:aD} {f:ώ} {fn:Func} {L:bt} {args:A AV} {bs:A af} {r:AV×A af} (hf:c.fn.get ο f=G fn) (hl:aj c fn=G L)
  (hw:Wp c L.code (CN c (c.own f) L.res (É bs) r) (jA L.keep args) bs):ar c f args bs=G r:=
 kG.2 (.fn hf hl (rV _ _ _ _ hw))
end Go.Am
namespace Go.Am
variable [Kn]
structure jD (keep:A N) (nt:N) (env:A (C AV)) (t:Env):Prop where
 len:É env=É keep
 has: ∀i,i<nt->t.has i=ν
 env: ∀i k v,posOf keep i=G k->env.getD k ο=G v->t.get .any i=v
theorem jD.yi {keep:A N} {nt:N} {env:A (C AV)} {t:Env} (h:jD keep nt env t) (x:N):jD keep nt (env.set x ο) t where
 len:=by rw [Ε];exact h.len
 has:=h.has
 env:=fun i k v hk hv=>by
  by_cases hxk:x=k
  ·subst hxk;simp only [H] at hv;by_cases hlt:x<É env
   ·simp [hlt] at hv
   ·simp [hlt] at hv
  ·refine h.env i k v hk ?_;simp only [H] at hv⊢
   rwa [δ hxk] at hv
theorem jD.kill {keep:A N} {nt:N} {t:Env}: ∀(k:A N) {env:A (C AV)},jD keep nt env t->jD keep nt (lB k env) t
 | [],_,h=>h
 | i::r,_,h=>jD.kill r (h.yi i)
theorem jD.cut {keep:A N} {nt:N} {env:A (C AV)} {s:St} (h:jD keep nt env s.t) (n:N):jD keep nt (CW n env s.b) (s.cut n).t:=by
 unfold CW St.cut;split
 ·rename_i hd;simp only [hd];exact h
 ·rename_i hd;simp only [hd];refine ⟨by rw [ϥ];exact h.len,fun i hi=>by rw [Tr.sU];exact h.has i hi,fun i k v hk hv=> ?_⟩;have:(s.t.map (forget n)).get .any i=forget n (s.t.get .any i):=Tr.get_map (forget n) .any s.t i;rw [this];simp only [H,Χ] at hv;cases he:env[k]? with
  | none=>rw [he] at hv;cases hv
  | some o=>cases o with
   | none=>rw [he] at hv;cases hv
   | some u=>rw [he] at hv;simp only [ξ,ϐ,Y] at hv;rw [h.env i k u hk (by simp [H,he]),hv]
theorem KK {g:Gh} {w:γ} {bs:A af} (hm:Mem g bs w) (n:N) {d:AV} {v:Ϗ} (h:Rd g w d v):Rd (g.hand bs n) w (gx n bs d) v:=by
 unfold gx;split
 ·rename_i hu;exact h.bD n hu
 ·split
  ·rename_i v' ı;split
   ·rename_i hu;exact CX hm n d v' v h ı hu
   ·exact .any v
  ·exact .any v
theorem jD.vM {keep:A N} {nt:N} {env:A (C AV)} {t:Env} (h:jD keep nt env t) (n:N) (b:A af):jD keep nt (vM n env b) (t.map (gx n b)):=by
 refine ⟨by unfold Am.vM;rw [ϥ];exact h.len,fun i hi=>by rw [Tr.sU];exact h.has i hi,fun i k v hk hv=> ?_⟩;have:(t.map (gx n b)).get .any i=gx n b (t.get .any i):=Tr.get_map (gx n b) .any t i;rw [this];simp only [Am.vM,H,Χ] at hv;cases he:env[k]? with
 | none=>rw [he] at hv;cases hv
 | some o=>cases o with
  | none=>rw [he] at hv;cases hv
  | some u=>rw [he] at hv;simp only [ξ,ϐ,Y] at hv;rw [h.env i k u hk (by simp [H,he]),hv]
theorem MZ {g:Gh} {w:γ} {t:Env} {b:A af} {a:Act} (hm:Mem g b w) (ht:gv g w t a) {n:N} (hn: ¬ É b<=n): ∃g',Mem g' (ee n b) w/\gv g' w (t.map (gx n b)) a/\(∀g0 w0 Ų,Mem g0 Ų w0->Ų.length<=n->Le g0 w0 g w->Le g0 w0 g' w)/\Fr g w g' w:=by
 obtain ⟨m',f'⟩:=hm.hand n;refine ⟨g.hand b n,?_,fun i hi=> ?_,fun g0 w0 Ų ō hn hl=> ?_,f'⟩
 ·unfold ee;rw [ϓ hn];exact m'
 ·rw [Tr.sU] at hi;obtain ⟨h1,h2⟩:=ht i hi;refine ⟨h1,?_⟩;have:(t.map (gx n b)).get .any i=gx n b (t.get .any i):=Tr.get_map (gx n b) .any t i;rw [this];exact KK hm n h2
 ·refine ⟨fun b o hs=> .inl (hl.S b o hs),hl.cell,fun k=> ?_⟩;simp only [Gh.hand];split
  ·exact hl.e k
  ·rw [ō.no k (by simp [af.at,H,Η (by omega:Ų.length<=k)])];exact .no _
theorem Sw (s:St) (n:N):(s.cut n).b=ee n s.b:=by unfold St.cut ee;cases decide (s.b.length<=n) <;> rfl
theorem kK {bf:A N} {i x:N}: ∀(l:A Τ) (j k:N),x∈dC bf i l j k->x<k+dn l
 | [],_,_,h=>by cases h
 | o::r,j,k,h=>by
  simp only [dC] at h;simp only [dn];cases ha:asks o.op with
  | false=>
   simp only [ha,Ϫ] at h;have hn:next k o.op=k:=by unfold next;rw [ha]
   have:=kK r _ _ h;rw [hn] at this;simp only;omega
  | true=>
   have hn:next k o.op=k+1:=by unfold next;rw [ha]
   simp only;split at h
   ·rcases List.mem_cons.1 h with rfl | h
    ·omega
    ·have:=kK r _ _ h;omega
   ·have:=kK r _ _ h;omega
theorem rW {c:aD} {keep:A N} {nt:N} {v:A (C AV)} {t:Env} (h:jD keep nt v t) {b:A af}: ∀{l:A ResultVar} {rs:A PE} {vs:A AV},rX keep l=G rs->mS c v b rs=G vs->jh c t b l=G vs
 | [],rs,vs,h1,h2=>by cases h1;cases h2;rfl
 | .tmp i::r,rs,vs,h1,h2=>by
  simp only [rX] at h1;split at h1
  ·rename_i k l hk hl;cases h1;simp only [mS,Qg] at h2;split at h2
   ·rename_i x hx;split at h2
    ·rename_i y hy;cases h2;simp only [jh,wZ,rW h hl hy,h.env i k x hk hx]
    ·cases h2
   ·cases h2
  ·cases h1
 | .cell i ty::r,rs,vs,h1,h2=>by
  simp only [rX] at h1;split at h1
  ·rename_i k l hk hl;cases h1;simp only [mS] at h2;split at h2
   ·rename_i x hx;split at h2
    ·rename_i y hy;cases h2;simp only [Qg] at hx;split at hx
     ·rename_i p off hp;split at hx
      ·rename_i hb ht;simp only [jh,wZ,rW h hl hy,h.env i k _ hk hp,hb,ht,hx]
      ·cases hx
     ·cases hx
    ·cases h2
   ·cases h2
  ·cases h1
theorem Tr.qh {α:Type} (d:α): ∀(k n i:N),i<n->n<2^k->(Tr.mk d k n).has i=ν
 | 0,n,i,h,hk=>by omega
 | k+1,0,i,h,hk=>by omega
 | k+1,n+1,0,h,hk=>rfl
 | k+1,n+1,i+1,h,hk=>by
  have:2^(k+1)=2*2^k:=by rw [Nat.pow_succ];omega
  rcases Nat.mod_two_eq_zero_or_one i with hi | hi <;> simp only [Tr.mk,Tr.has,hi]
  ·exact Tr.qh d k _ _ (by omega) (by omega)
  ·exact Tr.qh d k _ _ (by omega) (by omega)
theorem vN: ∀(l:A AV) (t:Env) (i j:N),(gY t i l).has j=t.has j
 | [],_,_,_=>rfl
 | v::r,t,i,j=>by simp only [gY];rw [vN r,Tr.gp]
theorem vO: ∀(l:A AV) (t:Env) (i j:N),j<i->(gY t i l).get .any j=t.get .any j
 | [],_,_,_,_=>rfl
 | v::r,t,i,j,h=>by
  simp only [gY];rw [vO r _ _ _ (by omega),Tr.bK _ _ _ (by omega)]
theorem vP: ∀(l:A AV) (t:Env) (i j:N) (v:AV),l[j]?=G v->t.has (i+j)=true->(gY t i l).get .any (i+j)=v
 | [],_,_,_,_,h,_=>by simp at h
 | u::r,t,i,0,v,h,hh=>by
  simp at h;subst h;simp only [gY,ϲ];rw [vO r _ _ _ (by omega)];exact Tr.ed _ _ _ hh
 | u::r,t,i,j+1,v,h,hh=>by
  simp only [gY];rw [show i+(j+1)=i+1+j by omega] at hh⊢;exact vP r _ _ j v (by simpa using h) (by rw [Tr.gp];exact hh)
theorem yj {args:A AV}: ∀{keep:A N} {k i:N} {v:AV},keep[k]?=G i->(jA keep args).getD k ο=G v->args[i]?=G v
 | [],_,_,_,h,_=>by simp at h
 | x::r,0,i,v,h,hv=>by simp at h;subst h;simpa [jA] using hv
 | x::r,k+1,i,v,h,hv=>yj (by simpa using h) (by simpa [jA] using hv)
theorem qQ (args:A AV): ∀(keep:A N),(jA keep args).length=É keep
 | []=>rfl
 | _::r=>by simp [jA,qQ args r]
def Ur (Q:ϫ->Act->γ->Prop):ϫ->Act->γ->Prop
 | .goto _,_,_=>Ρ
 | e,a,w=>Q e a w
section
variable {F:Fence} {n:N} {P:Ϝ} {Q:ϫ->Act->γ->Prop} {a:Act} {w:γ} {b:Frame} {k:A Item} {cs:A Frame}
omit [Kn] in
theorem gK {c:Ι}:step P (lone (b.atR a (.code (.scope c)::k)) cs w)= .next (lone (b.atR a (.code c:: .inScope c::k)) cs w):=
 step_lone_go (by simp [stepG,stepG.exec,Frame.atR])
omit [Kn] in
theorem zO {c:Ι}:step P (lone (b.atR a (.inScope c::k)) cs w)= .next (lone (b.atR a k) cs w):=
 step_lone_go (by simp [stepG,stepG.exec,Frame.atR])
omit [Kn] in
theorem Hk {c:Ι} (h:c.wpIn F n P (Ur Q) a w):(Code.scope c).wpIn F n P Q a w:=by
 intro b k cs ķ hb hr;have h0:(lone (b.atR a (.code (.scope c)::k)) cs w).fenced P F:=ϔ hb hr rfl;obtain ⟨e,a₁,w₁,hq,ć⟩:=h b (.inScope c::k) cs ķ hb hr;cases e with
 | normal=>exact ⟨.normal,a₁,w₁,hq,.head h0 gK (StepsIn.trans ć (.one (ϔ hb hr rfl) zO))⟩
 | exit id=>
  have hx:exitTo id (.inScope c::k)=exitTo id k:=by simp [exitTo]
  exact ⟨.exit id,a₁,w₁,hq,fun k' hk=> .head h0 gK (ć.1 k' (by rw [hx];exact hk)),
   fun Ĝ hk=>let ⟨k₁,h1,h2⟩:=ć.2 Ĝ (by rw [hx];exact hk);⟨k₁,h1,.head h0 gK h2⟩⟩
 | goto l=>exact hq.elim
 | ret=>exact ⟨_,a₁,w₁,hq,.of_steps (.one h0 gK) ć⟩
 | panic ch=>exact ⟨_,a₁,w₁,hq,.of_steps (.one h0 gK) ć⟩
 | outgrown=>exact ⟨_,a₁,w₁,hq,.of_steps (.one h0 gK) ć⟩
end
inductive ef (c:aD) (keep:A N) (nt:N):Ι->IR->Prop where
 | stuck (a:Ι):ef c keep nt a .stuck
 | own (a:Ι) (l:A tq) (x:IR) (h:ef c keep nt a x):ef c keep nt a (.seq (.own l) x)
 | after (a:Ι) (l:A tq) (x:IR) (h:ef c keep nt a x):ef c keep nt a (.seq x (.own l))
 | skip:ef c keep nt .skip .skip
 | label (l:N):ef c keep nt (.label l) .skip
 | ret:ef c keep nt .ret .ret
 | exit (i:N):ef c keep nt (.exit i) (.exit i)
 | seq (a b:Ι) (x y:IR) (h1:ef c keep nt a x) (h2:ef c keep nt b y):ef c keep nt (.seq a b) (.seq x y)
 | block (i:N) (a:Ι) (x:IR) (h:ef c keep nt a x):ef c keep nt (.block i a) (.block i x)
 | scope (a:Ι) (x:IR) (h:ef c keep nt a x):ef c keep nt (.scope a) x
 | cond (t k:N) (a b:Ι) (x y:IR) (hk:posOf keep t=G k) (h1:ef c keep nt a x) (h2:ef c keep nt b y):ef c keep nt (.cond (.tmp t) a b) (.cond k x y)
 | yes (v:Ϗ) (a b:Ι) (x:IR) (hv:gH v= .bool ν) (h:ef c keep nt a x):ef c keep nt (.cond (.const v) a b) x
 | no (v:Ϗ) (a b:Ι) (x:IR) (hv:gH v= .bool τ) (h:ef c keep nt b x):ef c keep nt (.cond (.const v) a b) x
 | loop (k:A N) (a:Ι) (x:IR) (h:ef c keep nt a x):ef c keep nt (.loop a) (.loop k x)
 | region (id:N) (ops:Κ Τ) (dr:ι) (x:IR) (h:Hl c keep nt ops dr=G x):ef c keep nt (.region id ops dr) x
 | td (t x:N) (ps:Κ Tmp) (asg body:Ι) (hk:posOf keep t=G x):ef c keep nt (.rangeFunc (.tmp t) ps asg body) (.td x ⟨ps,asg,body,keep,nt⟩)
theorem rY {c:aD} {keep:A N} {nt:N} {a:Ι} {x:IR} (h:ef c keep nt a x) (l:A tq):ef c keep nt a (yk l x):=by
 unfold yk;split
 ·exact h
 ·exact .own a _ x h
theorem Hm {c:aD} {keep:A N} {nt:N} {a:Ι} {x:IR} (h:ef c keep nt a x) (l:A tq):ef c keep nt a (Hn x l):=by
 unfold Hn;split
 ·exact h
 ·exact .after a _ x h
theorem EG {c:aD} {keep:A N} {nt:N} {ops:Κ Τ} {dr:ι} {y:IR} (h:Hl c keep nt ops dr=G y):
  (∃m kl ā,y= .jC m kl ā/\CY c keep nt ops dr=G (.jC m kl ā))\/
  (∃(o:Τ) (r:A Τ) (t d x k:N) (ā:A It),dr=τ/\ops.toList=o::r/\o.op= .next (.tmp t) τ/\o.dst=G d/\o.guard=ο/\posOf keep t=G x/\posOf keep d=G k/\d<nt/\nP c ops keep nt τ r 1 []=G ā/\y= .CL x k (dn r) ā)\/
  ∃(k:N) (l:A (N×A N×A It)),dr=ν/\qi c keep nt k ops=G l/\y= .alt l:=by
 unfold Hl at h;split at h
 ·rename_i y' hn;cases h;right;left;unfold M4 at hn;split at hn
  ·rename_i o r hl;split at hn
   ·rename_i t d ho hd hg;split at hn
    ·rename_i x k ā hx hk hi Ņ;cases hn;exact ⟨o,r,t,d,x,k,ā,rfl,hl,ho,hd,hg,hx,hk,of_decide_eq_true Ņ,hi,rfl⟩
    ·cases hn
   ·cases hn
  ·cases hn
 ·split at h
  ·rename_i y' hn;cases h;right;right;unfold M5 at hn;split at hn
   ·split at hn
    ·rename_i h1;cases hn;exact ⟨_,_,rfl,h1,rfl⟩
    ·cases hn
   ·cases hn
  ·left;have h2:=h;unfold CY at h2;split at h2
   ·split at h2
    ·cases h2;exact ⟨_,_,_,rfl,h⟩
    ·cases h2
   ·cases h2
theorem CZ {c:aD} {keep:A N} {nt n ret:N}: ∀(a:Ι) (ir:IR),kL c keep nt a=G ir-> ∀(xs:A (N×N)) (out:N),ef c keep nt a (mU c n ret ir xs out):=by
 intro a
 induction a <;> intro ir hl xs out <;> try simp only [kL] at hl
 case skip=>cases hl;exact .skip
 case label=>cases hl;exact .label _
 case ret=>cases hl;exact .ret
 case exit=>cases hl;exact .exit _
 case seq a b ih1 ih2=>
  split at hl
  ·rename_i ha hb;cases hl;exact .seq _ _ _ _ (ih1 _ ha _ _) (ih2 _ hb _ _)
  ·cases hl
 case block i a ih=>
  split at hl
  ·rename_i ha;cases hl;exact .block _ _ _ (ih _ ha _ _)
  ·cases hl
 case scope a ih=>exact .scope _ _ (ih _ hl _ _)
 case cond x a b ih1 ih2=>
  cases x with
  | tmp x=>
   simp only [kL] at hl;split at hl
   ·rename_i hk ha hb;cases hl;exact .cond _ _ _ _ _ _ hk (ih1 _ ha _ _) (ih2 _ hb _ _)
   ·cases hl;exact .stuck _
   ·cases hl
  | const u=>
   simp only [kL] at hl;split at hl
   ·rename_i hu;exact .yes _ _ _ _ hu (ih1 _ hl _ _)
   ·rename_i hu;exact .no _ _ _ _ hu (ih2 _ hl _ _)
   ·cases hl;exact .stuck _
  | func f=>simp only [kL] at hl;cases hl;exact .stuck _
  | global g=>simp only [kL] at hl;cases hl;exact .stuck _
 case loop a ih=>
  split at hl
  ·rename_i ha;cases hl;exact rY (.loop _ _ _ (ih _ ha _ _)) _
  ·cases hl
 case region id ops dr=>
  split at hl
  ·rename_i y hl0;cases hl;rcases EG hl0 with ⟨_,_,_,rfl,_⟩ | ⟨_,_,_,_,_,_,_,_,_,_,_,_,_,_,_,_,rfl⟩ | ⟨_,_,_,_,rfl⟩
   ·exact rY (Hm (.region _ _ _ _ hl0) _) _
   ·exact .region _ _ _ _ hl0
   ·exact .region _ _ _ _ hl0
  ·cases hl;exact .stuck _
 case rangeFunc f ps asg body ih1 ih2=>
  cases f with
  | tmp t=>
   simp only [kL] at hl;split at hl
   ·rename_i hk;cases hl;exact rY (.td _ _ _ _ _ hk) _
   ·cases hl
  | const u=>simp only [kL] at hl;cases hl;exact .stuck _
  | func f=>simp only [kL] at hl;cases hl;exact .stuck _
  | global g=>simp only [kL] at hl;cases hl;exact .stuck _
 all_goals (cases hl;exact .stuck _)
def kM (keep:A N) (nt:N) (g:Gh) (w:γ) (v:A (C AV)) (a:Act):Prop:= ∃t,jD keep nt v t/\gv g w t a
def Marks (n0:N) (w:γ) (ds:A Ϭ):Prop:=
 n0<=w.heap.size/\ ∃Ds:A N,ds=Ds.map (fun D=>{target:= .collected D,args:= #[]})/\Ds.Nodup/\ ∀D∈Ds,n0<=D/\w.heap[D]?=G (.deferred (G []))
theorem Marks.nil {n0:N} {w:γ} (h:n0<=w.heap.size):Marks n0 w []:=⟨h, [],rfl,Ϩ,fun _ h=>by cases h⟩
theorem Mem.M6 {g:Gh} {b:A af} {w:γ} (hm:Mem g b w) {D:N} {x:C (A Ϭ)} (h:w.heap[D]?=G (.deferred x)) (k:N):(g.e k).bM≠G D:=by
 intro hk;cases hb:af.at b k with
 | dead=>rw [hm.no k hb] at hk;cases hk
 | var ty cs=>obtain ⟨b',he,c,hh,_⟩:=hm.var k ty cs hb;rw [he] at hk;simp only [GE.bM,Y] at hk;subst hk;rw [h] at hh;cases hh
 | sl sh sz es=>
  obtain ⟨loc,he,_,hr⟩:=hm.sl k sh sz es hb;rw [he] at hk;cases loc with
  | none=>cases hk
  | some p=>obtain ⟨b',cap⟩:=p;obtain ⟨c,ty,fz,hh,_⟩:=hr;simp only [GE.bM,ξ,Y] at hk;subst hk;rw [h] at hh;cases hh
 | loop st=>obtain ⟨b',r,he,hh⟩:=hm.loop k st hb;rw [he] at hk;simp only [GE.bM,Y] at hk;subst hk;rw [h] at hh;cases hh
 | mp es clock=>obtain ⟨b',he,ents,hh,_⟩:=hm.mp k es clock hb;rw [he] at hk;simp only [GE.bM,Y] at hk;subst hk;rw [h] at hh;cases hh
 | gone=>obtain ⟨m,sz,he⟩:=hm.gone k hb;rw [he] at hk;cases hk
 | iter o=>
  obtain ⟨b',he,hh⟩:=hm.it k o hb;rw [he] at hk;simp only [GE.bM,Y] at hk;subst hk;cases o with
  | str s pos=>have hh:w.heap[b']?=G (.stringIter ⟨s.toArray⟩ pos):=hh;rw [h] at hh;cases hh
  | map m seen clock=>obtain ⟨_,bm,_,h3⟩:=hh;rw [h] at h3;cases h3
theorem Marks.mono {n0:N} {g g':Gh} {b:A af} {w w':γ} {ds:A Ϭ} (hm:Mem g b w) (hf:Fr g w g' w') (h:Marks n0 w ds):Marks n0 w' ds:=by obtain ⟨h0,Ds,h1,h2,h3⟩:=h;exact ⟨Nat.le_trans h0 hf.size,Ds,h1,h2,fun D hD=>⟨(h3 D hD).1,(hf.frame D (bV (h3 D hD).2) (hm.M6 (h3 D hD).2)).1.trans (h3 D hD).2⟩⟩
def jE (keep:A N) (nt n0:N) (g:Gh) (w:γ) (v':A (C AV)) (b':A af) (a':Act) (w':γ):Prop:=
 Marks n0 w' a'.defers/\ ∃g',Mem g' b' w'/\kM keep nt g' w' v' a'/\Le g w g' w'/\Fr g w g' w'
def Gh.emp (g:Gh) (k sz:N):Gh:={S:=g.S,e:=fun j=>if j=k then .sl 0 sz ο else g.e j}
theorem uS {g:Gh} {k:N} (hk:g.e k= .no) (sz:N) (w:γ):Le g w (g.emp k sz) w where
 S:=fun _ _ h=>h
 cell:=fun _ _ _=>rfl
 e:=fun j=>by
  simp only [Gh.emp];split
  ·rename_i h;subst h;rw [hk];exact .no _
  ·exact .same _
theorem tx {g:Gh} {k sz j b:N} (h:((g.emp k sz).e j).bM=G b):j≠k/\(g.e j).bM=G b:=by
 simp only [Gh.emp] at h;split at h
 ·cases h
 ·rename_i hj;exact ⟨hj,h⟩
theorem nR (b:A af) (x:af) (k:N):af.at (b++ [x]) k=if k=É b then x else af.at b k:=by
 simp only [af.at,H];by_cases h1:k<É b
 ·rw [Λ h1,Ζ (by omega)]
 ·by_cases h2:k=É b
  ·subst h2;simp
  ·rw [Ζ h2,Η (by simp;omega),Η (by omega)]
theorem fresh {g:Gh} {b:A af} {w:γ} (hm:Mem g b w):g.e (É b)= .no:=hm.no _ (by simp [af.at])
theorem Mem.emp {g:Gh} {b:A af} {w:γ} (hm:Mem g b w) (el:ω) (sz:N):Mem (g.emp (É b) sz) (b++ [.sl ⟨τ,G el,ο⟩ sz []]) w:=by
 have hle:=uS (fresh hm) sz w;refine ⟨fun k hk=> ?_,fun k ty cs hk=> ?_,fun k sh sz' es hk=> ?_,fun k st hk=> ?_,fun k es clock hk=> ?_,fun k hk=> ?_,fun k o hk=> ?_,fun k l b' hk hl=> ?_,fun b' o hb=> ?_,fun p hp=>⟨(hm.kn p hp).1,fun k hk=>(hm.kn p hp).2 k (tx hk).2⟩⟩
 ·rw [nR] at hk;split at hk
  ·cases hk
  ·rename_i h;simp only [Gh.emp,Ζ h];exact hm.no k hk
 ·rw [nR] at hk;split at hk
  ·cases hk
  ·rename_i h;obtain ⟨b',h1,h2⟩:=hm.var k ty cs hk;exact ⟨b',by simp only [Gh.emp,Ζ h];exact h1,h2.mono hle rfl⟩
 ·rw [nR] at hk;split at hk
  ·rename_i h;cases hk;exact ⟨ο,by simp only [Gh.emp,ϡ h];rfl,fun i e he=>(by simp at he),rfl⟩
  ·rename_i h;obtain ⟨loc,h1,h2⟩:=hm.sl k sh sz' es hk;exact ⟨loc,by simp only [Gh.emp,Ζ h];exact h1,h2.mono hle (fun _ _=>rfl)⟩
 ·rw [nR] at hk;split at hk
  ·cases hk
  ·rename_i h;obtain ⟨b',r,h1,h2⟩:=hm.loop k st hk;exact ⟨b',r,by simp only [Gh.emp,Ζ h];exact h1,h2⟩
 ·rw [nR] at hk;split at hk
  ·cases hk
  ·rename_i h;obtain ⟨b',h1,h2⟩:=hm.mp k es clock hk;exact ⟨b',by simp only [Gh.emp,Ζ h];exact h1,h2.mono hle rfl⟩
 ·rw [nR] at hk;split at hk
  ·cases hk
  ·rename_i h;simp only [Gh.emp,Ζ h];exact hm.gone k hk
 ·rw [nR] at hk;split at hk
  ·cases hk
  ·rename_i h;have hlt:k<É b:=fA (by rw [hk];simp);obtain ⟨b',h1,h2⟩:=hm.it k o hk;exact ⟨b',by simp only [Gh.emp,Ζ h];exact h1,h2.mono (fun j c hj hg=>by simp only [Gh.emp];rw [Ζ (by omega)];exact hg) rfl⟩
 ·exact hm.inj k l b' (tx hk).2 (tx hl).2
 ·obtain ⟨h1,h2⟩:=hm.dh b' o hb;refine ⟨h1,fun k hk=> ?_⟩;obtain ⟨hne,Š⟩:=tx hk;obtain ⟨ty,sz',es,h3,h4⟩:=h2 k Š;exact ⟨ty,sz',es,by rw [nR,Ζ hne];exact h3,h4⟩
theorem Jj {g:Gh} {w:γ} {z:N} {v:Ϗ} (h:Rd g w (.ah (G ν) z []) v) {g':Gh} {k sz:N} (hk:g'.e k= .sl 0 sz ο):Rd g' w (.aC k 0) v:=by
 cases h with
 | ah nl sz' es a cap b off vals hnl ĩ hcap ha hp hc h=>
  have ha:a=none:=by have:=hnl ν rfl;cases a with
   | none=>rfl
   | some x=>cases this
  obtain ⟨_,rfl⟩:=ĩ ha;subst ha;exact .aC k 0 0 sz ο _ rfl hk (Δ _) (fun _=> .inr ⟨rfl,rfl,rfl⟩)
theorem Mem.Qk {g:Gh} {b:A af} {w:γ} (hm:Mem g b w) {k:N} {ty:ω} {cs:A AV} (hb:af.at b k= .var ty cs) {i:N} {x:AV} (hx: ∀v,(∀y,cs[i]?=G y->Rd g w y v)->Rd g w x v):Mem g (b.set k (.var ty (cs.set i x))) w:=by
 have hlt:k<É b:=fA (by rw [hb];simp)
 have ĸ: ∀j,af.at (b.set k (.var ty (cs.set i x))) j=if j=k then .var ty (cs.set i x) else af.at b j:=fun j=>by
  simp only [af.at,H];by_cases h:j=k
  ·subst h;simp [hlt]
  ·rw [Ζ h,δ (Ne.symm h)]
 refine ⟨fun j hj=> ?_,fun j ty' cs' hj=> ?_,fun j sh sz es hj=> ?_,fun j st hj=> ?_,fun j es clock hj=> ?_,fun j hj=> ?_,fun j o hj=> ?_,hm.inj,fun b' o hs=> ?_,hm.kn⟩
 ·rw [ĸ] at hj;split at hj
  ·cases hj
  ·exact hm.no j hj
 ·rw [ĸ] at hj;split at hj
  ·rename_i h;subst h;cases hj;obtain ⟨b',h1,c,h2,h3,h4⟩:=hm.var _ ty cs hb;refine ⟨b',h1,c,h2,by simpa using h3,fun l y v hy hv=> ?_⟩;by_cases hl:i=l
   ·subst hl;have hil:i<É cs:=by have:=al hy;simpa using this
    simp [hil] at hy;subst hy;exact hx v (fun y hy=>h4 i y v hy hv)
   ·rw [δ hl] at hy;exact h4 l y v hy hv
  ·exact hm.var j ty' cs' hj
 ·rw [ĸ] at hj;split at hj
  ·cases hj
  ·exact hm.sl j sh sz es hj
 ·rw [ĸ] at hj;split at hj
  ·cases hj
  ·exact hm.loop j st hj
 ·rw [ĸ] at hj;split at hj
  ·cases hj
  ·exact hm.mp j es clock hj
 ·rw [ĸ] at hj;split at hj
  ·cases hj
  ·exact hm.gone j hj
 ·rw [ĸ] at hj;split at hj
  ·cases hj
  ·exact hm.it j o hj
 ·obtain ⟨h1,h2⟩:=hm.dh b' o hs;refine ⟨h1,fun j hj=> ?_⟩;obtain ⟨ty',sz,es,h3,h4⟩:=h2 j hj;refine ⟨ty',sz,es,?_,h4⟩;rw [ĸ,Ζ]
  ·exact h3
  ·intro h;subst h;rw [hb] at h3;cases h3
theorem EH {x:AV} (h:x.isNil=ν): ∃z,x= .ah (G ν) z []:=by cases x <;> simp only [AV.isNil,Ξ] at h;rename_i nl z es;simp only [I,Ο,List.isEmpty_iff] at h;obtain ⟨rfl,rfl⟩:=h;exact ⟨z,rfl⟩
theorem Ql {keep:A N} {nt:N} {g:Gh} {w:γ} {v:A (C AV)} {b:A af} {a:Act} (hm:Mem g b w) (hv:kM keep nt g w v a) (o:tq):
  ∃g',Mem g' (KI o v b).2 w/\kM keep nt g' w (KI o v b).1 a/\Le g w g' w/\Fr g w g' w:=by
 have same: ∃g',Mem g' b w/\kM keep nt g' w v a/\Le g w g' w/\Fr g w g' w:=⟨g,hm,hv,Le.refl g w,Fr.refl g w⟩;have hfr: ∀sz,Fr g w (g.emp (É b) sz) w:=fun sz=>⟨Δ _,fun b' _ h=>⟨rfl,fun k hk=>h k (tx hk).2,fun _ h=>h⟩,rfl,rfl,rfl⟩;unfold KI;split
 ·split;rename_i x hs;split
  ·rename_i ĩ;split
   ·exact same
   obtain ⟨z,rfl⟩:=EH ĩ;obtain ⟨t,hr,ht⟩:=hv;refine ⟨g.emp (É b) o.sz,hm.emp o.el o.sz,?_,uS (fresh hm) _ w,hfr _⟩;by_cases hex: ∃j,posOf keep j=G o.slot
   ·obtain ⟨j,hj⟩:=hex;have htj:=hr.env j o.slot _ hj hs;refine ⟨t.set j (.aC (É b) 0),⟨by rw [Ε];exact hr.len,fun i hi=>by rw [Tr.gp];exact hr.has i hi,fun i k u hk hu=> ?_⟩,fun i hi=> ?_⟩
    ·by_cases Ě:i=j
     ·subst Ě;rw [hj] at hk;cases hk;have hlt:o.slot<É v:=by rw [hr.len];exact (List.getElem?_eq_some_iff.1 (dI hj)).1
      simp [H,hlt] at hu;subst hu;refine Tr.ed _ _ _ ?_;cases hh:t.has i with
      | true=>rfl
      | false=>rw [Tr.vG _ _ hh] at htj;cases htj
     ·rw [Tr.bK _ _ _ (Ne.symm Ě)];refine hr.env i k u hk ?_;have:o.slot≠k:=fun e=>Ě (uO hk (e▸hj));simp only [H] at hu⊢
      rwa [δ this] at hu
    ·rw [Tr.gp] at hi;obtain ⟨h1,h2⟩:=ht i hi;refine ⟨h1,?_⟩;by_cases Ě:i=j
     ·subst Ě;rw [Tr.ed _ _ _ hi];rw [htj] at h2;exact Jj (sz:=o.sz) h2 (by simp [Gh.emp])
     ·rw [Tr.bK _ _ _ (Ne.symm Ě)];exact h2.mono (uS (fresh hm) _ w)
   ·refine ⟨t,⟨by rw [Ε];exact hr.len,hr.has,fun i k u hk hu=> ?_⟩,ht.mono (uS (fresh hm) _ w)⟩;refine hr.env i k u hk ?_;have:o.slot≠k:=fun e=>hex ⟨i,e▸hk⟩;simp only [H] at hu⊢
    rwa [δ this] at hu
  ·split
   ·unfold MT;split
    ·split
     ·rename_i hb;obtain ⟨g',m',l',f',_⟩:=At hm hb;obtain ⟨t,hr,ht⟩:=hv;exact ⟨g',m',⟨t,hr,ht.mono l'⟩,l',f'⟩
     ·exact same
    ·exact same
   ·exact same
  ·exact same
 ·rename_i off hoff;split
  ·rename_i k base hs;split
   ·rename_i ty cs hb;split;rename_i x hc;split
    ·rename_i ĩ;obtain ⟨z,rfl⟩:=EH ĩ;obtain ⟨t,hr,ht⟩:=hv;have š:=hm.emp o.el o.sz;have hlt:k<É b:=fA (by rw [hb];simp);have hb1:af.at (b++ [.sl ⟨τ,G o.el,ο⟩ o.sz []]) k= .var ty cs:=by rw [nR,Ζ (by omega)];exact hb
     have Ŏ:=š.Qk hb1 (i:=base+off) (x:= .aC (É b) 0) (fun u hu=>Jj (sz:=o.sz) (hu _ hc) (by simp [Gh.emp]));rw [ϕ _ _ hlt] at Ŏ;exact ⟨g.emp (É b) o.sz,Ŏ,⟨t,hr,ht.mono (uS (fresh hm) _ w)⟩,uS (fresh hm) _ w,hfr _⟩
    ·exact same
    ·exact same
   ·exact same
  ·exact same
theorem uT {keep:A N} {nt:N} {w:γ} {a:Act}: ∀(l:A tq) {g:Gh} {v:A (C AV)} {b:A af},Mem g b w->kM keep nt g w v a->
  ∃g',Mem g' (jB l v b).2 w/\kM keep nt g' w (jB l v b).1 a/\Le g w g' w/\Fr g w g' w
 | [],g,v,b,hm,hv=>⟨g,hm,hv,Le.refl g w,Fr.refl g w⟩
 | o::r,g,v,b,hm,hv=>by
  obtain ⟨g1,h1,h2,h3,h4⟩:=Ql hm hv o;obtain ⟨g2,k1,k2,k3,k4⟩:=uT r h1 h2;exact ⟨g2,k1,k2,h3.trans k3,h4.trans k4⟩
end Go.Am
namespace Go.Am
variable [Kn]
section
variable {P:Ϝ} {c:aD}
theorem kM.start {g:Gh} {w:γ} {xs:A AV} {vs:Κ Ϗ} (h:bL g w xs vs.toList) {keep:A N} {nt:N} (Ţ:nt<10000) (hk: ∀i∈keep,i<nt):kM keep nt g w (jA keep xs) {tmps:=vs++Ν (nt-vs.size) undef,defers:= []}:=by
 have Ī:nt<2^24:=by
  have:(2:N)^24=16777216:=by decide
  omega
 refine ⟨Am.start nt xs,⟨qQ _ _,fun i hi=> ?_,fun i k v Š hv=> ?_⟩,KL h nt⟩
 ·unfold Am.start;rw [vN];exact Tr.qh _ _ _ _ hi Ī
 ·have h1:=dI Š;have h2:=yj h1 hv;have h3:i<nt:=hk i (ϊ h1);have:=vP xs (Tr.mk .any 24 nt) 0 i v h2 (by rw [ϒ];exact Tr.qh _ _ _ _ h3 Ī);rw [ϒ] at this;exact this
theorem gh {ro:C N} {x:Ι} {Q Q':ϫ->Act->γ->Prop} {a:Act} {w:γ} (hq: ∀e a w,Q e a w->Q' e a w) (h:x.wpIn (FW ro) 0 P Q a w):x.wpIn (FW ro) 0 P Q' a w:=ϱ h hq
theorem EJ {g:Gh} {b:A af} {w:γ} (hm:Mem g b w) {D:N} {x y:Obj} (h:w.heap[D]?=G x) (hx:yl x=τ) (hy:yl y=τ) (hnb: ∀k,(g.e k).bM≠G D):Mem g b (w.putObj D y)/\Le g w g (w.putObj D y):=by
 have hl:Le g w g (w.putObj D y):=⟨fun _ _ h=>h,fun b o _=>tz h hx hy b o,fun _=> .same _⟩;have hne: ∀k b,(g.e k).bM=G b->(w.putObj D y).heap[b]?=w.heap[b]?:=fun k b hk=>World.putObj_heap_other (fun e=>hnb k (by rw [hk,e]))
 refine ⟨⟨hm.no,fun k ty cs hk=> ?_,fun k sh sz es hk=> ?_,fun k st hk=> ?_,fun k es clock hk=> ?_,hm.gone,fun k o hk=> ?_,hm.inj,fun b o hs=>⟨by rw [World.putObj_size];exact (hm.dh b o hs).1,(hm.dh b o hs).2⟩,fun p hp=>⟨(World.putObj_heap_other (fun e=>by
  obtain ⟨c,t,z,hc⟩:=Kn.cells p hp;have h1:=(hm.kn p hp).1;rw [e,h] at h1;cases h1;rw [hc] at hx;cases hx)).trans (hm.kn p hp).1,(hm.kn p hp).2⟩⟩,hl⟩
 ·obtain ⟨b,h1,h2⟩:=hm.var k ty cs hk;exact ⟨b,h1,h2.mono hl (hne k b (by rw [h1];rfl))⟩
 ·obtain ⟨loc,h1,h2⟩:=hm.sl k sh sz es hk;exact ⟨loc,h1,h2.mono hl (fun p hp=>hne k p.1 (by rw [h1,hp];rfl))⟩
 ·obtain ⟨b,r,h1,h2⟩:=hm.loop k st hk;exact ⟨b,r,h1,(hne k b (by rw [h1];rfl)).trans h2⟩
 ·obtain ⟨b,h1,h2⟩:=hm.mp k es clock hk;exact ⟨b,h1,h2.mono hl (hne k b (by rw [h1];rfl))⟩
 ·obtain ⟨b,h1,h2⟩:=hm.it k o hk;exact ⟨b,h1,h2.le hl (hne k b (by rw [h1];rfl))⟩
theorem Qm {g:Gh} {b:A af} {w:γ} (hm:Mem g b w) {D:N} {x y:C (A Ϭ)} (h:w.heap[D]?=G (.deferred x)):Mem g b (w.putObj D (.deferred y))/\Le g w g (w.putObj D (.deferred y)):=
 EJ hm h rfl rfl (hm.M6 h)
theorem M7 {g0 g:Gh} {w0 w:γ} (hf:Fr g0 w0 g w) {D:N} {o:Obj} (hD:w0.heap.size<=D):Fr g0 w0 g (w.putObj D o):=
 ⟨by rw [World.putObj_size];exact hf.size,fun b hb hn=>⟨by rw [World.putObj_heap_other (by omega)];exact (hf.frame b hb hn).1,(hf.frame b hb hn).2⟩,hf.os,hf.tape,hf.output⟩
theorem tA {fn:Func} {tmps:Κ Ϗ} {R:Ending->γ->Prop} {g0:Gh} {w0:γ} {b:A af} {g:Gh}: ∀(Ds:A N) (w:γ),Mem g b w->Fr g0 w0 g w->Ds.Nodup->(∀D∈Ds,w0.heap.size<=D/\w.heap[D]?=G (.deferred (G [])))->
  (∀w',Mem g b w'->Le g w g w'->Fr g0 w0 g w'-> ∃v,(results fn tmps).run P w'= .ok v w'/\R (.returned v) w')->
  LeavesInM (FW ο) 0 P fn tmps R (Ds.map (fun D=>{target:= .collected D,args:= #[]})) .returning w
 | [],w,hm,hf,_,_,h=>h w hm (Le.refl g w) hf
 | D::Ds,w,hm,hf,hn,hD,h=>by
  obtain ⟨h1,h2⟩:=hD D η;obtain ⟨m1,l1⟩:=Qm (y:=none) hm h2;obtain ⟨hn1,hn2⟩:=List.nodup_cons.1 hn;refine ⟨by simp,.inl ⟨D,_,rfl,run_takeDeferred h2,?_⟩⟩;refine tA Ds _ m1 (M7 hf h1) hn2 (fun E hE=> ?_) (fun w' k1 k2 k3=>h w' k1 (l1.trans k2) k3);obtain ⟨e1,e2⟩:=hD E (κ _ hE);refine ⟨e1,?_⟩;exact (World.putObj_heap_other (fun e:E=D=>hn1 (e▸hE))).trans e2
def lD (Q:dp) (keep:A N) (nt n0:N) (g:Gh) (w:γ):ϫ->Act->γ->Prop:=fun e a' w'=> ∃ex v' b',Q ex v' b'/\k7 ex e/\jE keep nt n0 g w v' b' a' w'
def EK (P:Ϝ) (c:aD) (ir:IR) (Q:dp) (v:A (C AV)) (b:A af):Prop:= ∀(n0:N) (ro:C N) (keep:A N) (nt:N) (code:Ι) (g:Gh) (a:Act) (w:γ),
 ef c keep nt code ir->Mem g b w->kM keep nt g w v a->Marks n0 w a.defers->(ro=ο\/ir.oD=ν)->code.wpIn (FW ro) 0 P (lD Q keep nt n0 g w) a w
def Qn (P:Ϝ) (t:Y6) (xs:A AV) (bs:A af) (r:AV×A af):Prop:=
 match t with
 | .fn f=>Enters P f/\ ∀g w (vs:Κ Ϗ),Mem g bs w->bL g w xs vs.toList->Calls P f vs w (dT g w r.2 r.1)
 | .gG k s env=> ∀g w v (vs:Κ Ϗ),Mem g bs w->Rd g w (.gG k s env) v->bL g w xs vs.toList->
  ∃l fn tmps asg body,v= .func (.yield l) #[] #[]/\(Instr.yield l vs).run P w= .ok (.round l fn tmps asg body) w/\RoundIn Fence.wide 0 P l fn tmps asg body w (dT g w r.2 r.1)
theorem Jk {cf:aQ} (h: ∀f a bs r,cf f a bs=G r->Qn P f a bs r):rZ P cf:=
 ⟨fun f xs bs r bs' hr=>h _ _ _ _ hr,fun k s env xs bs r bs' hr=>h _ _ _ _ hr⟩
theorem M8 (hc:qR c P) {f:ώ} {fn:Func} {L:bt} {xs:A AV} {bs:A af} {r:AV×A af} (hfn:c.fn.get ο f=G fn) (hL:aj c fn=G L)
  (hex:EK P c L.code (CN c (c.own f) L.res (É bs) r) (jA L.keep xs) bs):Qn P (.fn f) xs bs r:=by
 obtain ⟨hf1,Ĺ⟩:=hc.fn f fn hfn;unfold aj at hL;split at hL
 ·cases hL
 ·rename_i body hb;unfold tB at hL;rw [hb] at hL;simp only at hL;split at hL
  ·rename_i rs ir hrs hir Ţ;cases hL;simp only [I,ζ,ε] at Ţ;refine ⟨⟨fn,hf1,Ĺ,by rw [hb];rfl⟩,fun g w vs hm hx=> ?_⟩;refine (callsIn_wide (n:=0)).1 (callsIn_of_wp_marks (F:=FW ο) hf1 hb trivial (gh ?_ (hex w.heap.size ο (lE c fn body) fn.ntmps body g _ w (CZ body ir hir _ _) hm (kM.start hx Ţ.1 Ţ.2) (Marks.nil (Δ _)) (.inl rfl))));rintro e a' w' ⟨ex,v',b',hQ,ţ,⟨_,Ds,hDs,hnd,hD⟩,g',Č,⟨t',Ĝ,ĺ⟩,Ć,ĉ⟩
   have Đ:KJ c (c.own f) rs (É bs) v' b'=G r/\(ex= .normal\/ex= .ret):=by
    unfold CN at hQ;cases ex with
    | normal=>exact ⟨hQ,.inl rfl⟩
    | ret=>exact ⟨hQ,.inr rfl⟩
    | exit i=>exact hQ.elim
   obtain ⟨Đ,hex'⟩:=Đ;obtain ⟨r1,r2⟩:=r;unfold KJ at Đ;split at Đ
   ·rename_i rvs hrvs;have hres:=rW Ĝ hrs hrvs
    have fin:LeavesInM (FW ο) 0 P fn a'.tmps (dT g w r2 r1) a'.defers .returning w':=by
     rw [hDs];refine tA (g0:=g) (w0:=w) Ds w' Č ĉ hnd hD (fun w' Č Į ĉ=> ?_);have ĺ:=ĺ.mono Į;have Ć:=Ć.trans Į;obtain ⟨u,hu,ru⟩:=KN (P:=P) hc.ty Č ĺ hres;unfold MW at Đ;split at Đ
     ·cases Đ;exact ⟨u,hu,u,g',rfl,Č,Ć,ĉ,ru⟩
     have hho:handOver (É bs) ⟨t',b'⟩ (D6 rvs)=G (r1,r2):=by unfold MU at Đ;unfold handOver;rw [Sw];exact Đ
     obtain ⟨g'',k1,k2,k3,k4⟩:=tC hm (s:=⟨t',b'⟩) Č Ć ĉ ru hho;exact ⟨u,hu,u,g'',rfl,k1,k2,k3,k4⟩
    rcases hex' with rfl | rfl
    ·cases e <;> simp only [k7] at ţ;exact fin
    ·cases e <;> simp only [k7] at ţ;exact fin
   ·cases Đ
  ·cases hL
theorem jE.trans {keep:A N} {nt n0:N} {g g1:Gh} {w w1:γ} {v':A (C AV)} {b':A af} {a':Act} {w':γ} (hl:Le g w g1 w1) (hf:Fr g w g1 w1) (h:jE keep nt n0 g1 w1 v' b' a' w'):jE keep nt n0 g w v' b' a' w':=by obtain ⟨hd,g2,hm,hv,Į,Ĺ⟩:=h;exact ⟨hd,g2,hm,hv,hl.trans Į,hf.trans Ĺ⟩
theorem lD.trans {Q:dp} {keep:A N} {nt n0:N} {g g1:Gh} {w w1:γ} {e:ϫ} {a':Act} {w':γ} (hl:Le g w g1 w1) (hf:Fr g w g1 w1) (h:lD Q keep nt n0 g1 w1 e a' w'):lD Q keep nt n0 g w e a' w':=by obtain ⟨ex,v',b',h1,h2,h3⟩:=h;exact ⟨ex,v',b',h1,h2,jE.trans hl hf h3⟩
theorem Ho (hc:qR c P) {cf:aQ} (ģ:rZ P cf) {keep:A N} {nt n0:N} {ops:Κ Τ} {n:N} {kl:A N} {ā:A It} {v v':A (C AV)} {b b':A af} {g:Gh} {a:Act} {w:γ}
  (hl:CY c keep nt ops ν=G (.jC n kl ā)) (Ā:bC c cf (É b) kl ā v (b++O n .dead)=G (v',b')) (hm:Mem g b w) (hv:kM keep nt g w v a) (hd:Marks n0 w a.defers) (ro:C N) {Q:ϫ->Act->γ->Prop} (hQ: ∀e a' w',k7 .normal e->jE keep nt n0 g w v' b' a' w'->Q e a' w'):
  wpAnyIn (FW ro) 0 P .any ops Q ops.size (Ν ops.size τ) a w.drew:=by
 unfold CY at hl;split at hl
 ·rename_i Ň;split at hl
  ·rename_i Ė ė;cases hl;obtain ⟨t,hr,ht⟩:=hv
   have hk:(ν:ι)=true-> ∀i,∀x∈dC (fJ ops) i ops.toList 0 0,x∈ϵ (dn ops.toList):=fun _ i x hx=>by
    have:=kK ops.toList 0 0 hx;simp only [ϭ];omega
   obtain ⟨t',h1,h2⟩:=mR hk ops.toList 0 [] ā v _ t v' b' ė ⟨hr.len,hr.has,fun i e h=>(by cases h),fun i e v h=>(by cases h),fun i k u _ hk hu=>hr.env i k u hk hu⟩ Ā;have Ť:jD keep nt v' t':=⟨h2.len,h2.has,fun i k u hk hu=>h2.env i k u rfl hk hu⟩
   have post: ∀(a':Act) (w':γ),Jl a.defers g w ⟨t',b'⟩ a' w'->jE keep nt n0 g w v' b' a' w':=by rintro a' w' ⟨Ē,g',k1,k2,k3,k4⟩;exact ⟨Ē▸Marks.mono hm k4 hd,g',k1,⟨t',Ť,k2⟩,k3,k4⟩
   have Ň:uF ops=true:=by simpa using Ň
   rw [<-Hj,nT ops.toList 0 _ (fun j=>by simp)] at h1;have hl:Le g w g w.drew:=⟨fun _ _ h=>h,fun _ _ _=>rfl,fun _=> .same _⟩;have hf:Fr g w g w.drew:=⟨Δ _,fun _ _ h=>⟨rfl,h,fun _ h=>h⟩,rfl,rfl,rfl⟩
   have hmd:Mem g (b++O (dn ops.toList) .dead) w.drew:=⟨(hm.pad _).no,fun k ty cs hk=>by
     obtain ⟨b,h1,h2⟩:=(hm.pad _).var k ty cs hk;exact ⟨b,h1,h2.mono hl rfl⟩,fun k sh sz es hk=>by
     obtain ⟨loc,h1,h2⟩:=(hm.pad _).sl k sh sz es hk;exact ⟨loc,h1,h2.mono hl (fun _ _=>rfl)⟩,(hm.pad _).loop,fun k es clock hk=>by
     obtain ⟨b,h1,h2⟩:=(hm.pad _).mp k es clock hk;exact ⟨b,h1,h2.mono hl rfl⟩,(hm.pad _).gone,(hm.pad _).it,hm.inj,(hm.pad _).dh,hm.kn⟩
   refine (EL hc.ty ģ hc.ov Ň (g0:=g) (w0:=w) (fun a' w' hp=>hQ _ a' w' trivial (post a' w' hp)) ops.size (ϳ 0 ops.toList.length) (Ν ops.size τ) _ g w.drew a (by simp) (ϑ) (by simp) (fun j=> ?_) (fun j x hj ŗ=> ?_) h1 hmd (ht.mono hl) rfl hl hf)
   ·simp only [ϝ,ϙ];constructor
    ·intro hj;exact ⟨by omega,by simp [show j<ops.size by omega]⟩
    ·intro hj;omega
   ·simp [hj] at ŗ
  ·cases hl
 ·cases hl
theorem ph (hc:qR c P) {cf:aQ} (ģ:rZ P cf) {keep:A N} {nt n0:N} {v:A (C AV)} {b:A af} {g:Gh} {a:Act} {w:γ} {Q:ϫ->Act->γ->Prop}:
  ∀(k:N) (ops:Κ Τ) (l:A (N×A N×A It)),qi c keep nt k ops=G l->Mem g b w->kM keep nt g w v a->Marks n0 w a.defers-> ∀(ro:C N),
   (∀x∈l,∃v' b',bC c cf (É b) x.2.1 x.2.2 v (b++O x.1 .dead)=G (v',b')/\ ∀e a' w',k7 .normal e->jE keep nt n0 g w v' b' a' w'->Q e a' w')->
   wpAnyIn (FW ro) 0 P .any ops Q ops.size (Ν ops.size τ) a w.drew
 | 0,_,_,h,_,_,_,_,_=>by cases h
 | k+1,ops,l,h,hm,hv,hd,ro,hx=>by
  unfold qi at h;split at h
  ·split at h
   ·rename_i hok h1 h2;cases h;exact Qo hok (ph hc ģ k _ _ h1 hm hv hd ro fun x hq=>hx x (Ω _ hq)) (ph hc ģ k _ _ h2 hm hv hd ro fun x hq=>hx x (Α _ hq))
   ·cases h
  ·split at h
   ·rename_i h1;cases h;obtain ⟨v',b',r,q⟩:=hx _ η;exact Ho hc ģ h1 r hm hv hd ro q
   ·cases h
theorem KO (hc:qR c P) {cf:aQ} (ģ:rZ P cf) {keep:A N} {nt n0 id:N} {ops:Κ Τ} {dr:ι} {n:N} {kl:A N} {ā:A It} {v v':A (C AV)} {b b':A af} {g:Gh} {a:Act} {w:γ}
  (hl:CY c keep nt ops dr=G (.jC n kl ā)) (Ā:bC c cf (É b) kl ā v (b++O n .dead)=G (v',b')) (hm:Mem g b w) (hv:kM keep nt g w v a) (hd:Marks n0 w a.defers) (ro:C N):
  (Code.region id ops dr).wpIn (FW ro) 0 P (fun e a' w'=>k7 .normal e/\jE keep nt n0 g w v' b' a' w') a w:=by
 unfold CY at hl;split at hl
 ·rename_i Ň;split at hl
  ·rename_i Ė ė;cases hl;obtain ⟨t,hr,ht⟩:=hv
   have hk:dr=true-> ∀i,∀x∈dC (fJ ops) i ops.toList 0 0,x∈(match dr with | true=>ϵ (dn ops.toList) | false=>([]:A N)):=fun h i x hx=>by
    subst h;have:=kK ops.toList 0 0 hx;simp only [ϭ];omega
   obtain ⟨t',h1,h2⟩:=mR hk ops.toList 0 [] ā v _ t v' b' ė ⟨hr.len,hr.has,fun i e h=>(by cases h),fun i e v h=>(by cases h),fun i k u _ hk hu=>hr.env i k u hk hu⟩ Ā;have Ť:jD keep nt v' t':=⟨h2.len,h2.has,fun i k u hk hu=>h2.env i k u rfl hk hu⟩
   have post: ∀(a':Act) (w':γ),Jl a.defers g w ⟨t',b'⟩ a' w'->k7 .normal .normal/\jE keep nt n0 g w v' b' a' w':=by rintro a' w' ⟨Ē,g',k1,k2,k3,k4⟩;exact ⟨trivial,Ē▸Marks.mono hm k4 hd,g',k1,⟨t',Ť,k2⟩,k3,k4⟩
   cases dr with
   | false=>have h3:=tn (c:=c) (cf:=cf) (ops:=ops) (É b) ops.toList 0 t (b++O (dn ops.toList) .dead) (fun j=>by rw [ϒ]);rw [show bN ops.toList 0 (É b)=É b by cases ops.toList <;> rfl] at h3;rw [h1] at h3;exact Ϣ (qj hc.ty ģ hc.ov (g0:=g) (w0:=w) (fun a' w' hp=>post a' w' hp) ops.toList _ _ _ g w a h3 (hm.pad _) ht rfl (Le.refl g w) (Fr.refl g w))
   | true=>
    have Ň:uF ops=true:=by simpa using Ň
    rw [<-Hj,nT ops.toList 0 _ (fun j=>by simp)] at h1;have hl:Le g w g w.drew:=⟨fun _ _ h=>h,fun _ _ _=>rfl,fun _=> .same _⟩;have hf:Fr g w g w.drew:=⟨Δ _,fun _ _ h=>⟨rfl,h,fun _ h=>h⟩,rfl,rfl,rfl⟩
    have hmd:Mem g (b++O (dn ops.toList) .dead) w.drew:=⟨(hm.pad _).no,fun k ty cs hk=>by
      obtain ⟨b,h1,h2⟩:=(hm.pad _).var k ty cs hk;exact ⟨b,h1,h2.mono hl rfl⟩,fun k sh sz es hk=>by
      obtain ⟨loc,h1,h2⟩:=(hm.pad _).sl k sh sz es hk;exact ⟨loc,h1,h2.mono hl (fun _ _=>rfl)⟩,(hm.pad _).loop,fun k es clock hk=>by
      obtain ⟨b,h1,h2⟩:=(hm.pad _).mp k es clock hk;exact ⟨b,h1,h2.mono hl rfl⟩,(hm.pad _).gone,(hm.pad _).it,hm.inj,(hm.pad _).dh,hm.kn⟩
    refine Ϧ hc.mixed (EL hc.ty ģ hc.ov Ň (g0:=g) (w0:=w) (fun a' w' hp=>post a' w' hp) ops.size (ϳ 0 ops.toList.length) (Ν ops.size τ) _ g w.drew a (by simp) (ϑ) (by simp) (fun j=> ?_) (fun j x hj ŗ=> ?_) h1 hmd (ht.mono hl) rfl hl hf)
    ·simp only [ϝ,ϙ];constructor
     ·intro hj;exact ⟨by omega,by simp [show j<ops.size by omega]⟩
     ·intro hj;omega
    ·simp [hj] at ŗ
  ·cases hl
 ·cases hl
theorem jD.adD {keep:A N} {nt d k:N} {v:A (C AV)} {t:Env} (h:jD keep nt v t) (hd:d<nt) (hk:posOf keep d=G k) (x:AV):jD keep nt (v.set k (G x)) (t.set d x):=by
 refine ⟨by rw [Ε];exact h.len,fun i hi=>by rw [Tr.gp];exact h.has i hi,fun i j u hj hu=> ?_⟩;have hkl:k<É v:=by rw [h.len];exact (List.getElem?_eq_some_iff.1 (dI hk)).1
 by_cases e:i=d
 ·subst e;rw [hk] at hj;cases hj;rw [Tr.ed _ _ _ (h.has i hd)];simpa [H,hkl] using hu
 ·rw [Tr.bK _ _ _ (fun h=>e h.symm)];refine h.env i j u hj ?_
  have hne:k≠j:=fun e2=>by
   subst e2;have h1:=dI hj;rw [dI hk] at h1;exact e (by cases h1;rfl)
  simpa [H,δ hne] using hu
theorem Us (hc:qR c P) {cf:aQ} (ģ:rZ P cf) {keep:A N} {nt n0 id:N} {ops:Κ Τ} {o:Τ} {r:A Τ} {t d x k:N} {ā:A It} (ğ:ops.toList=o::r) (ho:o.op= .next (.tmp t) τ) (Ħ:o.dst=G d) (hgd:o.guard=ο)
  (hpx:posOf keep t=G x) (ġ:posOf keep d=G k) (Ņ:d<nt) (hlo:nP c ops keep nt τ r 1 []=G ā) {Q:dp} {v:A (C AV)} {b:A af} {i m clock:N} {seen:A N} {es:A (AV×AV×N)}
  (hx:lX v x=G (.lU i)) (hi:af.at b i= .iter (.map m seen clock)) (ō:af.at b m= .mp es clock)
  (h0:(∀e∈es,seen.contains e.2.2=ν)-> ∃v' b',bC c cf (É b) [] ā (v.set k (G (.aK [.bool τ]))) (b++O (dn r) .dead)=G (v',b')/\Q .normal v' b')
  (h1: ∀e∈es,seen.contains e.2.2=false-> ∃v' b',bC c cf (É b) [] ā (v.set k (G (.aK [.bool ν,e.1,e.2.1]))) (b.set i (.iter (.map m (seen++ [e.2.2]) clock))++O (dn r) .dead)=G (v',b')/\Q .normal v' b')
  {g:Gh} {a:Act} {w:γ} (hm:Mem g b w) (hv:kM keep nt g w v a) (hd:Marks n0 w a.defers) (ro:C N):
  (Code.region id ops τ).wpIn (FW ro) 0 P (lD Q keep nt n0 g w) a w:=by
 obtain ⟨T,hr,ht⟩:=hv
 have rest: ∀(X:AV) (B:A af) (v':Ϗ) (w':γ) (g':Gh),Mem g' B w'->Le g w g' w'->Fr g w g' w'->Rd g' w' X v'->(∃v1 b1,bC c cf (É b) [] ā (v.set k (G X)) B=G (v1,b1)/\Q .normal v1 b1)->wpListIn (FW ro) 0 P ops (lD Q keep nt n0 g w) r (a.put o.dst v') w':=by
  rintro X B v' w' g' k1 k2 k3 k4 ⟨v1,b1,Ā,hq⟩;have ĕ:=hr.adD Ņ ġ X;obtain ⟨t',e1,e2⟩:=mR (dr:=false) (kl:= []) (fun h=>by cases h) r 1 [] ā (v.set k (G X)) B (T.set d X) v1 b1 hlo ⟨ĕ.len,ĕ.has,fun i e h=>(by cases h),fun i e v h=>(by cases h),fun i k u _ hk hu=>ĕ.env i k u hk hu⟩ Ā;have Ť:jD keep nt v1 t':=⟨e2.len,e2.has,fun i k u hk hu=>e2.env i k u rfl hk hu⟩;have h3:=tn (c:=c) (cf:=cf) (ops:=ops) (É b) r 1 (T.set d X) B (fun j=>by rw [ğ,Nat.add_comm];rfl);rw [e1] at h3
  have hput:gv g' w' (T.set d X) (a.put o.dst v'):=by have:=(ht.mono k2).put o.dst k4;rw [Ħ] at this⊢;exact this
  exact qj hc.ty ģ hc.ov (g0:=g) (w0:=w) (ds:=a.defers) (fun a' w' ⟨Ē,g2,q1,q2,q3,q4⟩=>⟨.normal,v1,b1,hq,trivial,Ē▸Marks.mono hm q4 hd,g2,q1,⟨t',Ť,q2⟩,q3,q4⟩) r _ _ _ g' w' _ h3 k1 hput (by rw [put_defers]) k2 k3
 refine Ϣ ?_;rw [ğ];unfold wpListIn;have hw:bh ops T o.guard=G true:=by rw [hgd];rfl
 rw [kN ht hw,ϡ rfl];have hil:i<É b:=fA (by rw [hi];simp);have hml:m<É b:=fA (by rw [ō];simp)
 have app: ∀j,j<É b->af.at (b++O (dn r) .dead) j=af.at b j:=fun j hj=>by
  simp [af.at,H,Λ hj]
 refine Ut (hm.pad _) ht ho (hr.env t x _ hpx hx) ((app i hil).trans hi) ((app m hml).trans ō) (fun Ĕ v' w' g' k1 k2 k3 k4=>rest _ _ v' w' g' k1 k2 k3 k4 (h0 Ĕ)) (fun e he hn v' w' g' k1 k2 k3 k4=>rest _ _ v' w' g' ?_ k2 k3 k4 (h1 e he hn)) ro;rw [ϕ _ _ hil] at k1;exact k1
def EM:A N->A AV->Env->Env
 | i::ks,x::xs,t=>(EM ks xs t).set i x
 | _,_,t=>t
theorem tD: ∀(ks:A N) (xs:A AV) (t:Env) (i:N),(EM ks xs t).has i=t.has i
 | [],_,_,_=>rfl
 | _::_, [],_,_=>rfl
 | k::ks,x::xs,t,i=>by simp only [EM,Tr.gp];exact tD ks xs t i
theorem ym: ∀(ks:A N) (xs:A AV) (t:Env) (i k:N) (x:AV),t.has i=true->posOf ks i=G k->xs[k]?=G x->(EM ks xs t).get .any i=x
 | [],_,_,_,_,_,_,h,_=>by cases h
 | _::_, [],_,_,_,_,_,_,h=>by cases h
 | j::ks,y::xs,t,i,k,x,hi,hk,hx=>by
  simp only [posOf] at hk;simp only [EM];split at hk
  ·rename_i e;cases hk;subst e;simp at hx;subst hx;exact Tr.ed _ _ _ (by rw [tD];exact hi)
  ·rename_i e;cases hp:posOf ks i with
   | none=>rw [hp] at hk;cases hk
   | some k'=>rw [hp] at hk;cases hk;rw [Tr.bK _ _ _ (fun h=>e h.symm)];exact ym ks xs t i k' x hi hp (by simpa using hx)
theorem AE: ∀(ks:A N) (xs:A AV) (t:Env) (i:N),posOf ks i=none->(EM ks xs t).get .any i=t.get .any i
 | [],_,_,_,_=>rfl
 | _::_, [],_,_,_=>rfl
 | j::ks,y::xs,t,i,hk=>by
  simp only [posOf] at hk;simp only [EM];split at hk
  ·cases hk
  ·rename_i e;rw [Tr.bK _ _ _ (fun h=>e h.symm)];exact AE ks xs t i (by simpa using hk)
theorem yn {keep:A N} {i k:N} (h:posOf keep i=G k):k<É keep:=by have:=dI h;exact (List.getElem?_eq_some_iff.1 this).1
theorem jD.put {keep:A N} {nt:N} {v:A (C AV)} {t:Env} (h:jD keep nt v t) (hk: ∀i∈keep,i<nt) (p:N) (x:AV):jD keep nt (match posOf keep p with | some k=>v.set k (G x) | none=>v) (t.set p x):=by
 cases hp:posOf keep p with
 | none=>refine ⟨h.len,fun i hi=>by rw [Tr.gp];exact h.has i hi,fun i j u hj hu=> ?_⟩;rw [Tr.bK _ _ _ (fun e=>by subst e;rw [hp] at hj;cases hj)];exact h.env i j u hj hu
 | some k=>
  refine ⟨by simp only [Ε];exact h.len,fun i hi=>by rw [Tr.gp];exact h.has i hi,fun i j u hj hu=> ?_⟩;by_cases e:p=i
  ·subst e;rw [hp] at hj;cases hj;have hlt:k<É v:=by rw [h.len];exact yn hp
   simp [H,hlt] at hu;rw [Tr.ed _ _ _ (h.has p (hk p (ϊ (dI hp))))];exact hu
  ·rw [Tr.bK _ _ _ e]
   have hne:k≠j:=fun e2=>by
    subst e2;have h1:=dI hp;have h2:=dI hj;rw [h1] at h2;cases h2;exact e rfl
   refine h.env i j u hj ?_;simp only [H,δ hne] at hu⊢;exact hu
theorem EN {keep:A N} {nt:N} {g:Gh} {w:γ} (hk: ∀i∈keep,i<nt): ∀(ps:A Tmp) (xs:A AV) (vs:A Ϗ) (v:A (C AV)) (tmps:Κ Ϗ),bL g w xs vs->É ps=É xs->kM keep nt g w v {tmps:=tmps,defers:= []}->
  kM keep nt g w (EO keep ps xs v) {tmps:=(ps.zip vs).foldl (fun t p=>t.setIfInBounds p.1 p.2) tmps,defers:= []}
 | [],_,_,v,tmps,_,_,hv=>by simpa [EO] using hv
 | p::ps, [],vs,v,tmps,_,hl,_=>by simp at hl
 | p::ps,x::xs,vs,v,tmps,hx,hl,hv=>by
  cases hx with
  | cons h1 h2=>obtain ⟨t,hr,ht⟩:=hv;simp only [EO,List.zip_cons_cons,List.foldl_cons];exact EN hk ps xs _ _ _ h2 (by simpa using hl) ⟨t.set p x,hr.put hk p x,ht.put (G p) h1⟩
theorem KP {g:Gh} {w:γ} {s:Site} {env xs:A AV} {vs tmps:Κ Ϗ} (hx:bL g w xs vs.toList) (hps:É xs=s.ps.size) (ň:É env=s.keep.length) (Ţ:s.nt<10000) (hk: ∀i∈s.keep,i<s.nt) (hsz:s.nt<=tmps.size)
  (he: ∀(j i:N) (x:AV),posOf s.keep j=G i->env[i]?=G x->Rd g w x (tmps.getD j undef)):kM s.keep s.nt g w (CK s env xs) {tmps:=(s.ps.zip vs).foldl (fun t p=>t.setIfInBounds p.1 p.2) tmps,defers:= []}:=by
 have e:(s.ps.zip vs).foldl (fun t p=>t.setIfInBounds p.1 p.2) tmps=(s.ps.toList.zip vs.toList).foldl (fun t p=>t.setIfInBounds p.1 p.2) tmps:=by rw [<-Array.foldl_toList,Array.toList_zip]
 rw [e]
 have Ī:s.nt<2^24:=by
  have:(2:N)^24=16777216:=by decide
  omega
 refine EN hk s.ps.toList xs vs.toList _ _ hx (by simpa using hps.symm) ⟨EM s.keep env (Tr.mk .any 24 s.nt),⟨by simpa using ň,fun i hi=>by rw [tD];exact Tr.qh _ _ _ _ hi Ī,fun i k v hp hv=> ?_⟩,fun i hi=> ?_⟩
 ·have hlt:k<É env:=by rw [ň];exact yn hp
  simp only [H,Χ,Γ hlt,ξ,ϐ,Y] at hv;exact ym _ _ _ _ _ _ (Tr.qh _ _ _ _ (hk i (ϊ (dI hp))) Ī) hp (by rw [Γ hlt,hv])
 ·rw [tD] at hi;have hlt:=Tr.MI _ _ _ _ hi;refine ⟨Nat.lt_of_lt_of_le hlt hsz,?_⟩;cases hp:posOf s.keep i with
  | none=>rw [AE _ _ _ _ hp,Tr.MJ];exact .any _
  | some k=>
   have hlt2:k<É env:=by rw [ň];exact yn hp
   have ť:env[k]?=G env[k]:=Γ hlt2;rw [ym _ _ _ _ _ _ hi hp ť];exact he i k _ hp ť
theorem xg {x y:GE} {b:N} {r:Loop} (h:GE.le x y) (hx:x= .loop b r):y= .loop b r:=by subst hx;cases h;rfl
theorem Mem.Zc {g:Gh} {bs:A af} {w:γ} (hm:Mem g bs w) {k l:N} {r:Loop} {st st':Uk} (Ŧ:af.at bs k= .loop st) (hg:g.e k= .loop l r):
  ∃g',Mem g' (bs.set k (.loop st')) (w.putObj l (.loop (st'.record r)))/\Le g w g' (w.putObj l (.loop (st'.record r)))/\Fr g w g' (w.putObj l (.loop (st'.record r))):=by
 obtain ⟨l',r',h1,h2⟩:=hm.loop k st Ŧ;rw [hg] at h1;cases h1;have hlt:=bV h2
 obtain ⟨m1,l1,f1⟩:=hm.upd (id:=k) (x:= .loop st') (ge:= .loop l r) (S':=g.S) (w':=w.putObj l (.loop (st'.record r))) (fA (by rw [Ŧ];simp)) (fun _ _ h=>h) (fun b o _=>tz h2 rfl rfl b o) (by rw [hg];exact .same _)
  (fun b _ hne=>World.putObj_heap_other (fun e=>hne (by rw [hg,e];rfl))) (by simp) (fun b hb=> .inl (by rw [hg];exact hb)) (by simp) (fun _ _ h=>by cases h) (fun _ _ _ h=>by cases h) (fun _ _ h=> .inl h)
  (fun b o hs hb=>by
   have:=(hm.dh b o hs).2 k (by rw [hg];exact hb);obtain ⟨ty,sz,es,h3,_⟩:=this;rw [Ŧ] at h3;cases h3) rfl rfl rfl
  (fun st h=>by cases h;exact ⟨l,r,rfl,World.putObj_heap_same hlt⟩)
 exact ⟨_,m1,l1,f1⟩
theorem bL.len {g:Gh} {w:γ} {xs:A AV} {vs:A Ϗ} (h:bL g w xs vs):É xs=É vs:=by
 induction h with
 | nil=>rfl
 | cons _ _ ih=>simp [ih]
theorem Qp {k:N} {s:Site} {env xs:A AV} {bs:A af} {r:AV×A af} {ŧ Ļ:IR} {R:dp} (Ġ:xc c s=G (ŧ,Ļ)) (hn:É xs=s.ps.size) (he:É env=s.keep.length) (Ŋ:af.at bs k= .loop .ready)
  (hA:EK P c ŧ R (CK s env xs) bs) (hR: ∀e v1 b1,R e v1 b1->e= .normal/\af.at b1 k= .loop .ready)
  (hB: ∀e v1 b1,R e v1 b1->EK P c Ļ (fun e _ b2=>af.at b2 k= .loop .busy/\(AV.bool e.tr,ee (É bs) (b2.set k (.loop (yg e))))=r) v1 (b1.set k (.loop .busy))):Qn P (.gG k s env) xs bs r:=by
 intro g w v vs hm hv hx;have ī:É xs=s.ps.size/\É env=s.keep.length:=⟨hn,he⟩;cases hv with
 | gG _ l _ _ rec hg hs he=>
  obtain ⟨hs1,hs2,hs3,hs4⟩:=hs;obtain ⟨l',r',h1,h2⟩:=hm.loop k _ Ŋ;rw [hg] at h1;cases h1;have Ũ:vs.size=s.ps.size:=by rw [<-ī.1,hx.len];simp
  unfold xc at Ġ;split at Ġ
  ·rename_i a0 b0 ha0 hb0 hck;simp only [I,ζ,ε] at hck;split at Ġ
   ·rename_i Œ;simp only [I] at Œ;cases Ġ;refine ⟨l,_,_,_,_,rfl,run_yield h2 (by rw [Ũ,<-hs1];rfl),?_⟩;refine roundIn_of_wpIn (F:=Fence.wide) trivial ?_;have hvr:=KP (tmps:=rec.tmps) hx ī.1 ī.2 hck.1 hck.2 hs4 he;have hA:=hA w.heap.size (G l) s.keep s.nt s.asg g _ w (CZ s.asg a0 ha0 _ _) hm hvr (Marks.nil (Δ _)) (.inr Œ.1);rw [<-hs1,<-hs2] at hA;refine ϱ hA ?_;rintro e a1 w1 ⟨ex1,v1,b1,hR1,he1,hd1,g1,š,hv1,hl1,hf1⟩;obtain ⟨rfl,ĝ⟩:=hR _ _ _ hR1;cases e <;> simp only [k7] at he1;have hg1:g1.e k= .loop l rec:=xg (hl1.e k) hg;obtain ⟨l',r',q1,q2⟩:=š.loop k _ ĝ;rw [hg1] at q1;cases q1;refine ⟨_,run_beginRound q2 rfl,?_⟩;obtain ⟨g2,Ŏ,Į,Ĺ⟩:=š.Zc (st':= .busy) ĝ hg1;have hg2:g2.e k= .loop l rec:=xg (Į.e k) hg1;obtain ⟨t1,ĕ,ht1⟩:=hv1;have hB:=hB _ _ _ hR1 w.heap.size (G l) s.keep s.nt s.body g2 a1 _ (CZ s.body b0 hb0 _ _) Ŏ ⟨t1,ĕ,ht1.mono Į⟩ (Marks.mono š Ĺ hd1) (.inr Œ.2);rw [<-hs3] at hB;refine ϱ hB ?_;rintro e a2 w2 ⟨ex,v2,b2,⟨ļ,rfl⟩,he2,_,g3,ŏ,⟨t3,hr3,ht3⟩,Ő,hf3⟩;have hg3:g3.e k= .loop l rec:=xg (Ő.e k) hg2;obtain ⟨l',r',q3,q4⟩:=ŏ.loop k _ ļ;rw [hg3] at q3;cases q3;obtain ⟨g4,hm4,hl4,hf4⟩:=ŏ.Zc (st':=yg ex) ļ hg3;have htot:Le g w g4 _:=((hl1.trans Į).trans Ő).trans hl4;have ftot:Fr g w g4 _:=((hf1.trans Ĺ).trans hf3).trans hf4;obtain ⟨g5,hm5,_,hl5,hf5⟩:=Qq (s:=⟨t3,b2.set k (.loop (yg ex))⟩) hm4 (ht3.mono hl4) (É bs);rw [Sw] at hm5
    have fin: ∀b:ι,b=ex.tr->dT g w (ee (É bs) (b2.set k (.loop (yg ex)))) (.bool ex.tr) (.returned (.bool b)) (w2.putObj l (.loop ((yg ex).record rec))):=fun b hb=>
     ⟨.bool b,g5,rfl,hm5,hl5 g w bs hm (Δ _) htot,ftot.trans hf5,hb▸ .bool _⟩
    cases ex with
    | normal=>cases e <;> simp only [k7] at he2;exact ⟨_,_,Ϟ ο q4,fin ν rfl⟩
    | ret=>cases e <;> simp only [k7] at he2;exact ⟨_,_,Ϟ (G .ret) q4,fin τ rfl⟩
    | exit i=>cases e <;> simp only [k7] at he2;subst he2;exact ⟨_,_,Ϟ (G (.exit _)) q4,fin τ rfl⟩
   ·cases Ġ
  ·cases Ġ
theorem Uu {cf:aQ} (ģ:rZ P cf) {keep:A N} {nt n0 t x:N} {ps:Κ Tmp} {asg body:Ι} {v v':A (C AV)} {b b':A af} {ex:Ex} {g:Gh} {a:Act} {w:γ} (hk:posOf keep t=G x)
  (h':zM c cf x ⟨ps,asg,body,keep,nt⟩ v b=G (ex,v',b')) (hm:Mem g b w) (hv:kM keep nt g w v a) (hd:Marks n0 w a.defers):
  (Code.rangeFunc (.tmp t) ps asg body).wpIn (FW ο) 0 P (fun e a' w'=>k7 ex e/\jE keep nt n0 g w v' b' a' w') a w:=by
 unfold zM at h';obtain ⟨tt,hr,ht⟩:=hv;split at h'
 ·rename_i f caps hx;split at h'
  ·cases h'
  ·rename_i hext;unfold Qh at h';split at h'
   ·rename_i r b2 ũ
    obtain ⟨st,hst,hst2⟩: ∃st,af.at b2 (É b)= .loop st/\((st= .ready/\ex= .normal)\/st= .done ex)/\v'=CW (É b) v b2/\b'=ee (É b) b2:=by
     split at h'
     ·rename_i hb;cases h';exact ⟨_,hb,.inl ⟨rfl,rfl⟩,rfl,rfl⟩
     ·rename_i hb;cases h';exact ⟨_,hb,.inr rfl,rfl,rfl⟩
     ·cases h'
    obtain ⟨Ū,rfl,rfl⟩:=hst2;have đ:=ht.ev (.tmp t);have e1:ev tt (.tmp t)= .fn f [] caps:=hr.env t x _ hk hx;rw [e1] at đ;generalize hfu:a.eval (.tmp t)=fu at đ;cases đ with
    | fn _ _ _ us0 us hn0 hn1 hu0 hu1=>
     have hus0:us0= #[]:=Array.eq_empty_of_size_eq_zero (by simpa using hn0);subst hus0;refine wpIn_rangeFunc ?_;intro fn _;obtain ⟨rec,ę⟩: ∃rec:Loop,rec={state:= .ready,pending:=none,fn,tmps:=a.tmps,params:=ps,assign:=asg,body,defers:=w.heap.size}:=⟨_,rfl⟩;obtain ⟨W1,Ľ⟩: ∃W1,(w.alloc (.deferred (G []))).alloc (.loop rec)=W1:=⟨_,rfl⟩;have hsz1:W1.heap.size=w.heap.size+2:=by rw [<-Ľ];simp [World.size_alloc]
     have ŋ: ∀i,i<w.heap.size->W1.heap[i]?=w.heap[i]?:=fun i hi=>by
      rw [<-Ľ,cJ _ _ (by rw [World.size_alloc];omega),cJ _ _ hi]
     have hD1:W1.heap[w.heap.size]?=G (.deferred (G [])):=by rw [<-Ľ,cJ _ _ (by rw [World.size_alloc];omega)];exact dH w _
     have hL1:W1.heap[w.heap.size+1]?=G (.loop rec):=by
      rw [<-Ľ];have:=dH (w.alloc (.deferred (G []))) (.loop rec)
      rwa [World.size_alloc] at this
     obtain ⟨hE,Ō⟩:=ģ.fn f _ _ _ _ ũ;refine ⟨w.heap.size+1, [{target:= .collected w.heap.size,args:= #[]}],W1,{target:= .fn (.func f) us,args:= #[.func (.yield (w.heap.size+1)) #[] #[]]},W1,f, #[.func (.yield (w.heap.size+1)) #[] #[]]++us,W1,?_,?_,fun _ _=>trivial,?_,fun h=>(by cases h),?_⟩
     ·rw [<-Ľ,ę];exact run_enterLoop_outer fn a.tmps ps asg body
     ·simp only [resolve,hfu,Deferred.ofValue,Sem.run_pure];simp [Act.eval]
     ·exact AF hE _ _
     obtain ⟨hmN,ū⟩:=(hm.pad 1).new (id:=É b) (x:= .loop .ready) (ge:= .loop (w.heap.size+1) rec) (w':=W1) (by simp) (by rw [nU];simp [af.at]) ŋ (by omega) (fun i hi=>by cases hi;omega) (by simp)
      (fun _ _ h=>by cases h) (fun _ _ _ h=>by cases h) (fun st h=>by cases h;exact ⟨_,rec,rfl,by rw [hL1,ę];rfl⟩)
     have Ŧ:(b++O 1 af.dead).set (É b) (.loop .ready)=b++ [.loop .ready]:=by simp
     rw [Ŧ] at hmN;have hge:(g.put (É b) (.loop (w.heap.size+1) rec)).e (É b)= .loop (w.heap.size+1) rec:=Gh.cy _ _ _;have hfN:Fr g w (g.put (É b) (.loop (w.heap.size+1) rec)) W1:=Fr.new (by omega) ŋ (fun i hi=>by cases hi;omega) (by rw [<-Ľ];rfl) (by rw [<-Ľ];rfl) (by rw [<-Ľ];rfl);generalize g.put (É b) (.loop (w.heap.size+1) rec)=g1 at hmN ū hge hfN
     have hyl:Rd g1 W1 (.gG (É b) ⟨ps,asg,body,keep,nt⟩ (v.map (·.getD .any))) (.func (.yield (w.heap.size+1)) #[] #[]):=by
      refine .gG _ _ _ _ rec hge ⟨by rw [ę],by rw [ę],by rw [ę],?_⟩ (fun j i y hj hy=> ?_)
      ·rw [ę];show nt<=a.tmps.size;rcases Nat.eq_zero_or_pos nt with h0 | h0
       ·omega
       ·have:=(ht (nt-1) (hr.has _ (by omega))).1;omega
      ·rw [ę];show Rd g1 W1 y (a.tmps.getD j undef);rw [Χ] at hy;cases hvi:v[i]? with
       | none=>rw [hvi] at hy;cases hy
       | some o=>
        rw [hvi] at hy;cases o with
        | none=>cases hy;exact .any _
        | some z=>cases hy;have e2:tt.get .any j=z:=hr.env j i z hj (by simp [H,hvi]);have:=ht.get j;rw [e2] at this;exact this.mono ū
     have ű:bL g1 W1 (.gG (É b) ⟨ps,asg,body,keep,nt⟩ (v.map (·.getD .any))::caps) (#[Value.func (.yield (w.heap.size+1)) #[] #[]]++us).toList:=by simp only [Array.toList_append,π,List.nil_append];exact .cons hyl (bL.nV (by simpa using hn1.symm) (fun i c u hc hu=>(hu1 i c u hc (by simpa using hu)).mono ū))
     refine yo ((Ō g1 W1 _ hmN ű).mono ?_);rintro e W3 ⟨val,g',rfl,ŏ,Ő,hf3,_⟩;have Ŭ:g'.e (É b)= .loop (w.heap.size+1) rec:=xg (Ő.e _) hge;obtain ⟨l',r',q1,q2⟩:=ŏ.loop _ _ hst;rw [Ŭ] at q1;cases q1;have hlen2:É b<É b2:=fA (by rw [hst];simp)
     -- the boxes that were there
     obtain ⟨mH,fH⟩:=ŏ.hand (É b)
     have hcb:ee (É b) b2=(b2.take (É b)).map (b9 (É b)):=by unfold ee;rw [ϓ (by omega)]
     have hnb: ∀k,((g'.hand b2 (É b)).e k).bM≠G (w.heap.size+1):=fun k hk=>by
      obtain ⟨h1,h2⟩:=kO hk;have:=ŏ.inj k (É b) _ h2 (by rw [Ŭ];rfl);omega
     have hst_ne:(st.record rec).state≠ .busy:=by rcases Ū with ⟨rfl,_⟩ | rfl <;> simp [Uk.record]
     obtain ⟨m4,l4⟩:=EJ mH (y:= .loop {st.record rec with state:= .exhausted}) q2 rfl rfl hnb
     have lH:Le g w (g'.hand b2 (É b)) W3:=by
      have hl:Le g w g' W3:=ū.trans Ő;refine ⟨fun i o hs=> .inl (hl.S i o hs),hl.cell,fun k=> ?_⟩;simp only [Gh.hand];split
      ·exact hl.e k
      ·rw [hm.no k (by simp [af.at,H,Η (by omega:É b<=k)])];exact .no _
     have f3:Fr g w (g'.hand b2 (É b)) W3:=(hfN.trans hf3).trans fH;have f4:=M7 (o:= .loop {st.record rec with state:= .exhausted}) f3 (D:=w.heap.size+1) (by omega)
     have hvr:kM keep nt (g'.hand b2 (É b)) W3 (CW (É b) v b2) a:=by
      refine ⟨_,jD.cut (s:=⟨tt,b2⟩) hr (É b),?_⟩
      have:(St.cut ⟨tt,b2⟩ (É b)).t=tt.map (forget (É b)):=by unfold St.cut;rw [ϓ (by simp;omega)]
      rw [this];intro i hi;rw [Tr.sU] at hi;obtain ⟨h1,h2⟩:=ht i hi;refine ⟨h1,?_⟩;rw [show (tt.map (forget (É b))).get .any i=forget (É b) (tt.get .any i) from Tr.get_map (forget (É b)) .any tt i];exact (h2.mono (ū.trans Ő)).lF _
     -- the marks
     have hmk:Marks n0 (W3.putObj (w.heap.size+1) (.loop {st.record rec with state:= .exhausted})) ({target:= .collected w.heap.size,args:= #[]}::a.defers):=by
      obtain ⟨h0,Ds,hDs,hnd,hD⟩:=hd
      have m1:Marks n0 W1 ({target:= .collected w.heap.size,args:= #[]}::a.defers):=by
       refine ⟨by omega,w.heap.size::Ds,by rw [hDs];rfl,List.nodup_cons.2 ⟨fun hin=> ?_,hnd⟩,fun D Ĵ=> ?_⟩
       ·have:=bV (hD _ hin).2;omega
       ·rcases List.mem_cons.1 Ĵ with rfl | Ĵ
        ·exact ⟨h0,hD1⟩
        ·exact ⟨(hD D Ĵ).1,(ŋ D (bV (hD D Ĵ).2)).trans (hD D Ĵ).2⟩
      obtain ⟨h0',Ds',e',nd',Ĵ⟩:=m1.mono hmN hf3;refine ⟨by rw [World.putObj_size];exact h0',Ds',e',nd',fun D hin=>⟨(Ĵ D hin).1,?_⟩⟩;rw [World.putObj_heap_other]
      ·exact (Ĵ D hin).2
      ·intro e;subst e;have:=(Ĵ _ hin).2;rw [q2] at this;cases this
     have post:jE keep nt n0 g w (CW (É b) v b2) (ee (É b) b2) {a with defers:={target:= .collected w.heap.size,args:= #[]}::a.defers} (W3.putObj (w.heap.size+1) (.loop {st.record rec with state:= .exhausted})):=by obtain ⟨t4,r4,ht4⟩:=hvr;exact ⟨hmk,g'.hand b2 (É b),by rw [hcb];exact m4,⟨t4,r4,fun i hi=>ht4.mono l4 i hi⟩,lH.trans l4,f4⟩
     refine ⟨_,_,run_endLoop q2 hst_ne,?_⟩;rcases Ū with ⟨rfl,rfl⟩ | rfl
     ·exact ⟨trivial,post⟩
     ·cases ex with
      | normal=>exact wpIn_skip ⟨trivial,post⟩
      | ret=>exact wpIn_ret ⟨trivial,post⟩
      | exit i=>exact wpIn_exit ⟨rfl,post⟩
   ·cases h'
 ·cases h'
def r7 (F:Fence) (n:N) (P:Ϝ) (x:Ι) (Q:ϫ->Act->γ->Prop) (a:Act) (w:γ):Prop:=
 ∀(b:Frame) (k:A Item) (cs:A Frame),b.roundOf=F.round->F.fn b.fn->F.room (É cs+1+n)->
  ∃e a' w',Q e a' w'/\ArrivesIn (Machine.fenced P F) P (lone (b.atR a (.code x:: .inLoop x::k)) cs w) b k cs e a' w'
theorem vQ {F:Fence} {n:N} {x:Ι} {Q Q':ϫ->Act->γ->Prop} {a:Act} {w:γ} (hq: ∀e a w,Q e a w->Q' e a w) (h:r7 F n P x Q a w):r7 F n P x Q' a w:=
 fun b k cs ķ hb hr=>let ⟨e,a',w',q,r⟩:=h b k cs ķ hb hr;⟨e,a',w',hq _ _ _ q,r⟩
theorem EP {F:Fence} {n:N} {Q:ϫ->Act->γ->Prop} {a:Act} {w:γ} {x:Ι} (h:r7 F n P x Q a w):(Code.loop x).wpIn F n P Q a w:=by intro b k cs ķ hb hr;have h0:(lone (b.atR a (.code (.loop x)::k)) cs w).fenced P F:=ϔ hb hr rfl;obtain ⟨e,a',w',q,r⟩:=h b k cs ķ hb hr;exact ⟨e,a',w',q,.of_steps (.one h0 stepR_loop) r⟩
theorem ER {F:Fence} {n:N} {Q:ϫ->Act->γ->Prop} {a:Act} {w:γ} {x:Ι} (h:x.wpIn F n P (Exit.then (fun a' w'=>r7 F n P x Q a' w') Q) a w):r7 F n P x Q a w:=by
 intro b k cs ķ hb hr;obtain ⟨e,a₁,w₁,hq,ć⟩:=h b (.inLoop x::k) cs ķ hb hr;cases e with
 | normal=>obtain ⟨e₂,a₂,w₂,hq₂,ŭ⟩:=hq b k cs ķ hb hr;exact ⟨e₂,a₂,w₂,hq₂,.of_steps (StepsIn.trans ć (.one (ϔ hb hr rfl) stepR_inLoop)) ŭ⟩
 | exit id=>exact ⟨_,a₁,w₁,hq,.pass (x:= .inLoop x) rfl (fun _ _=> .inl (by simp)) ć⟩
 | goto l=>exact ⟨_,a₁,w₁,hq,.pass (x:= .inLoop x) rfl (fun _ _=> .inl (by simp)) ć⟩
 | ret=>exact ⟨_,a₁,w₁,hq,.pass (x:= .inLoop x) rfl (fun _ _=> .inl (by simp)) ć⟩
 | panic ch=>exact ⟨_,a₁,w₁,hq,.pass (x:= .inLoop x) rfl (fun _ _=> .inl (by simp)) ć⟩
 | outgrown=>exact ⟨_,a₁,w₁,hq,.pass (x:= .inLoop x) rfl (fun _ _=> .inl (by simp)) ć⟩
def Jm (P:Ϝ) (c:aD) (ir:IR) (Q:dp) (v:A (C AV)) (b:A af):Prop:= ∀(k:A N) (x:IR),ir= .loop k x-> ∀(n0:N) (ro:C N) (keep:A N) (nt:N) (cd:Ι) (g:Gh) (a:Act) (w:γ),
 ef c keep nt cd x->Mem g b w->kM keep nt g w v a->Marks n0 w a.defers->(ro=ο\/x.oD=ν)->r7 (FW ro) 0 P cd (lD Q keep nt n0 g w) a w
inductive Core (c:aD) (keep:A N) (nt:N):Ι->IR->Prop where
 | stuck (a:Ι):Core c keep nt a .stuck
 | own (a:Ι) (l:A tq) (x:IR) (h:ef c keep nt a x):Core c keep nt a (.seq (.own l) x)
 | after (a:Ι) (l:A tq) (x:IR) (h:ef c keep nt a x):Core c keep nt a (.seq x (.own l))
 | skip:Core c keep nt .skip .skip
 | label (l:N):Core c keep nt (.label l) .skip
 | ret:Core c keep nt .ret .ret
 | exit (i:N):Core c keep nt (.exit i) (.exit i)
 | seq (a b:Ι) (x y:IR) (h1:ef c keep nt a x) (h2:ef c keep nt b y):Core c keep nt (.seq a b) (.seq x y)
 | block (i:N) (a:Ι) (x:IR) (h:ef c keep nt a x):Core c keep nt (.block i a) (.block i x)
 | cond (t k:N) (a b:Ι) (x y:IR) (hk:posOf keep t=G k) (h1:ef c keep nt a x) (h2:ef c keep nt b y):Core c keep nt (.cond (.tmp t) a b) (.cond k x y)
 | loop (k:A N) (a:Ι) (x:IR) (h:ef c keep nt a x):Core c keep nt (.loop a) (.loop k x)
 | region (id:N) (ops:Κ Τ) (dr:ι) (x:IR) (h:Hl c keep nt ops dr=G x):Core c keep nt (.region id ops dr) x
 | td (t x:N) (ps:Κ Tmp) (asg body:Ι) (hk:posOf keep t=G x):Core c keep nt (.rangeFunc (.tmp t) ps asg body) (.td x ⟨ps,asg,body,keep,nt⟩)
theorem ez {keep:A N} {nt n0:N} {Q:dp} {ro:C N} {g:Gh} {v:A (C AV)} {a:Act} {w:γ} (hv:kM keep nt g w v a) {code:Ι} {ir:IR} (hs:ef c keep nt code ir)
  (h: ∀cd,Core c keep nt cd ir->cd.wpIn (FW ro) 0 P (lD Q keep nt n0 g w) a w):code.wpIn (FW ro) 0 P (lD Q keep nt n0 g w) a w:=by
 induction hs with
 | stuck a=>exact h _ (.stuck _)
 | own cd l x hx _=>exact h _ (.own _ _ _ hx)
 | after cd l x hx _=>exact h _ (.after _ _ _ hx)
 | skip=>exact h _ .skip
 | label l=>exact h _ (.label _)
 | ret=>exact h _ .ret
 | exit i=>exact h _ (.exit _)
 | seq c1 c2 x y hx hy _ _=>exact h _ (.seq _ _ _ _ hx hy)
 | block i cd x hx _=>exact h _ (.block _ _ _ hx)
 | scope cd x hx ih=>
  refine Hk (gh ?_ (ih h));rintro e a' w' ⟨ex,v',b',h1,h2,h3⟩;cases e with
  | goto l=>cases ex <;> simp [k7] at h2
  | _=>exact ⟨ex,v',b',h1,h2,h3⟩
 | cond t k c1 c2 x y hk hx hy _ _=>exact h _ (.cond _ _ _ _ _ _ hk hx hy)
 | yes u c1 c2 x hu hx ih=>obtain ⟨tt,hr,ht⟩:=hv;have đ:=ht.ev (.const u);have e1:ev tt (.const u)= .bool true:=hu;rw [e1] at đ;exact wpIn_cond_true đ.dL (ih h)
 | no u c1 c2 x hu hx ih=>obtain ⟨tt,hr,ht⟩:=hv;have đ:=ht.ev (.const u);have e1:ev tt (.const u)= .bool false:=hu;rw [e1] at đ;exact ϧ đ.dL (ih h)
 | loop k cd x hx _=>exact h _ (.loop _ _ _ hx)
 | region id ops dr x hx=>exact h _ (.region _ _ _ _ hx)
 | td t x ps asg body hk=>exact h _ (.td _ _ _ _ _ hk)
theorem iX {keep:A N} {nt:N} {ops:Κ Τ} {dr:ι} {x:IR} (h:Hl c keep nt ops dr=G x):(∃m kl ā,x= .jC m kl ā)\/(∃x' k n ā,x= .CL x' k n ā)\/ ∃l,x= .alt l:=by
 rcases EG h with ⟨m,kl,ā,e,_⟩ | ⟨_,_,_,_,_,_,_,_,_,_,_,_,_,_,_,_,e⟩ | ⟨_,_,_,_,e⟩
 ·exact .inl ⟨m,kl,ā,e⟩
 ·exact .inr (.inl ⟨_,_,_,_,e⟩)
 ·exact .inr (.inr ⟨_,e⟩)
theorem KQ (hc:qR c P) {ir:IR} {Q:dp} {v:A (C AV)} {b:A af} (h:mN c ir Q v b):EK P c ir Q v b/\Jm P c ir Q v b:=by
 refine mN.rec (c:=c) (motive_1:=fun ir Q v b _=>EK P c ir Q v b/\Jm P c ir Q v b) (motive_2:=fun t xs bs r _=>Qn P t xs bs r) ?_ ?_ ?_ ?_ ?_ ?_ ?_ ?_ ?_ ?_ ?_ ?_ ?_ ?_ ?_ h
 ·intro Q v b h;refine ⟨?_,fun _ _ e=>by cases e⟩;intro n0 ro keep nt code g a w hs hm hv hd Ĉ;refine ez hv hs fun cd Ċ=> ?_;cases Ċ with
  | skip=>exact wpIn_skip ⟨.normal,v,b,h,trivial,hd,g,hm,hv,Le.refl g w,Fr.refl g w⟩
  | label l=>exact wpIn_label ⟨.normal,v,b,h,trivial,hd,g,hm,hv,Le.refl g w,Fr.refl g w⟩
  | region id ops dr x hx=>rcases iX hx with ⟨_,_,_,e⟩ | ⟨_,_,_,_,e⟩ | ⟨_,e⟩ <;> cases e
 ·intro Q v b h;refine ⟨?_,fun _ _ e=>by cases e⟩;intro n0 ro keep nt code g a w hs hm hv hd Ĉ;refine ez hv hs fun cd Ċ=> ?_;cases Ċ with
  | ret=>exact wpIn_ret ⟨.ret,v,b,h,trivial,hd,g,hm,hv,Le.refl g w,Fr.refl g w⟩
  | region id ops dr x hx=>rcases iX hx with ⟨_,_,_,e⟩ | ⟨_,_,_,_,e⟩ | ⟨_,e⟩ <;> cases e
 ·intro l Q v b h;refine ⟨?_,fun _ _ e=>by cases e⟩;intro n0 ro keep nt code g a w hs hm hv hd Ĉ;refine ez hv hs fun cd Ċ=> ?_;cases Ċ with
  | region id ops dr x hx=>rcases iX hx with ⟨_,_,_,e⟩ | ⟨_,_,_,_,e⟩ | ⟨_,e⟩ <;> cases e
 ·intro i Q v b h;refine ⟨?_,fun _ _ e=>by cases e⟩;intro n0 ro keep nt code g a w hs hm hv hd Ĉ;refine ez hv hs fun cd Ċ=> ?_;cases Ċ with
  | exit i=>exact wpIn_exit ⟨.exit i,v,b,h,rfl,hd,g,hm,hv,Le.refl g w,Fr.refl g w⟩
  | region id ops dr x hx=>rcases iX hx with ⟨_,_,_,e⟩ | ⟨_,_,_,_,e⟩ | ⟨_,e⟩ <;> cases e
 ·intro x y Q R v b h1 h2 h3 ih1 ih2;refine ⟨?_,fun _ _ e=>by cases e⟩;intro n0 ro keep nt code g a w hs hm hv hd Ĉ;refine ez hv hs fun cd Ċ=> ?_;cases Ċ with
  | own cd l x hx=>
   obtain ⟨g1,k1,k2,k3,k4⟩:=uT l hm hv;cases h1 with
   | own hR=>refine gh ?_ ((ih2 _ _ hR).1 n0 ro keep nt cd g1 a w hx k1 k2 hd (Ĉ.imp id (fun h=>by simpa [IR.oD] using h)));exact fun e a' w' hp=>lD.trans k3 k4 hp
  | after cd l x hx=>
   refine gh ?_ (ih1.1 n0 ro keep nt cd g a w hx hm hv hd (Ĉ.imp id (fun h=>by simpa [IR.oD] using h)));rintro e a' w' ⟨ex,v',b',hR,he,Ē,g',Č,ı,Ć,ĉ⟩;cases ex with
   | normal=>
    obtain ⟨g1,k1,k2,k3,k4⟩:=uT l Č ı;have:=h2 v' b' hR;cases this with
    | own hQ=>exact ⟨.normal,_,_,hQ,he,Ē,g1,k1,k2,Ć.trans k3,ĉ.trans k4⟩
   | ret=>exact ⟨.ret,v',b',h3 _ _ _ (by simp) hR,he,Ē,g',Č,ı,Ć,ĉ⟩
   | exit i=>exact ⟨.exit i,v',b',h3 _ _ _ (by simp) hR,he,Ē,g',Č,ı,Ć,ĉ⟩
  | seq c1 c2 x y hx hy=>
   refine wpIn_seq ?_;refine gh ?_ (ih1.1 n0 ro keep nt c1 g a w hx hm hv hd (Ĉ.imp id (fun h=>(I _ _▸h:_/\_).1)));rintro e a' w' ⟨ex,v',b',hR,he,Ē,g',Č,ı,Ć,ĉ⟩;cases ex with
   | normal=>cases e <;> simp only [k7] at he;refine gh ?_ ((ih2 v' b' hR).1 n0 ro keep nt c2 g' a' w' hy Č ı Ē (Ĉ.imp id (fun h=>(I _ _▸h:_/\_).2)));exact fun e a2 w2 hp=>lD.trans Ć ĉ hp
   | ret=>cases e <;> simp only [k7] at he;exact ⟨.ret,v',b',h3 _ _ _ (by simp) hR,trivial,Ē,g',Č,ı,Ć,ĉ⟩
   | exit i=>cases e <;> simp only [k7] at he;exact ⟨.exit i,v',b',h3 _ _ _ (by simp) hR,he,Ē,g',Č,ı,Ć,ĉ⟩
  | region id ops dr x hx=>rcases iX hx with ⟨_,_,_,e⟩ | ⟨_,_,_,_,e⟩ | ⟨_,e⟩ <;> cases e
 ·intro i x Q v b h ih;refine ⟨?_,fun _ _ e=>by cases e⟩;intro n0 ro keep nt code g a w hs hm hv hd Ĉ;refine ez hv hs fun cd Ċ=> ?_;cases Ċ with
  | block i cd x hx=>
   refine wpIn_block (gh ?_ (ih.1 n0 ro keep nt cd g a w hx hm hv hd Ĉ));rintro e a' w' ⟨ex,v',b',hQ,he,hp⟩;cases ex with
   | normal=>cases e <;> simp only [k7] at he;exact ⟨_,v',b',hQ,trivial,hp⟩
   | ret=>cases e <;> simp only [k7] at he;exact ⟨_,v',b',hQ,trivial,hp⟩
   | exit j=>
    cases e <;> simp only [k7] at he;subst he;simp only [leave] at hQ;simp only [Exit.inBlock];split
    ·rename_i hji;rw [ϡ hji] at hQ;exact ⟨_,v',b',hQ,trivial,hp⟩
    ·rename_i hji;rw [Ζ hji] at hQ;exact ⟨_,v',b',hQ,rfl,hp⟩
  | region id ops dr x hx=>rcases iX hx with ⟨_,_,_,e⟩ | ⟨_,_,_,_,e⟩ | ⟨_,e⟩ <;> cases e
 ·intro m kl ā Q v v' b b' cf h hr hq ih;refine ⟨?_,fun _ _ e=>by cases e⟩;intro n0 ro keep nt code g a w hs hm hv hd Ĉ;refine ez hv hs fun cd Ċ=> ?_;cases Ċ with
  | region id ops dr x hx=>
   have hx:CY c keep nt ops dr=G (.jC m kl ā):=by
    rcases EG hx with ⟨_,_,_,e,h2⟩ | ⟨_,_,_,_,_,_,_,_,_,_,_,_,_,_,_,_,e⟩ | ⟨_,_,_,_,e⟩
    ·cases e;exact h2
    ·cases e
    ·cases e
   refine gh ?_ (KO hc (Jk ih) hx hr hm hv hd ro);rintro e a' w' ⟨he,hp⟩;exact ⟨.normal,v',b',hq,he,hp⟩
 ·intro k x y Q v b hx1 h ih;refine ⟨?_,fun _ _ e=>by cases e⟩;intro n0 ro keep nt code g a w hs hm hv hd Ĉ;refine ez hv hs fun cd Ċ=> ?_;cases Ċ with
  | cond t k c1 c2 x y hk hx hy=>obtain ⟨tt,hr,ht⟩:=hv;have đ:=ht.ev (.tmp t);have e1:ev tt (.tmp t)= .bool true:=hr.env t k _ hk hx1;rw [e1] at đ;exact wpIn_cond_true đ.dL (ih.1 n0 ro keep nt c1 g a w hx hm ⟨tt,hr.yi k,ht⟩ hd (Ĉ.imp id (fun h=>(I _ _▸h:_/\_).1)))
  | region id ops dr x hx=>rcases iX hx with ⟨_,_,_,e⟩ | ⟨_,_,_,_,e⟩ | ⟨_,e⟩ <;> cases e
 ·intro k x y Q v b hx1 h ih;refine ⟨?_,fun _ _ e=>by cases e⟩;intro n0 ro keep nt code g a w hs hm hv hd Ĉ;refine ez hv hs fun cd Ċ=> ?_;cases Ċ with
  | cond t k c1 c2 x y hk hx hy=>obtain ⟨tt,hr,ht⟩:=hv;have đ:=ht.ev (.tmp t);have e1:ev tt (.tmp t)= .bool false:=hr.env t k _ hk hx1;rw [e1] at đ;exact ϧ đ.dL (ih.1 n0 ro keep nt c2 g a w hy hm ⟨tt,hr.yi k,ht⟩ hd (Ĉ.imp id (fun h=>(I _ _▸h:_/\_).2)))
  | region id ops dr x hx=>rcases iX hx with ⟨_,_,_,e⟩ | ⟨_,_,_,_,e⟩ | ⟨_,e⟩ <;> cases e
 ·intro k x Q R v b h1 h2 h3 ih1 ih2
  have go:Jm P c (.loop k x) Q v b:=by
   intro k0 x0 e n0 ro keep nt cd g a w hx hm hv hd Ĉ;cases e;obtain ⟨t,hr,ht⟩:=hv;have hvk:kM keep nt g w (lB k v) a:=⟨t,hr.kill k,ht⟩;refine ER (gh ?_ (ih1.1 n0 ro keep nt cd g a w hx hm hvk hd Ĉ));rintro e a' w' ⟨ex,v1,b1,hR,he,Ē,g',Č,⟨t',Ĝ,ĺ⟩,Ć,ĉ⟩;cases ex with
   | normal=>
    cases e <;> simp only [k7] at he;have ih:=(ih2 v1 b1 hR).2 k x rfl
    have stay:s9 k (É b) v1 b1=v1->tc k (É b) v1 b1=b1->r7 (FW ro) 0 P cd (lD Q keep nt n0 g w) a' w':=fun e1 e2=>by
     unfold Jm at ih2;have ih3:=(ih2 v1 b1 hR).2 k x rfl n0 ro keep nt cd g' a' w' hx;rw [e1,e2] at ih3;exact vQ (fun e a3 w3 hp=>lD.trans Ć ĉ hp) (ih3 Č ⟨t',Ĝ,ĺ⟩ Ē Ĉ)
    cases hle:decide (É b1<=É b) with
    | true=>exact stay (by simp only [s9,hle]) (by simp only [tc,hle])
    | false=>
    cases hu:fU k (É b) 0 (lB k v1) with
    | true=>obtain ⟨g2,Ŏ,ht2,Į,Ĺ⟩:=MZ Č ĺ (of_decide_eq_false hle);have ih3:=(ih2 v1 b1 hR).2 k x rfl n0 ro keep nt cd g2 a' w' hx;simp only [s9,tc,hle,hu] at ih3;have hv2:kM keep nt g2 w' (vM (É b) v1 b1) a':=⟨_,Ĝ.vM (É b) b1,ht2⟩;exact vQ (fun e a3 w3 hp=>lD.trans (Į g w b hm (Δ _) Ć) (ĉ.trans Ĺ) hp) (ih3 Ŏ hv2 Ē Ĉ)
    | false=>exact stay (by simp only [s9,hle,hu]) (by simp only [tc,hle,hu])
   | ret=>cases e <;> simp only [k7] at he;exact ⟨.ret,v1,b1,h3 _ _ _ (by simp) hR,trivial,Ē,g',Č,⟨t',Ĝ,ĺ⟩,Ć,ĉ⟩
   | exit i=>cases e <;> simp only [k7] at he;exact ⟨.exit i,v1,b1,h3 _ _ _ (by simp) hR,he,Ē,g',Č,⟨t',Ĝ,ĺ⟩,Ć,ĉ⟩
  refine ⟨?_,go⟩;intro n0 ro keep nt code g a w hs hm hv hd Ĉ;refine ez hv hs fun cd Ċ=> ?_;cases Ċ with
  | loop k cd x hx=>exact EP (go k _ rfl n0 ro keep nt cd g a w hx hm hv hd Ĉ)
  | region id ops dr x hx=>rcases iX hx with ⟨_,_,_,e⟩ | ⟨_,_,_,_,e⟩ | ⟨_,e⟩ <;> cases e
 ·intro x s Q v v' b b' e cf h hr hq ih;refine ⟨?_,fun _ _ e=>by cases e⟩;intro n0 ro keep nt code g a w hs hm hv hd Ĉ;refine ez hv hs fun cd Ċ=> ?_;cases Ċ with
  | td t x ps asg body hk=>
   rcases Ĉ with rfl | Ĉ
   ·refine gh ?_ (Uu (Jk ih) hk hr hm hv hd);rintro e' a' w' ⟨he,hp⟩;exact ⟨e,v',b',hq,he,hp⟩
   ·cases Ĉ
  | region id ops dr x hx=>rcases iX hx with ⟨_,_,_,e⟩ | ⟨_,_,_,_,e⟩ | ⟨_,e⟩ <;> cases e
 ·intro x k n i m clock seen es ā Q v b cf h hx hi ō h0 h1 ih;refine ⟨?_,fun _ _ e=>by cases e⟩;intro n0 ro keep nt code g a w hs hm hv hd Ĉ;refine ez hv hs fun cd Ċ=> ?_;cases Ċ with
  | region id ops dr y hy=>
   rcases EG hy with ⟨_,_,_,e,_⟩ | ⟨o,r,t,d,x',k',Ė,rfl,ğ,ho,Ħ,hgd,hpx,ġ,Ņ,hlo,e⟩ | ⟨_,_,_,_,e⟩
   ·cases e
   ·cases e;exact Us hc (Jk ih) ğ ho Ħ hgd hpx ġ Ņ hlo hx hi ō h0 h1 hm hv hd ro
   ·cases e
 ·intro l Q v b cf h hne hr ih;refine ⟨?_,fun _ _ e=>by cases e⟩;intro n0 ro keep nt code g a w hs hm hv hd Ĉ;refine ez hv hs fun cd Ċ=> ?_;cases Ċ with
  | region id ops dr y hy=>
   rcases EG hy with ⟨_,_,_,e,_⟩ | ⟨_,_,_,_,_,_,_,_,_,_,_,_,_,_,_,_,e⟩ | ⟨k,l',rfl,hal,e⟩
   ·cases e
   ·cases e
   ·cases e;refine Ϧ hc.mixed (ph hc (Jk ih) k ops l hal hm hv hd ro fun x hx=> ?_);obtain ⟨v1,b1,h1,h2⟩:=hr x hx;exact ⟨v1,b1,h1,fun e a' w' he hp=>⟨.normal,v1,b1,h2,he,hp⟩⟩
 ·intro f fn L args bs r hf hl h ih;exact M8 hc hf hl ih.1
 ·intro k s env args bs r asg body R hl hn he hk h1 h2 h3 ih1 ih3;exact Qp hl hn he hk ih1.1 h2 (fun e v1 b1 h=>(ih3 e v1 b1 h).1)
theorem Hp (hc:qR c P) {f:ώ} {xs:A AV} {bs:A af} {r:AV} {bs':A af} (h:ar c f xs bs=G (r,bs')) (g:Gh) (w:γ) (vs:Κ Ϗ) (hm:Mem g bs w) (hx:bL g w xs vs.toList):Calls P f vs w (dT g w bs' r):=by
 have hr:=kG.1 h;cases hr with
 | fn hf hl Ā=>exact (M8 hc hf hl (KQ hc Ā).1).2 g w vs hm hx
end
end Go.Am
namespace Go.Am
theorem Wp.az {c:aD} {k:A N} {x:IR} {Q:dp} {α:Type} (m:α->N) (V:α->A (C AV)) (B:α->A af) (P:α->Prop)
  (step: ∀a,P a->Wp c x (fun e v' b'=>match e with
   | .normal=> ∃a',P a'/\m a'<m a/\lB k (s9 k (B a).length v' b')=V a'/\tc k (B a).length v' b'=B a'
   | e=>Q e v' b') (V a) (B a)) (a:α) (hp:P a) {v:A (C AV)} (hv:lB k v=V a) {b:A af} (hb:b=B a):Wp c (.loop k x) Q v b:=by
 subst hb
 have: ∀(n:N) (a:α),m a<n->P a-> ∀v,lB k v=V a->qg (Wp c x) k Q n v (B a):=by
  intro n
  induction n with
  | zero=>intro a h;omega
  | succ n ih=>
   intro a hn hp v hv;show Wp c x _ (lB k v) (B a);rw [hv];refine Wp.mono x (fun e v' b' hq=> ?_) _ _ (step a hp);cases e with
   | normal=>obtain ⟨a',h1,h2,h3,h4⟩:=hq;simp only;rw [h4];exact ih a' (by omega) h1 _ h3
   | ret=>exact hq
   | exit i=>exact hq
 exact ⟨m a+1,this (m a+1) a (by omega) hp v hv⟩
theorem Wp.td {c:aD} {x:N} {s:Site} {Q:dp} {v:A (C AV)} {b:A af} {f:ώ} {caps:A AV} (hx:lX v x=G (.fn f [] caps)) (he:c.ext f=ο) {r:AV} {b':A af} {st:Uk} {e:Ex}
  (ha:ar c f (.gG (É b) s (v.map (·.getD .any))::caps) (b++ [.loop .ready])=G (r,b')) (hb:af.at b' (É b)= .loop st) (hst:st=yg e) (hQ:Q e (CW (É b) v b') (ee (É b) b')):Wp c (.td x s) Q v b:=by
 have Ů:pg c (.fn f) (.gG (É b) s (v.map (·.getD .any))::caps) (b++ [.loop .ready])=G (r,b'):=ha;simp only [Wp,Qj,zM,hx,he,Ů,Qh,hb,hst];cases e <;> exact hQ
theorem Wp.CL {c:aD} {x k n i m clock:N} {ā:A It} {seen:A N} {es:A (AV×AV×N)} {Q:dp} {v:A (C AV)} {b:A af} (hx:lX v x=G (.lU i)) (hi:af.at b i= .iter (.map m seen clock)) (hm:af.at b m= .mp es clock)
  (h0:(∀e∈es,seen.contains e.2.2=ν)->qK (bC c (pg c) (É b) [] ā (v.set k (G (.aK [.bool τ]))) (b++O n .dead)) Q)
  (h1: ∀e∈es,seen.contains e.2.2=false->qK (bC c (pg c) (É b) [] ā (v.set k (G (.aK [.bool ν,e.1,e.2.1]))) (b.set i (.iter (.map m (seen++ [e.2.2]) clock))++O n .dead)) Q):Wp c (.CL x k n ā) Q v b:=
 ⟨i,m,clock,seen,es,hx,hi,hm,h0,h1⟩
section
variable {c:aD} {Q:dp} {v:A (C AV)} {b:A af}
@[simp] theorem acR:Wp c .skip Q v b=Q .normal v b:=rfl
@[simp] theorem adE:Wp c .ret Q v b=Q .ret v b:=rfl
@[simp] theorem Zd:Wp c .stuck Q v b=Ρ:=rfl
@[simp] theorem adF (l:A tq):Wp c (.own l) Q v b=Q .normal (jB l v b).1 (jB l v b).2:=rfl
@[simp] theorem acS (i:N):Wp c (.exit i) Q v b=Q (.exit i) v b:=rfl
@[simp] theorem Uv (x y:IR):Wp c (.seq x y) Q v b=Wp c x (EF (Wp c y) Q) v b:=rfl
@[simp] theorem Ze (i:N) (x:IR):Wp c (.block i x) Q v b=Wp c x (fun e v b=>Q (leave i e) v b) v b:=rfl
@[simp] theorem adG (l:A (N×A N×A It)):Wp c (.alt l) Q v b=(l≠ []/\ ∀x∈l,qK (bC c (pg c) (É b) x.2.1 x.2.2 v (b++O x.1 .dead)) Q):=rfl
@[simp] theorem adH (n:N) (kl:A N) (ā:A It):Wp c (.jC n kl ā) Q v b=qK (bC c (pg c) (É b) kl ā v (b++O n .dead)) Q:=rfl
@[simp] theorem acT (x:N) (p q:IR):Wp c (.cond x p q) Q v b=AD (lX v x) (Wp c p Q (v.set x ο) b) (Wp c q Q (v.set x ο) b):=rfl
@[simp] theorem Qr (W:dp->A (C AV)->A af->Prop):EF W Q .normal v b=W Q v b:=rfl
@[simp] theorem WX (W:dp->A (C AV)->A af->Prop):EF W Q .ret v b=Q .ret v b:=rfl
@[simp] theorem Uw (W:dp->A (C AV)->A af->Prop) (i:N):EF W Q (.exit i) v b=Q (.exit i) v b:=rfl
@[simp] theorem WY:qK (G (v,b)) Q=Q .normal v b:=rfl
@[simp] theorem WZ:qK ο Q=Ρ:=rfl
@[simp] theorem Ux (x:Bool) (p q:Prop):AD (some (.bool x)) p q=if x=true then p else q:=by cases x <;> simp [AD]
@[simp] theorem Qs (i:N):leave i .normal= .normal:=rfl
@[simp] theorem W0 (i:N):leave i .ret= .ret:=rfl
@[simp] theorem Uy (i j:N):leave i (.exit j)=if j=i then .normal else .exit j:=rfl
@[simp] theorem Sx (own:ι) (res:A PE) (n:N) (r:AV×A af):CN c own res n r .normal v b=(KJ c own res n v b=G r):=rfl
@[simp] theorem Zf (own:ι) (res:A PE) (n:N) (r:AV×A af):CN c own res n r .ret v b=(KJ c own res n v b=G r):=rfl
@[simp] theorem W4 (p q:ι):KE (G (.bool p)) (G (.bool q))=G (.bool (p&&q)):=by cases p <;> rfl
@[simp] theorem Zg (p q:ι):WW (G (.bool p)) (G (.bool q))=G (.bool (p || q)):=by cases p <;> rfl
@[simp] theorem W5 (x:C AV):KE (G (.bool ν)) x=x:=rfl
@[simp] theorem Uz (x:C AV):KE (G (.bool τ)) x=G (.bool τ):=rfl
@[simp] theorem Zh (x:C AV):WW (G (.bool ν)) x=G (.bool ν):=rfl
@[simp] theorem W6 (x:C AV):WW (G (.bool τ)) x=x:=rfl
@[simp] theorem afl (a:AV) (f:AV->C AV):Hc (G a) f=f a:=rfl
@[simp] theorem afm (a d:AV) (f:AV->AV->C AV):Jb (G a) (G d) f=f a d:=rfl
@[simp] theorem afn (a d e:AV) (f:AV->AV->AV->C AV):PD (G a) (G d) (G e) f=f a d e:=rfl
@[simp] theorem adI (a:AV):th (G (a,.none))=G a:=rfl
end
attribute [simp] cM sR Cr o0 sT ji AV.isNil jB KI MT bC qJ bQ dV x8 vK vL KG Jf Jg cP ED fQ oB Km Kl Cn Zb look ew dx nI Up KJ MW mS Qg MU ee CW s9 tc fU vM gx lB jA bp ev gH kv Tr.get dy.on asks xI mJ nA Aq rK kA oT oU c9 linked MH j0 rJ eG ow iI xL et kz uD nD xK jg fv gX xJ MG eR rI iV fr xH Co partOf elems je jc dX lu dw uE isZero uC vE mK Cp Cq bu ky eqFields eqItems both fg AV.plain ak AV.flat flatAll oS oA Ks oz vF dO bc cI nC aX D6 AV.hand lx AV.under aA forget b9 fw c8 gE bytesOf byteOf lV D4 D5 Ko Kq dK rL AV.Ul AV.differ fh lr AV.apart fq
attribute [simp] List.getElem?_cons_zero
@[simp] theorem W7 (ty a:N) (v:Ϗ):nF (.store ty (.tmp a) (.const v))= [a]:=rfl
@[simp] theorem W8 (ty a b:N):nF (.store ty (.tmp a) (.tmp b))= [a,b]:=rfl
@[simp] theorem W9 (ty a f:N):nF (.store ty (.tmp a) (.func f))= [a]:=rfl
@[simp] theorem PF (cs:A AV) (off:N) (v:A AV):du (.agg cs) off v=if off+É v<=É cs/\ak v=ν then G (.agg (ab cs off v)) else .none:=rfl
@[simp] theorem PG (k:Β) (n:Int) (k':Β) (n':Int):du (.int k n) 0 [.int k' n']=G (.int k' n'):=rfl
@[simp] theorem PH (a b:A ό):du (.str a) 0 [.str b]=G (.str b):=rfl
@[simp] theorem M9 (a b:ι):du (.bool a) 0 [.bool b]=G (.bool b):=rfl
@[simp] theorem Xa (a:C AV) (l:A (C AV)):lX (a::l) 0=a:=rfl
@[simp] theorem Xb (a:C AV) (l:A (C AV)) (n:N):lX (a::l) (n+1)=lX l n:=rfl
@[simp] theorem acU (a:af) (l:A af):af.at (a::l) 0=a:=rfl
@[simp] theorem acV (a:af) (l:A af) (n:N):af.at (a::l) (n+1)=af.at l n:=rfl
@[simp] theorem adJ (n:Nat):af.at [] n= .dead:=by simp [af.at]
@[simp] theorem UA  :(AV.any).cO=false:=rfl
@[simp] theorem Xc  :(AV.any).cells= [(AV.any)]:=rfl
@[simp] theorem Zi (bs:A af)  :ft bs (AV.any)=G (AV.any):=rfl
@[simp] theorem UB  :(AV.jZ).cO=true:=rfl
@[simp] theorem Xd  :(AV.jZ).cells= [(AV.jZ)]:=rfl
@[simp] theorem Zj (bs:A af)  :ft bs (AV.jZ)=G (AV.jZ):=rfl
@[simp] theorem UC (k:Β) (n:Int):(AV.int k n).cO=true:=rfl
@[simp] theorem Xe (k:Β) (n:Int):(AV.int k n).cells= [(AV.int k n)]:=rfl
@[simp] theorem Zk (bs:A af) (k:Β) (n:Int):ft bs (AV.int k n)=G (AV.int k n):=rfl
@[simp] theorem Sy (b:ι):(AV.bool b).cO=true:=rfl
@[simp] theorem UD (b:ι):(AV.bool b).cells= [(AV.bool b)]:=rfl
@[simp] theorem Xf (bs:A af) (b:ι):ft bs (AV.bool b)=G (AV.bool b):=rfl
@[simp] theorem PI (c:aD) (ty:ω) (y:AV) (b:ι):jf c ty .neq (AV.bool b) y=(bu c 20 ty (AV.bool b) y).map fun b=> .bool (!b):=by unfold jf;rfl
@[simp] theorem UE (s:A ό):(AV.str s).cO=true:=rfl
@[simp] theorem Xg (s:A ό):(AV.str s).cells= [(AV.str s)]:=rfl
@[simp] theorem Zl (bs:A af) (s:A ό):ft bs (AV.str s)=G (AV.str s):=rfl
@[simp] theorem UF (cs:A AV):(AV.agg cs).cO=false:=rfl
@[simp] theorem Xh (cs:A AV):(AV.agg cs).cells=cs:=rfl
@[simp] theorem UG  :(AV.any).leaves= [AV.any]:=rfl
@[simp] theorem UH  :(AV.jZ).leaves= [AV.jZ]:=rfl
@[simp] theorem UI (k:Β) (n:Int):(AV.int k n).leaves= [AV.int k n]:=rfl
@[simp] theorem Sz (b:ι):(AV.bool b).leaves= [AV.bool b]:=rfl
@[simp] theorem UJ (s:A ό):(AV.str s).leaves= [AV.str s]:=rfl
@[simp] theorem UK (vs:A AV):(AV.aK vs).leaves= [AV.aK vs]:=rfl
@[simp] theorem SB  :(AV.cn).leaves= [AV.cn]:=rfl
@[simp] theorem UL (k off:N):(AV.ptr k off).leaves= [AV.ptr k off]:=rfl
@[simp] theorem SC (k n i off:N):(AV.cZ k n i off).leaves= [AV.cZ k n i off]:=rfl
@[simp] theorem SD (cs:A AV):(AV.dB cs).leaves= [AV.dB cs]:=rfl
@[simp] theorem UM (nl:C ι) (sz:N) (es:A AV):(AV.ah nl sz es).leaves= [AV.ah nl sz es]:=rfl
@[simp] theorem SE (nl:C ι):(AV.cG nl).leaves= [AV.cG nl]:=rfl
@[simp] theorem UN (k n:N):(AV.aC k n).leaves= [AV.aC k n]:=rfl
@[simp] theorem Xi (f:ώ) (a b:A AV):(AV.fn f a b).leaves= [AV.fn f a b]:=rfl
@[simp] theorem SF  :(AV.er).leaves= [AV.er]:=rfl
@[simp] theorem UO (b:ι):(AV.il b).leaves= [AV.il b]:=rfl
@[simp] theorem UP (t:ω) (k:Β) (n:Int):(AV.mG t k n).leaves= [AV.mG t k n]:=rfl
@[simp] theorem UQ (k:N) (s:Site) (env:A AV):(AV.gG k s env).leaves= [AV.gG k s env]:=rfl
@[simp] theorem Zm (bs:A af) (cs:A AV):ft bs (AV.agg cs)=if ak cs=ν then G (AV.agg cs) else (dO bs cs).map .agg:=by simp only [ft];cases ak cs <;> rfl
@[simp] theorem UR (cs:A AV):(AV.agg cs).leaves=if ak cs=ν then [] else bc cs:=by simp only [AV.leaves];cases ak cs <;> rfl
@[simp] theorem Qt (c:aD) (ty:ω) (y:AV) (cs:A AV):jf c ty .eql (AV.agg cs) y=(bu c 20 ty (AV.agg cs) y).map .bool:=by unfold jf;rfl
@[simp] theorem Qu (c:aD) (ty:ω) (y:AV) (cs:A AV):jf c ty .neq (AV.agg cs) y=(bu c 20 ty (AV.agg cs) y).map fun b=> .bool (!b):=by unfold jf;rfl
@[simp] theorem UT (vs:A AV):(AV.aK vs).cO=false:=rfl
@[simp] theorem Xj (vs:A AV):(AV.aK vs).cells= [(AV.aK vs)]:=rfl
@[simp] theorem Zn (bs:A af) (vs:A AV):ft bs (AV.aK vs)=G (AV.aK vs):=rfl
@[simp] theorem Qv (c:aD) (ty:ω) (y:AV) (vs:A AV):jf c ty .eql (AV.aK vs) y=(bu c 20 ty (AV.aK vs) y).map .bool:=by unfold jf;rfl
@[simp] theorem Qw (c:aD) (ty:ω) (y:AV) (vs:A AV):jf c ty .neq (AV.aK vs) y=(bu c 20 ty (AV.aK vs) y).map fun b=> .bool (!b):=by unfold jf;rfl
@[simp] theorem SG  :(AV.cn).cO=true:=rfl
@[simp] theorem UU  :(AV.cn).cells= [(AV.cn)]:=rfl
@[simp] theorem Xk (bs:A af)  :ft bs (AV.cn)=G (AV.cn):=rfl
@[simp] theorem PJ (c:aD) (ty:ω) (y:AV)  :jf c ty .eql (AV.cn) y=(bu c 20 ty (AV.cn) y).map .bool:=by unfold jf;rfl
@[simp] theorem PK (c:aD) (ty:ω) (y:AV)  :jf c ty .neq (AV.cn) y=(bu c 20 ty (AV.cn) y).map fun b=> .bool (!b):=by unfold jf;rfl
@[simp] theorem UW (k off:N):(AV.ptr k off).cO=true:=rfl
@[simp] theorem Xl (k off:N):(AV.ptr k off).cells= [(AV.ptr k off)]:=rfl
@[simp] theorem Zo (bs:A af) (k off:N):ft bs (AV.ptr k off)=G (AV.ptr k off):=rfl
@[simp] theorem Qx (c:aD) (ty:ω) (y:AV) (k off:N):jf c ty .eql (AV.ptr k off) y=(bu c 20 ty (AV.ptr k off) y).map .bool:=by unfold jf;rfl
@[simp] theorem Qy (c:aD) (ty:ω) (y:AV) (k off:N):jf c ty .neq (AV.ptr k off) y=(bu c 20 ty (AV.ptr k off) y).map fun b=> .bool (!b):=by unfold jf;rfl
@[simp] theorem SH (k n i off:N):(AV.cZ k n i off).cO=true:=rfl
@[simp] theorem UX (k n i off:N):(AV.cZ k n i off).cells= [(AV.cZ k n i off)]:=rfl
@[simp] theorem Xm (bs:A af) (k n i off:N):ft bs (AV.cZ k n i off)=G (AV.cZ k n i off):=rfl
@[simp] theorem SI (cs:A AV):(AV.dB cs).cO=true:=rfl
@[simp] theorem UY (cs:A AV):(AV.dB cs).cells= [(AV.dB cs)]:=rfl
@[simp] theorem Xn (bs:A af) (cs:A AV):ft bs (AV.dB cs)=G (AV.dB cs):=rfl
@[simp] theorem UZ (nl:C ι) (sz:N) (es:A AV):(AV.ah nl sz es).cO=true:=rfl
@[simp] theorem Xo (nl:C ι) (sz:N) (es:A AV):(AV.ah nl sz es).cells= [(AV.ah nl sz es)]:=rfl
@[simp] theorem Zp (bs:A af) (nl:C ι) (sz:N) (es:A AV):ft bs (AV.ah nl sz es)=G (AV.ah nl sz es):=rfl
@[simp] theorem Qz (c:aD) (ty:ω) (y:AV) (nl:C ι) (sz:N) (es:A AV):jf c ty .eql (AV.ah nl sz es) y=(bu c 20 ty (AV.ah nl sz es) y).map .bool:=by unfold jf;rfl
@[simp] theorem SJ (nl:C ι):(AV.cG nl).cO=true:=rfl
@[simp] theorem U0 (nl:C ι):(AV.cG nl).cells= [(AV.cG nl)]:=rfl
@[simp] theorem Xp (bs:A af) (nl:C ι):ft bs (AV.cG nl)=G (AV.cG nl):=rfl
@[simp] theorem U1 (k n:N):(AV.aC k n).cO=true:=rfl
@[simp] theorem Xq (k n:N):(AV.aC k n).cells= [(AV.aC k n)]:=rfl
@[simp] theorem Xr (f:ώ) (first caps:A AV):(AV.fn f first caps).cO=true:=rfl
@[simp] theorem Zq (f:ώ) (first caps:A AV):(AV.fn f first caps).cells= [(AV.fn f first caps)]:=rfl
@[simp] theorem acW (bs:A af) (f:ώ) (first caps:A AV):ft bs (AV.fn f first caps)=G (AV.fn f first caps):=rfl
@[simp] theorem SK  :(AV.er).cO=true:=rfl
@[simp] theorem U2  :(AV.er).cells= [(AV.er)]:=rfl
@[simp] theorem Xs (bs:A af)  :ft bs (AV.er)=G (AV.er):=rfl
@[simp] theorem U3 (b:ι):(AV.il b).cO=true:=rfl
@[simp] theorem U4 (t:ω) (k:Β) (n:Int):(AV.mG t k n).cO=true:=rfl
@[simp] theorem Xt (b:ι):(AV.il b).cells= [(AV.il b)]:=rfl
@[simp] theorem Xu (t:ω) (k:Β) (n:Int):(AV.mG t k n).cells= [(AV.mG t k n)]:=rfl
@[simp] theorem Zr (bs:A af) (b:ι):ft bs (AV.il b)=G (AV.il b):=rfl
@[simp] theorem Zs (bs:A af) (t:ω) (k:Β) (n:Int):ft bs (AV.mG t k n)=G (AV.mG t k n):=rfl
@[simp] theorem U5 (k:N) (s:Site) (env:A AV):(AV.gG k s env).cO=true:=rfl
@[simp] theorem Xv (k:N) (s:Site) (env:A AV):(AV.gG k s env).cells= [AV.gG k s env]:=rfl
@[simp] theorem Zt (bs:A af) (k:N) (s:Site) (env:A AV):ft bs (AV.gG k s env)=G (AV.gG k s env):=rfl
@[simp] theorem Zu (bs:A af) (k n:N):ft bs (.aC k n)=match af.at bs k with | .sl _ sz es=>if n=É es then G (.ah .none sz es) else .none | _=> .none:=rfl
@[simp] theorem Zv (c:aD) (ty:ω) (op:BinOp) (k k':Β) (a b:Int):jf c ty op (.int k a) (.int k' b)=match op with | .shl=>nA .shl k a b | .shr=>nA .shr k a b | op=>if k=k' then mJ op k a b else none:=rfl
@[simp] theorem Zw (c:aD) (ty:ω) (op:BinOp) (a b:A ό):jf c ty op (.str a) (.str b)=Aq op a b:=rfl
@[simp] theorem acX (k:Β) (n:Int):P4 .neg (.int k n)=mJ .sub k 0 n:=rfl
@[simp] theorem acY (k:Β) (n:Int):P4 .xor (.int k n)=mJ .xor k (if k.signed then -1 else k.max) n:=rfl
@[simp] theorem acZ (b:ι):P4 .not (.bool b)=G (.bool (!b)):=rfl
@[simp] theorem U6 (k k':Β) (n:Int):Hi k (.int k' n)=G (.int k (k.wrap n)):=rfl
@[simp] theorem Xw (s:A ό):MP (.str s)=G (.int .i64 (É s)):=rfl
@[simp] theorem U7 (s:A ό) (lo hi:C AV):rR (.str s) lo hi=match dw hi (É s) (É s) with | some h=>(match dw lo 0 h with | some l=>G (.str ((s.take h).drop l)) | none=>ο) | none=>none:=rfl
@[simp] theorem Zx  :(AV.any).soft=(AV.any):=rfl
@[simp] theorem Xx  :(AV.any).dR=(AV.any):=rfl
@[simp] theorem Zy  :(AV.jZ).soft=(AV.jZ):=rfl
@[simp] theorem Xy  :(AV.jZ).dR=(AV.jZ):=rfl
@[simp] theorem Zz (k:Β) (n:Int):(AV.int k n).soft=(AV.int k n):=rfl
@[simp] theorem Xz (k:Β) (n:Int):(AV.int k n).dR=(AV.int k n):=rfl
@[simp] theorem XA (b:ι):(AV.bool b).soft=(AV.bool b):=rfl
@[simp] theorem U8 (b:ι):(AV.bool b).dR=(AV.bool b):=rfl
@[simp] theorem ZA (s:A ό):(AV.str s).soft=(AV.str s):=rfl
@[simp] theorem XB (s:A ό):(AV.str s).dR=(AV.str s):=rfl
@[simp] theorem ZB (vs:A AV):(AV.aK vs).soft=(AV.aK vs):=rfl
@[simp] theorem XC (vs:A AV):(AV.aK vs).dR=(AV.aK vs):=rfl
@[simp] theorem XD  :(AV.cn).soft=(AV.cn):=rfl
@[simp] theorem U9  :(AV.cn).dR=(AV.cn):=rfl
@[simp] theorem ZC (k off:N):(AV.ptr k off).soft=(AV.ptr k off):=rfl
@[simp] theorem XE (k off:N):(AV.ptr k off).dR=(AV.ptr k off):=rfl
@[simp] theorem XF (k n i off:N):(AV.cZ k n i off).soft=(AV.cZ k n i off):=rfl
@[simp] theorem Va (k n i off:N):(AV.cZ k n i off).dR=(AV.cZ k n i off):=rfl
@[simp] theorem XG (cs:A AV):(AV.dB cs).soft=(AV.dB cs):=rfl
@[simp] theorem Vb (cs:A AV):(AV.dB cs).dR=(AV.dB cs):=rfl
@[simp] theorem ZD (nl:C ι) (sz:N) (es:A AV):(AV.ah nl sz es).soft=(AV.ah nl sz es):=rfl
@[simp] theorem XH (nl:C ι) (sz:N) (es:A AV):(AV.ah nl sz es).dR=(AV.ah nl sz es):=rfl
@[simp] theorem ZE (k n:N):(AV.aC k n).soft=(AV.aC k n):=rfl
@[simp] theorem XI (k n:N):(AV.aC k n).dR=(AV.aC k n):=rfl
@[simp] theorem ZF (k n lo hi:N):(AV.gO k n lo hi).soft=(AV.gO k n lo hi):=rfl
@[simp] theorem XJ (k n lo hi:N):(AV.gO k n lo hi).dR=(AV.gO k n lo hi):=rfl
@[simp] theorem ac0 (f:ώ) (a b:A AV):(AV.fn f a b).soft=(AV.fn f a b):=rfl
@[simp] theorem ZG (f:ώ) (a b:A AV):(AV.fn f a b).dR=(AV.fn f a b):=rfl
@[simp] theorem XK  :(AV.er).soft=(AV.er):=rfl
@[simp] theorem Vc  :(AV.er).dR=(AV.er):=rfl
@[simp] theorem ZH (b:ι):(AV.il b).soft=(AV.il b):=rfl
@[simp] theorem ZI (t:ω) (k:Β) (n:Int):(AV.mG t k n).soft=(AV.mG t k n):=rfl
@[simp] theorem XL (b:ι):(AV.il b).dR=(AV.il b):=rfl
@[simp] theorem XM (t:ω) (k:Β) (n:Int):(AV.mG t k n).dR=(AV.mG t k n):=rfl
@[simp] theorem ZJ (k:N) (s:Site) (env:A AV):(AV.gG k s env).soft=(AV.gG k s env):=rfl
@[simp] theorem XO (k:N) (s:Site) (env:A AV):(AV.gG k s env).dR=(AV.gG k s env):=rfl
@[simp] theorem XP (k:N):(AV.cg k).soft=(AV.cg k):=rfl
@[simp] theorem Vd (k:N):(AV.cg k).dR=(AV.cg k):=rfl
@[simp] theorem ZK (k:N):(AV.lU k).soft=(AV.lU k):=rfl
@[simp] theorem XQ (k:N):(AV.lU k).dR=(AV.lU k):=rfl
@[simp] theorem XR  :(AV.iv).soft=(AV.iv):=rfl
@[simp] theorem Ve  :(AV.iv).dR=(AV.iv):=rfl
@[simp] theorem ZL (cs:A AV):(AV.agg cs).soft= .agg (cs.map AV.dR):=rfl
@[simp] theorem XS (nl:C ι):(AV.cG nl).soft= .ah nl 0 []:=rfl
@[simp] theorem XT (cs:A AV):(AV.agg cs).dR= .agg cs:=rfl
@[simp] theorem Vf (nl:C ι):(AV.cG nl).dR= .ah nl 0 []:=rfl
@[simp] theorem XU (c:ό):(aq c).soft=aq c:=rfl
end Go.Am
namespace Go.Am
theorem wrap_i64 {x:Int} (h1: -9223372036854775808<=x) (h2:x<9223372036854775808):IntKind.i64.wrap x=x:=by
 have e:IntKind.i64.wrap x=if x%18446744073709551616≥9223372036854775808 then x%18446744073709551616-18446744073709551616 else x%18446744073709551616:=by simp [IntKind.wrap,IntKind.bits,IntKind.signed]
 rw [e];split <;> omega
theorem wrap_u8 {x:Int} (h1:0<=x) (h2:x<256):IntKind.u8.wrap x=x:=by simp only [IntKind.wrap,IntKind.bits,IntKind.signed,Ϫ];rw [Ζ (by simp)];omega
@[simp] theorem ZM (i n:N):Int.tmod (i:Int) (no_index (OfNat.ofNat n):Int)=((i%n:N):Int):=(Int.ofNat_tmod i n).symm
@[simp] theorem ac1 (i n:N):0<=(i:Int)%(no_index (OfNat.ofNat n):Int):=ϛ (i%n)
@[simp] theorem toNat_emod (i n:N):((i:Int)%(no_index (OfNat.ofNat n):Int)).toNat=i%n:=ϟ (i%n)
@[simp] theorem ac2 (i n:N):0<=(i:Int) / (no_index (OfNat.ofNat n):Int):=ϛ (i / n)
@[simp] theorem Vg (i n:N):((i:Int) / (no_index (OfNat.ofNat n):Int)).toNat=i / n:=ϟ (i / n)
theorem p9 {n:N} (h:n<=1000000000000):n<=xG:=by unfold xG;omega
theorem lg {n:N} (h:n<=1000000000000):n<=cx:=by unfold cx;omega
theorem lh {n:N} (h:n<=10000000):n<=oR:=by unfold oR;omega
theorem jM {n:Int} (h:n<=1000000000000):n<=(cx:Int):=by unfold cx;omega
section
variable (bs l:A af) (j:N) (x:af)
theorem fX {k:N} (h:k<É bs):af.at (bs++l) k=af.at bs k:=by simp only [af.at,H,Λ h]
@[simp] theorem eN:af.at (bs++l) (É bs+j)=af.at l j:=by simp only [af.at,List.getD_eq_getElem?_getD,List.getElem?_append_right (Nat.le_add_right _ _),Nat.add_sub_cancel_left]
@[simp] theorem Ak:af.at (bs++l) (É bs)=af.at l 0:=eN bs l 0
@[simp] theorem eo:(bs++l)[É bs+j]?=l[j]?:=by rw [List.getElem?_append_right (Nat.le_add_right _ _),Nat.add_sub_cancel_left]
@[simp] theorem Vh:(bs++l)[É bs]?=l[0]?:=eo bs l 0
@[simp] theorem dt:(bs++l).set (É bs+j) x=bs++l.set j x:=by rw [List.set_append_right _ _ (Nat.le_add_right _ _),Nat.add_sub_cancel_left]
@[simp] theorem xD:(bs++l).set (É bs) x=bs++l.set 0 x:=dt bs l 0 x
end
def dG (m:N) (sh:Hd):ι:=
 match sh.link with
 | some (_,_,k,_)=>decide (k<m)
 | none=>ν
@[simp] theorem Na (m:N) (o:ι) (t:C ω):dG m ⟨o,t,ο⟩=true:=rfl
@[simp] theorem PL (n:N) (o:ι) (t:C ω):fw n ⟨o,t,ο⟩=⟨o,t,ο⟩:=rfl
theorem tE {m n:N} (h:m<=n) {sh:Hd} (hl:dG m sh=ν):dG n sh=true:=by
 unfold dG at*
 split
 ·rename_i hs;rw [hs] at hl;simp only [ζ] at hl⊢;omega
 ·rfl
theorem yp {n:N} {sh:Hd} (hl:dG n sh=ν):fw n sh=sh:=by
 unfold dG at hl;unfold fw;split
 ·rename_i hs;rw [hs] at hl;simp only [ζ] at hl;rw [ϡ hl]
 ·rfl
def dA (m:N):A (AV×AV×N)->ι
 | []=>ν
 | e::r=>e.2.1.under m&&dA m r
@[simp] theorem SL (m:N):dA m []=true:=rfl
theorem vR {α:Type} {f:α->AV×AV×N} {m:N} (h: ∀x,(f x).2.1.under m=ν): ∀l:A α,dA m (l.map f)=ν
 | []=>rfl
 | a::l=>by simp only [U,dA,h,vR h l,Bool.and_true]
def shut (m:N):A af->ι
 | []=>ν
 | .var _ cs::r=>aA m cs&&shut m r
 | .mp es _::r=>dA m es&&shut m r
 | .sl sh _ _::r=>dG m sh&&shut m r
 | _::r=>shut m r
mutual
theorem ES {m n:N} (h:m<=n): ∀(v:AV),v.under m=true->v.under n=ν
 | .ptr k _,hu=>by simp only [AV.under,ζ] at hu⊢;omega
 | .cZ k _ _ _,hu=>by simp only [AV.under,ζ] at hu⊢;omega
 | .aC k _,hu=>by simp only [AV.under,ζ] at hu⊢;omega
 | .gO k _ _ _,hu=>by simp only [AV.under,ζ] at hu⊢;omega
 | .cg k,hu=>by simp only [AV.under,ζ] at hu⊢;omega
 | .lU k,hu=>by simp only [AV.under,ζ] at hu⊢;omega
 | .iv,_=>rfl
 | .agg cs,hu=>by simp only [AV.under] at hu⊢;exact eC h cs hu
 | .aK cs,hu=>by simp only [AV.under] at hu⊢;exact eC h cs hu
 | .fn f a b,hu=>by
  simp only [AV.under,I] at hu⊢;exact ⟨eC h a hu.1,eC h b hu.2⟩
 | .any,_=>rfl
 | .jZ,_=>rfl
 | .int _ _,_=>rfl
 | .bool _,_=>rfl
 | .str _,_=>rfl
 | .cn,_=>rfl
 | .dB _,_=>rfl
 | .ah _ _ _,_=>rfl
 | .cG _,_=>rfl
 | .er,_=>rfl
 | .il _,_=>rfl
 | .mG _ _ _,_=>rfl
 | .gG k _ env,hu=>by
  simp only [AV.under,I,ζ] at hu⊢;exact ⟨by omega,eC h env hu.2⟩
theorem eC {m n:N} (h:m<=n): ∀(l:A AV),aA m l=true->aA n l=ν
 | [],_=>rfl
 | v::r,hu=>by
  simp only [aA,I] at hu⊢;exact ⟨ES h v hu.1,eC h r hu.2⟩
end
theorem tF {n:N}: ∀{l:A AV},aA n l=true->l.map (forget n)=l
 | [],_=>rfl
 | v::r,h=>by
  simp only [aA,I] at h;simp only [U,forget,h.1,tF h.2]
theorem r8 {m n:N} (h:m<=n): ∀(l:A (AV×AV×N)),dA m l=true->dA n l=ν
 | [],_=>rfl
 | e::r,hu=>by
  simp only [dA,I] at hu⊢;exact ⟨ES h _ hu.1,r8 h r hu.2⟩
theorem pj {n:N}: ∀{l:A (AV×AV×N)},dA n l=true->l.map (c8 n)=l
 | [],_=>rfl
 | e::r,h=>by
  simp only [dA,I] at h;simp only [U,c8,forget,h.1,pj h.2]
theorem shut_map {m n:N} (hn:m<=n): ∀{bs:A af},shut m bs=true->bs.map (b9 n)=bs
 | [],_=>rfl
 | .var ty cs::r,h=>by
  simp only [shut,I] at h;simp only [U,b9,tF (eC hn cs h.1),shut_map hn h.2]
 | .sl sh sz es::r,h=>by
  simp only [shut,I] at h;simp only [U,b9,yp (tE hn h.1),shut_map hn h.2]
 | .dead::r,h=>by simp only [U,b9,shut_map hn (by simpa [shut] using h)]
 | .loop st::r,h=>by simp only [U,b9,shut_map hn (by simpa [shut] using h)]
 | .mp es clock::r,h=>by
  simp only [shut,I] at h;simp only [U,b9,pj (r8 hn es h.1),shut_map hn h.2]
 | .gone::r,h=>by simp only [U,b9,shut_map hn (by simpa [shut] using h)]
 | .iter o::r,h=>by simp only [U,b9,shut_map hn (by simpa [shut] using h)]
theorem eO (n:N): ∀(l m:A af),shut n (l++m)=(shut n l&&shut n m)
 | [],m=>rfl
 | .var ty cs::l,m=>by simp only [π,shut,eO n l m,ϖ]
 | .sl _ _ _::l,m=>by simp only [π,shut,eO n l m,ϖ]
 | .dead::l,m=>by simp only [π,shut,eO n l m]
 | .loop _::l,m=>by simp only [π,shut,eO n l m]
 | .mp _ _::l,m=>by simp only [π,shut,eO n l m,ϖ]
 | .gone::l,m=>by simp only [π,shut,eO n l m]
 | .iter _::l,m=>by simp only [π,shut,eO n l m]
theorem jN {m n:N} (h:m<=n): ∀{bs:A af},shut m bs=true->shut n bs=ν
 | [],_=>rfl
 | .var ty cs::l,hs=>by
  simp only [shut,I] at hs⊢;exact ⟨eC h cs hs.1,jN h hs.2⟩
 | .sl _ _ _::l,hs=>by
  simp only [shut,I] at hs⊢;exact ⟨tE h hs.1,jN h hs.2⟩
 | .dead::l,hs=>by simp only [shut] at hs⊢;exact jN h hs
 | .loop _::l,hs=>by simp only [shut] at hs⊢;exact jN h hs
 | .mp es _::l,hs=>by
  simp only [shut,I] at hs⊢;exact ⟨r8 h es hs.1,jN h hs.2⟩
 | .gone::l,hs=>by simp only [shut] at hs⊢;exact jN h hs
 | .iter _::l,hs=>by simp only [shut] at hs⊢;exact jN h hs
def qH (J:A af):Prop:= ∀n,shut n J=ν
theorem qH.app {J K:A af} (h:qH J) (k:qH K):qH (J++K):=fun n=>by rw [eO,h n,k n];rfl
theorem AG {n:N}: ∀{bs:A af} (k:N) {x:af},shut n bs=true->shut n [x]=true->shut n (bs.set k x)=ν
 | [],_,_,_,_=>rfl
 | b::r,0,x,h,hx=>by
  cases x <;> cases b <;> simp_all [shut]
 | b::r,k+1,x,h,hx=>by
  have:=fun (h:shut n r=ν)=>AG (bs:=r) k h hx;cases b <;> simp_all [shut]
theorem qH.set {J:A af} (h:qH J) (k:N) {x:af} (hx:qH [x]):qH (J.set k x):=fun n=>AG k (h n) (hx n)
def DH (x:BitVec 64):AV:= .int .u64 (x.toNat:Int)
section
variable (c:aD) (ty:ω) (x y:BitVec 64)
@[simp] theorem XV:(DH x).plain=true:=rfl
@[simp] theorem ZN:(DH x).flat=true:=rfl
@[simp] theorem Vi:(DH x).cO=true:=rfl
@[simp] theorem XW:(DH x).cells= [DH x]:=rfl
@[simp] theorem XX (n:N):(DH x).under n=true:=rfl
@[simp] theorem ZO (n:N) (bs:A af):(DH x).hand n bs=G (DH x):=rfl
@[simp] theorem ZP (bs:A af):ft bs (DH x)=G (DH x):=rfl
end
section
variable {α:Type} {f:α->AV}
theorem df (h: ∀x,(f x).plain=ν): ∀l:A α,ak (l.map f)=ν
 | []=>rfl
 | a::l=>by simp only [U,ak,h,df h l,Μ]
end
section
variable (l:A (BitVec 64))
end
@[simp] theorem L8 (n:N):forget n∘DH=DH:=rfl
section
variable (c:aD) (ty:ω) (x y:ό)
@[simp] theorem QA:(aq x).plain=true:=rfl
@[simp] theorem SM:(aq x).flat=true:=rfl
@[simp] theorem PN:(aq x).cO=true:=rfl
@[simp] theorem QB:(aq x).cells= [aq x]:=rfl
@[simp] theorem QC (n:N):(aq x).under n=true:=rfl
@[simp] theorem SO (n:N) (bs:A af):(aq x).hand n bs=G (aq x):=rfl
@[simp] theorem SP (bs:A af):ft bs (aq x)=G (aq x):=rfl
@[simp] theorem zP:byteOf (aq x)=some x:=by simp [aq,byteOf]
@[simp] theorem KR:du (aq x) 0 [aq y]=G (aq y):=rfl
end
section
variable (l:A ό)
@[simp] theorem Nb:bytesOf (l.map aq)=G l:=by
 induction l with
 | nil=>rfl
 | cons a l ih=>simp only [U,bytesOf,zP,ih]
theorem g9 {d:A ό} {i:N} (h:i<É d):d[i]?=G (d.getD i 0):=by simp [H,Γ h]
end
def zQ (n:N):AV:= .int .i64 (n:Int)
section
variable (x:N)
@[simp] theorem Vj:(zQ x).plain=true:=rfl
@[simp] theorem XY:(zQ x).flat=true:=rfl
@[simp] theorem SQ:(zQ x).cO=true:=rfl
@[simp] theorem Vk:(zQ x).cells= [zQ x]:=rfl
@[simp] theorem Vl (n:N):(zQ x).under n=true:=rfl
@[simp] theorem XZ (n:N) (bs:A af):(zQ x).hand n bs=G (zQ x):=rfl
@[simp] theorem X0 (bs:A af):ft bs (zQ x)=G (zQ x):=rfl
end
section
variable (l:A N)
end
end Go.Am
namespace Go.Am
section
variable {a b:Int}
theorem adK (h:a<=b):(a<=b)=Ϯ:=Ϡ h
theorem ZQ (h: ¬ a<=b):(a<=b)=Ρ:=ϗ h
theorem adL (h:a<b):(a<b)=Ϯ:=Ϡ h
theorem ZR (h: ¬ a<b):(a<b)=Ρ:=ϗ h
theorem adM (h:a=b):(a=b)=Ϯ:=Ϡ h
theorem ZS (h: ¬ a=b):(a=b)=Ρ:=ϗ h
end
section
variable {a b:N}
theorem adN (h:a<=b):(a<=b)=Ϯ:=Ϡ h
theorem ZT (h: ¬ a<=b):(a<=b)=Ρ:=ϗ h
theorem adO (h:a<b):(a<b)=Ϯ:=Ϡ h
theorem ZU (h: ¬ a<b):(a<b)=Ρ:=ϗ h
theorem adP (h:a=b):(a=b)=Ϯ:=Ϡ h
theorem ZV (h: ¬ a=b):(a=b)=Ρ:=ϗ h
end
theorem om:(∀{a b:Int},a<=b->(a<=b)=Ϯ)/\(∀{a b:Int},¬ a<=b->(a<=b)=Ρ)/\(∀{a b:Int},a<b->(a<b)=Ϯ)/\(∀{a b:Int},¬ a<b->(a<b)=Ρ)/\(∀{a b:Int},a=b->(a=b)=Ϯ)/\(∀{a b:Int},¬ a=b->(a=b)=Ρ)/\
  (∀{a b:N},a<=b->(a<=b)=Ϯ)/\(∀{a b:N},¬ a<=b->(a<=b)=Ρ)/\(∀{a b:N},a<b->(a<b)=Ϯ)/\(∀{a b:N},¬ a<b->(a<b)=Ρ)/\(∀{a b:N},a=b->(a=b)=Ϯ)/\(∀{a b:N},¬ a=b->(a=b)=Ρ)/\
  (∀{x:Int},-9223372036854775808<=x->x<9223372036854775808->IntKind.i64.wrap x=x)/\(∀{n:N},n<=1000000000000->n<=xG)/\(∀{n:N},n<=1000000000000->n<=cx)/\(∀{n:N},n<=10000000->n<=oR)/\(∀{n:Int},n<=1000000000000->n<=(cx:Int)):=
 ⟨adK,ZQ,adL,ZR,adM,ZS,adN,ZT,adO,ZU,adP,ZV,wrap_i64,p9,lg,lh,jM⟩
theorem j6 (c:ό):AV.int .u8 (c.toNat:Int)=aq c:=rfl
theorem qO: ∀l:A ό,lV (l.map aq)=G l
 | []=>rfl
 | a::l=>by
  have h:=a.toNat_lt;have h2:=qO l;simp only [U,aq,lV];rw [ϡ (by omega)];rw [h2];simp
end Go.Am
