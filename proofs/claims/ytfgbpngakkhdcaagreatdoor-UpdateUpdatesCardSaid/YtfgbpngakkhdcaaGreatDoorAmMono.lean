/- An operation of the abstract machine hangs on its operands and on the boxes that are .. -/
import Derived.Test.YtfgbpngakkhdcaaGreatDoorAmMap
import Derived.LoopN
open Array renaming all_eq_true_iff_forall_mem->μ,getD_eq_getD_getElem?->N,getElem?_eq_none->ο,getElem?_setIfInBounds->Δ,getElem?_setIfInBounds_ne->X,mem_append->Ξ,replicate->ψ
open Bool renaming false->R,true->J,and_eq_true->C,and_self->ω,eq_iff_iff->ϕ,false_and->κ,false_eq_true->O,false_or->θ,not_eq_true'->Μ,not_true->Τ,or_eq_true->ν,or_self->Ϙ
open Go renaming Oper->T,Operand->Ι,Program->Φ,TypeDesc->Χ,TypeId->υ,World->Θ,wpOpIn_mono->ό
open List renaming length->É,all_eq_true->U,cons_append->ϓ,getD_eq_getElem?_getD->Y,getElem?_append_left->χ,getElem?_cons_zero->γ,getElem?_eq_none->Ν,getElem?_set->Κ,getElem?_set_ne->Υ,length_append->Ϗ,length_cons->ϑ,length_nil->ϔ,length_set->Γ,map_congr_left->ύ,mem_append->Β,mem_cons->ϖ,mem_cons_of_mem->ξ,mem_cons_self->ε,mem_filter->ϊ,mem_filterMap->Ψ,mem_range->Λ,range->Ρ,rel_of_pairwise_cons->Ω,set_append_left->ϋ,set_comm->ώ
open Nat renaming add_zero->Ζ,le_refl->Ϛ,lt_or_ge->Η,mod_two_eq_zero_or_one->π,ne_of_lt->ϗ,zero_add->ι
open Option renaming none->W,some->D,getD_some->Ο,map_eq_some_iff->V,map_some->Α
open Option.some renaming injEq->η
open _root_ renaming Array->Z,Bool->δ,False->ϙ,List->H,Nat->M,Option->I,absurd->ζ,beq_iff_eq->ϐ,if_neg->ϒ,if_pos->Ε
set_option linter.all false
namespace Go.Am
def Sub (bs bs':H af):Prop:= ∀k,af.at bs k≠ .dead->af.at bs' k=af.at bs k
theorem Sub.var {bs bs':H af} (h:Sub bs bs') {k:M} {ty:υ} {cs:H AV} (hb:af.at bs k= .var ty cs):af.at bs' k= .var ty cs:=by rw [h k (by rw [hb];simp),hb]
theorem Sub.sl {bs bs':H af} (h:Sub bs bs') {k:M} {sh:Hd} {sz:M} {es:H AV} (hb:af.at bs k= .sl sh sz es):af.at bs' k= .sl sh sz es:=by rw [h k (by rw [hb];simp),hb]
def dy.soft:dy->Prop
 | .none=>True
 | .new _=>True
 | _=>ϙ
section
variable {bs bs':H af} (hs:Sub bs bs')
include hs
theorem j7 {x:AV} {p:M×H AV} (h:elems bs x=D p):elems bs' x=D p:=by
 unfold elems at h⊢;split at h
 ·exact h
 ·exact h
 ·split at h
  ·rename_i hb;rw [hs.sl hb];exact h
  ·cases h
 ·split at h
  ·rename_i hb;rw [hs.sl hb];exact h
  ·cases h
 ·cases h
mutual
theorem Ns: ∀{x y:AV},ft bs x=D y->ft bs' x=D y
 | .aC k n,y,h=>by
  simp only [ft] at h⊢;split at h
  ·rename_i hb;rw [hs.sl hb];exact h
  ·cases h
 | .gO k n lo hi,y,h=>by
  simp only [ft] at h⊢;split at h
  ·rename_i hb;rw [hs.sl hb];exact h
  ·cases h
 | .agg cs,y,h=>by
  simp only [ft] at h⊢;split at h
  ·exact h
  ·cases hl:dO bs cs with
   | none=>rw [hl] at h;cases h
   | some l=>rw [lJ hl,<-hl];exact h
 | .any,y,h=>h
 | .jZ,y,h=>h
 | .int _ _,y,h=>h
 | .bool _,y,h=>h
 | .str _,y,h=>h
 | .aK _,y,h=>h
 | .cn,y,h=>h
 | .ptr _ _,y,h=>h
 | .cZ _ _ _ _,y,h=>h
 | .dB _,y,h=>h
 | .ah _ _ _,y,h=>h
 | .cG _,y,h=>h
 | .fn _ _ _,y,h=>h
 | .er,y,h=>h
 | .il _,y,h=>h
 | .mG _ _ _,y,h=>h
 | .gG _ _ _,y,h=>h
 | .cg _,y,h=>h
 | .lU _,y,h=>h
 | .iv,y,h=>h
theorem lJ: ∀{l l':H AV},dO bs l=D l'->dO bs' l=D l'
 | [],l',h=>h
 | v::r,l',h=>by
  simp only [dO] at h⊢;split at h
  ·rename_i a l2 ha hl;rw [Ns ha,lJ hl];exact h
  ·cases h
end
theorem se {v:AV}: ∀{l:H AV},dK v bs l=true->dK v bs' l=J
 | [],_=>rfl
 | x::r,h=>by
  have here: ∀k,(rL v (af.at bs k)&&dK v bs r)=true->(rL v (af.at bs' k)&&dK v bs' r)=true:=fun k h=>by
   rw [C] at h⊢;refine ⟨?_,se h.2⟩;have h1:=h.1;rw [hs k (fun hd=>by rw [hd] at h1;cases h1)];exact h1
  cases x with
  | aC k n=>exact here k (by simpa only [dK] using h)
  | gO k n lo hi=>exact here k (by simpa only [dK] using h)
  | _=>simp only [dK] at h⊢;exact se h
theorem tO {k:δ} {v r:AV} {args:H AV} (h:cI k v args bs=D (r,.none)):cI k v args bs'=D (r,.none):=by
 unfold cI at h⊢;split at h
 ·rename_i hh
  have:(v.flat || !nC args || (k&&dK v bs' args))=true:=by rw [ν] at hh⊢;refine hh.imp_right fun h1=> ?_;rw [C] at h1⊢;exact ⟨h1.1,se hs h1.2⟩
  rw [this];exact h
 ·cases h
theorem E9 {x:AV} {p:H (AV×AV×M)} (h:dJ x bs=D p):dJ x bs'=D p:=by
 unfold dJ at h⊢;split at h
 ·exact h
 ·split at h
  ·rename_i hb;rw [hs _ (by rw [hb];simp),hb];exact h
  ·cases h
 ·cases h
theorem KX {i:I TI} {x r:AV} {id:M} {e:dy} (h:nD i x bs id=D (r,e)):nD i x bs' id=D (r,e):=by
 unfold nD at h⊢;split at h
 ·split at h
  ·exact h
  ·split at h
   ·rename_i hb;rw [hs _ (by rw [hb];simp),hb];exact h
   ·cases h
  ·cases h
 ·cases h
theorem KY {x r:AV} {e:dy} (h:oV x bs=D (r,e)):oV x bs'=D (r,e):=by
 unfold oV at h⊢;split at h
 ·split at h
  ·rename_i hb;rw [hs _ (by rw [hb];simp),hb];simp only;split at h
   ·rename_i h1 h2;rw [hs _ (by rw [h2];simp),h1,h2];exact h
   ·cases h
  ·cases h
 ·cases h
theorem HD {c:aD} {i:I TI} {x k r:AV} {ok:δ} {e:dy} (h:cv c i x k ok bs=D (r,e)):cv c i x k ok bs'=D (r,e):=by
 unfold cv at h⊢;split at h
 ·split at h
  ·split at h
   ·rename_i he;rw [E9 hs he];exact h
   ·cases h
  ·cases h
 ·cases h
omit hs in
theorem pE {c:aD} {i:I TI} {m k x r:AV} {e:dy} (h:aH c i m k x bs=D (r,e)): ¬ e.soft:=by
 unfold aH at h;split at h
 ·split at h
  ·split at h
   ·split at h
    ·split at h
     ·split at h
      ·split at h
       ·cases h;exact id
       ·cases h
      ·cases h;exact id
      ·cases h
     ·cases h
    ·cases h
   ·cases h
  ·cases h
 ·cases h
omit hs in
theorem zW {c:aD} {i:I TI} {m k r:AV} {e:dy} (h:j4 c i m k bs=D (r,e)): ¬ e.soft:=by
 unfold j4 at h;split at h
 ·split at h
  ·split at h
   ·split at h
    ·split at h
     ·split at h
      ·split at h
       ·cases h;exact id
       ·cases h
      ·split at h
       ·split at h
        ·split at h
         ·cases h;exact id
         ·cases h
        ·cases h
       ·cases h
      ·cases h
     ·cases h
    ·cases h
   ·cases h
  ·cases h
 ·cases h
omit hs in
theorem wU {m s x r:AV} {e:dy} (h:gI m s x bs=D (r,e)): ¬ e.soft:=by
 unfold gI at h;split at h
 ·split at h
  ·split at h
   ·split at h
    ·cases h;exact id
    ·cases h
   ·cases h
  ·cases h
 ·cases h
theorem Fa {x r:AV} {o:M} {e:dy} (h:ow x o bs=D (r,e)):ow x o bs'=D (r,e):=by
 unfold ow at h⊢;split at h
 ·exact h
 ·split at h
  ·rename_i hb;rw [hs.sl hb];exact h
  ·cases h
 ·exact h
 ·cases h
theorem Nt {i:I TI} {x r:AV} {e:dy} (h:oT i x bs=D (r,e)):oT i x bs'=D (r,e):=by
 unfold oT at h⊢;split at h
 ·split at h
  ·split at h
   ·rename_i hb;rw [hs.var hb];exact h
   ·cases h
  ·split at h
   ·rename_i hb;rw [hs.sl hb];exact h
   ·cases h
  ·exact h
  ·cases h
 ·cases h
theorem QL {d:Χ} {x r:AV} {e:dy} (h:rI d x bs=D (r,e)):rI d x bs'=D (r,e):=by
 unfold rI at h⊢;split at h
 ·exact h
 ·split at h
  ·rename_i ī;rw [j7 hs ī];exact h
  ·cases h
 ·exact h
 ·cases h
omit hs in
theorem tP {i:TI} {el:υ} {s r:AV} {xs:H AV} {id:M} {e:dy} (he:e.soft) (h:fr i el bs s xs id=D (r,e)):fr i el bs' s xs id=D (r,e):=by
 unfold fr at h⊢;split at h
 ·exact h
 ·exact h
 ·split at h
  ·split at h
   ·cases h;exact he.elim
   ·cases h
  ·cases h
 ·split at h
  ·split at h
   ·cases h;exact he.elim
   ·cases h
  ·cases h
 ·cases h
theorem HE {c:aD} {st xt:υ} {s x r:AV} {id:M} {e:dy} (he:e.soft) (h:iV c bs st xt s x id=D (r,e)):iV c bs' st xt s x id=D (r,e):=by
 unfold iV at h⊢;split at h
 ·split at h
  ·split at h
   ·split at h
    ·split at h
     ·rename_i ī;rw [j7 hs ī];simp only;split at h
      ·rename_i hc;rw [Ε hc];exact tP he h
      ·cases h
     ·cases h
    ·split at h
     ·split at h
      ·rename_i hc;rw [Ε hc];exact tP he h
      ·cases h
     ·cases h
    ·cases h
   ·cases h
  ·cases h
 ·cases h
omit hs in
theorem KZ {x r:AV} {str:δ} {e:dy} (h:xK x str bs=D (r,e)): ¬ e.soft:=by
 unfold xK at h;split at h
 ·split at h
  ·split at h <;> (cases h;exact fun h=>h)
  ·cases h
 ·cases h
omit hs in
theorem yI {c:aD} {i:I TI} {len:M} {ps:H (M×AV)} {id:M} {r:AV} {e:dy} (he:e.soft) (h:fv c i len ps id bs=D (r,e)):fv c i len ps id bs'=D (r,e):=by
 unfold fv gX at h⊢;split at h
 ·exact h
 ·split at h
  ·split at h
   ·cases h;exact he.elim
   ·cases h
  ·cases h
theorem Fb {c:aD} {src dst:I TI} {x r:AV} {id:M} {e:dy} (h:et c src dst x bs id=D (r,e)):et c src dst x bs' id=D (r,e):=by
 unfold et at h⊢;split at h
 ·split at h
  ·split at h
   ·rename_i hd hb;rw [hs.var hb,hd];exact h
   ·cases h
  ·split at h
   ·rename_i hd hb;rw [hs.var hb,hd];exact h
   ·cases h
  ·exact h
  ·exact h
  ·exact h
  ·exact h
  ·split at h
   ·split at h
    ·rename_i hd ī;rw [j7 hs ī,hd];exact h
    ·cases h
   ·cases h
  ·cases h
 ·cases h
theorem tQ {i:TI} {el:υ} {s r:AV} {xs:H AV} {id:M} {e:dy} (h:fr i el bs s xs id=D (r,e)):fr i el bs' s xs id=D (r,e):=by
 unfold fr at h⊢;split at h
 ·exact h
 ·exact h
 ·split at h
  ·rename_i hb;rw [hs.sl hb];exact h
  ·cases h
 ·split at h
  ·rename_i hb;rw [hs.sl hb];exact h
  ·cases h
 ·cases h
theorem HF {c:aD} {st xt:υ} {s x r:AV} {id:M} {e:dy} (h:iV c bs st xt s x id=D (r,e)):iV c bs' st xt s x id=D (r,e):=by
 unfold iV at h⊢;split at h
 ·split at h
  ·split at h
   ·split at h
    ·split at h
     ·rename_i ī;rw [j7 hs ī];simp only;split at h
      ·rename_i hc;rw [Ε hc];exact tQ hs h
      ·cases h
     ·cases h
    ·split at h
     ·split at h
      ·rename_i hc;rw [Ε hc];exact tQ hs h
      ·cases h
     ·cases h
    ·cases h
   ·cases h
  ·cases h
 ·cases h
theorem yJ {c:aD} {d:Χ} {x r:AV} {lo hi:I AV} {e:dy} (h:dX c d x lo hi bs=D (r,e)):dX c d x lo hi bs'=D (r,e):=by
 unfold dX at h⊢;split at h
 ·exact h
 ·exact h
 ·split at h
  ·rename_i hb;rw [hs.sl hb];exact h
  ·cases h
 ·split at h
  ·rename_i hb;rw [hs.sl hb];exact h
  ·cases h
 ·cases h
theorem HG {c:aD} {d:Χ} {x r:AV} {lo hi:I AV} {e:dy} (_:e.soft) (h:dX c d x lo hi bs=D (r,e)):dX c d x lo hi bs'=D (r,e):=yJ hs h
theorem HH {c:aD} {d:Χ} {x r:AV} {lo hi mx:I AV} {e:dy} (h:lu c d x lo hi mx bs=D (r,e)):lu c d x lo hi mx bs'=D (r,e):=by
 unfold lu at h⊢;split at h
 ·split at h
  ·rename_i ī hj;rw [j7 hs ī,hj];exact h
  ·cases h
 ·cases h
theorem zX {i:I TI} {x r:AV} {f:M} {e:dy} (h:c9 i x f bs=D (r,e)):c9 i x f bs'=D (r,e):=by
 unfold c9 at h⊢;split at h
 ·split at h
  ·split at h
   ·split at h
    ·cases h
    ·exact Fa hs h
   ·cases h
  ·cases h
 ·cases h
theorem zY {c:aD} {i:I TI} {x y r:AV} {e:dy} (h:eG c i x y bs=D (r,e)):eG c i x y bs'=D (r,e):=by
 unfold eG at h⊢;split at h
 ·split at h
  ·split at h
   ·rename_i hc;split at h
    ·rw [Ε hc];exact Fa hs h
    ·cases h
   ·cases h
  ·split at h
   ·split at h
    ·exact h
    ·split at h
     ·rename_i hb;rw [hs.sl hb];exact h
     ·cases h
    ·split at h
     ·rename_i hb;rw [hs.sl hb];exact h
     ·cases h
    ·cases h
   ·cases h
  ·cases h
 ·cases h
theorem Nu {c:aD} {st:υ} {d x r:AV} {e:dy} (he:e.soft) (h:xH c bs st d x=D (r,e)):xH c bs' st d x=D (r,e):=by
 unfold xH at h⊢;split at h
 ·split at h
  ·split at h
   ·split at h
    ·rename_i ī;rw [j7 hs ī];simp only;split at h
     ·rename_i hc;rw [Ε hc];unfold Co at h⊢;split at h
      ·split at h
       ·rename_i hb;rw [hs.sl hb];simp only;split at h
        ·rename_i hcc;rw [Ε hcc];split at h
         ·rename_i h0;rw [Ε h0];exact h
         ·cases h;exact he.elim
        ·cases h
       ·cases h
      ·exact h
     ·cases h
    ·cases h
   ·cases h
  ·cases h
 ·cases h
theorem Fe {c:aD} {b:Builtin} {ts:H υ} {xs:H AV} {id:M} {r:AV} {e:dy} (he:e.soft) (h:eR c b ts xs bs id=D (r,e)):eR c b ts xs bs' id=D (r,e):=by
 unfold eR at h⊢;split at h
 ·split at h
  ·split at h
   ·exact QL hs h
   ·cases h
  ·cases h
 ·split at h
  ·exact HE hs he h
  ·cases h
 ·exact h
 ·exact h
 ·split at h
  ·unfold D4 at h⊢;split at h
   ·exact h
   ·split at h
    ·rename_i hb;rw [hs.sl hb];exact h
    ·cases h
   ·cases h
  ·cases h
 ·split at h
  ·split at h
   ·unfold D5 at h⊢;split at h
    ·exact h
    ·split at h
     ·split at h
      ·rename_i es _ _ _ _;cases hb:lV es with
       | none=>rw [hb] at h;cases h
       | some s=>rw [hb] at h;cases h;exact he.elim
      ·cases h
     ·cases h
    ·cases h
   ·cases h
  ·cases h
 ·split at h
  ·exact Nu hs he h
  ·cases h
 ·cases h
theorem Jq {c:aD} {op:Op} {t:Env} {id:M} {r:AV} {e:dy} (he:e.soft) (h:gn c op t bs id=D (r,e)):gn c op t bs' id=D (r,e):=by
 cases op with
 | load ty a=>exact Nt hs h
 | store ty a x=>
  exfalso;simp only [gn] at h;unfold oU at h;split at h
  ·split at h
   ·split at h
    ·split at h
     ·split at h
      ·cases h;exact he
      ·cases h
     ·cases h
    ·split at h
     ·split at h
      ·split at h
       ·rename_i el _;split at h
        ·obtain ⟨b,rfl⟩:=lW h;exact he
        cases hst:du el _ (ev t x).cells with
        | none=>rw [hst] at h;cases h
        | some y=>rw [hst] at h;cases h;exact he
       ·cases h
      ·cases h
     ·cases h
    ·cases h
   ·cases h
  ·cases h
 | convert src dst x=>exact Fb hs h
 | buildSlice ty len ps=>exact yI he h
 | next x str=>exact ζ he (KZ h)
 | slice ty x lo hi mx=>
  simp only [gn] at h⊢;split at h
  ·split at h
   ·exact HG hs he h
   ·exact HH hs h
  ·cases h
 | fieldAddr ty x f=>exact zX hs h
 | indexAddr ty x ix=>exact zY hs h
 | call k=>
  simp only [gn] at h⊢;split at h
  ·exact Fe hs he h
  ·cases h
 | makeFunc fn a b=>cases fn <;> exact h
 | lookup ty x k ok=>exact HD hs h
 | range ty x=>exact KX hs h
 | mapUpdate ty m k x=>exact ζ he (pE h)
 | insert ty m k x=>exact ζ he (pE h)
 | mapEntry ty m k=>exact ζ he (zW h)
 | entryStore ty m s x=>exact ζ he (wU h)
 | entry x=>exact KY hs h
 | _=>exact h
theorem ye {c:aD} {cf:aQ} {op:Op} {t:Env} {id:M} {r:AV} {e:dy} (he:e.soft) (h:bB c cf op t bs id=D (r,e)):bB c cf op t bs' id=D (r,e):=by
 unfold bB at h⊢;split at h
 ·split at h
  ·split at h
   ·split at h
    ·exact h
    have all: ∀{v:AV} {b:H af},(D (v,dy.all b):Out)=D (r,e)->ϙ:=fun hx=>by cases hx;exact he
    have app: ∀{v:AV} {b:af},(D (v,dy.app b):Out)=D (r,e)->ϙ:=fun hx=>by cases hx;exact he
    have rH: ∀{v:AV} {b:M},(D (v,dy.rH b):Out)=D (r,e)->ϙ:=fun hx=>by cases hx;exact he
    unfold oA at h⊢;split at h
    ·split at h
     ·exact (all h).elim
     ·cases h
    unfold oz at h⊢;split at h
    ·split at h
     ·split at h
      ·exact (rH h).elim
      ·cases h
     ·split at h
      ·exact (all h).elim
      ·cases h
    unfold vF at h⊢;split at h
    ·rename_i l hl;rw [lJ hs hl];simp only;split at h
     ·split at h
      ·split at h
       ·split at h
        ·rename_i hp;rw [Ε hp];cases ĥ:cI (c.GO _) _ _ bs with
         | none=>rw [ĥ] at h;cases h
         | some p=>
          obtain ⟨p1,p2⟩:=p;rw [ĥ] at h;unfold cI at ĥ;split at ĥ
          ·cases ĥ;rw [tO hs (by unfold cI;rw [‹(_ || _)=J›])];exact h
          ·cases ĥ;exact (all h).elim
        ·cases h
       ·cases h
      ·split at h
       ·split at h
        ·rename_i hp;rw [Ε hp];cases ĥ:cI (c.GO _) _ _ bs with
         | none=>rw [ĥ] at h;cases h
         | some p=>
          obtain ⟨p1,p2⟩:=p;rw [ĥ] at h;unfold cI at ĥ;split at ĥ
          ·cases ĥ;rw [tO hs (by unfold cI;rw [‹(_ || _)=J›])];exact h
          ·cases ĥ;exact (all h).elim
        ·cases h
       ·split at h
        ·split at h
         ·exact (all h).elim
         ·exact (app h).elim
        ·split at h
         ·exact (all h).elim
         ·cases h
       ·cases h
     ·split at h
      ·exact (all h).elim
      ·cases h
    ·cases h
   ·split at h
    ·cases h;exact he.elim
    ·cases h
   ·cases h
  ·exact Jq hs he h
 ·exact Jq hs he h
end
theorem lK {t t':Env} {l:H Ι} (h: ∀x∈l,ev t x=ev t' x):ou t l=ou t' l:=ύ h
theorem vW {t t':Env} {l:H (M×Ι)} (h: ∀x∈l.map (·.2),ev t x=ev t' x):(l.map fun p=>(p.1,ev t p.2))=l.map fun p=>(p.1,ev t' p.2):=
 ύ fun p hp=>by rw [h p.2 (List.mem_map_of_mem hp)]
theorem uW {t t':Env} {x:I Ι} (h: ∀y∈x.toArray,ev t y=ev t' y):x.map (ev t)=x.map (ev t'):=by
 cases x with
 | none=>rfl
 | some x=>simp only [Α];rw [h x (by simp)]
theorem uX (c:aD) {op:Op} {t t':Env} (h: ∀x∈op.operands,ev t x=ev t' x) (bs:H af) (id:M):gn c op t bs id=gn c op t' bs id:=by
 cases op <;> simp only [Op.operands] at h
 case move x=>simp only [gn];rw [h x (by simp)]
 case assign x=>simp only [gn];rw [h x (by simp)]
 case pick x y z=>simp only [gn];rw [h x (by simp),h y (by simp),h z (by simp)]
 case box e x=>simp only [gn];rw [h x (by simp)]
 case build ty ps=>simp only [gn];rw [vW (fun x hx=>h x (by simpa using hx))]
 case buildSlice ty n ps=>simp only [gn];rw [vW (fun x hx=>h x (by simpa using hx))]
 case load ty x=>simp only [gn];rw [h x (by simp)]
 case store ty x y=>simp only [gn];rw [h x (by simp),h y (by simp)]
 case nilCheck x=>simp only [gn];rw [h x (by simp)]
 case makeInterface ty x=>simp only [gn];rw [h x (by simp)]
 case binOp o ty x y ty'=>simp only [gn];rw [h x (by simp),h y (by simp)]
 case unOp o ty x=>simp only [gn];rw [h x (by simp)]
 case convert s d x=>simp only [gn];rw [h x (by simp)]
 case makeFunc fn first caps=>
  cases fn <;> first
   | rfl
   | (simp only [gn];rw [lK (fun x hx=>h x (by simp at hx⊢;exact .inl hx)),lK (fun x hx=>h x (by simp at hx⊢;exact .inr hx))])
 case makeSlice ty x y=>simp only [gn];rw [h x (by simp),h y (by simp)]
 case slice ty x lo hi mx=>
  have h1:=uW (x:=lo) (fun y hy=>h y (by simp only [Ξ];exact .inl (.inl (.inr hy))));have h2:=uW (x:=hi) (fun y hy=>h y (by simp only [Ξ];exact .inl (.inr hy)));simp only [gn];rw [h x (by simp),h1,h2];cases mx with
  | none=>rfl
  | some m=>simp only;rw [h m (by simp)]
 case fieldAddr ty x f=>simp only [gn];rw [h x (by simp)]
 case field ty x f=>simp only [gn];rw [h x (by simp)]
 case indexAddr ty x y=>simp only [gn];rw [h x (by simp),h y (by simp)]
 case index ty x y=>simp only [gn];rw [h x (by simp),h y (by simp)]
 case extract x i=>simp only [gn];rw [h x (by simp)]
 case makeMap ty r=>simp only [gn];rw [uW h]
 case range ty x=>simp only [gn];rw [h x (by simp)]
 case next x str=>simp only [gn];rw [h x (by simp)]
 case lookup ty x k ok=>simp only [gn];rw [h x (by simp),h k (by simp)]
 case mapUpdate ty m k x=>simp only [gn];rw [h m (by simp),h k (by simp),h x (by simp)]
 case insert ty m k x=>simp only [gn];rw [h m (by simp),h k (by simp),h x (by simp)]
 case mapEntry ty m k=>simp only [gn];rw [h m (by simp),h k (by simp)]
 case entryStore ty m s x=>simp only [gn];rw [h m (by simp),h s (by simp),h x (by simp)]
 case entry x=>simp only [gn];rw [h x (by simp)]
 case call k=>
  obtain ⟨callee,args,ts⟩:=k;simp only [gn];rw [lK (fun x hx=>h x (by simp only [Call.operands,Ξ];exact .inr (by simpa using hx)))]
 all_goals rfl
theorem HI (c:aD) (cf:aQ) {op:Op} {t t':Env} (h: ∀x∈op.operands,ev t x=ev t' x) (bs:H af) (id:M):bB c cf op t bs id=bB c cf op t' bs id:=by
 unfold bB;split
 ·rename_i k;obtain ⟨callee,args,ts⟩:=k;simp only;cases callee with
  | value f=>simp only;rw [h f (by simp [Op.operands,Call.operands]),lK (fun x hx=>h x (by simp only [Op.operands,Call.operands,Ξ];exact .inr (by simpa using hx)))]
  | invoke r m=>exact uX c h bs id
  | builtin b=>exact uX c h bs id
 ·exact uX c h bs id
theorem Tr.set_comm {α:Type} (t:Tr α): ∀{i j:M} (x y:α),i≠j->(t.set i x).set j y=(t.set j y).set i x:=by
 induction t with
 | lf=>intro i j x y _;rfl
 | nd v l r ihl ihr=>
  intro i j x y h;cases i with
  | zero=>cases j with
   | zero=>exact ζ rfl h
   | succ j=>rcases π j with hj | hj <;> simp only [Tr.set,hj]
  | succ i=>cases j with
   | zero=>rcases π i with hi | hi <;> simp only [Tr.set,hi]
   | succ j=>
    rcases π i with hi | hi <;> rcases π j with hj | hj <;> simp only [Tr.set,hi,hj]
    ·rw [ihl x y (w9 (by omega) (by omega))]
    ·rw [ihr x y (w9 (by omega) (by omega))]
theorem Vm {t:Env} {d:I Tmp} {v:AV} {x:Ι} (h: ∀i,d=D i->x≠ .tmp i):ev (aP t d v) x=ev t x:=by
 cases d with
 | none=>rfl
 | some d=>
  cases x with
  | tmp i=>exact Tr.bK _ _ _ (fun e=>h d rfl (by rw [e]))
  | _=>rfl
theorem K0 (t:Env) {d d':I Tmp} (v v':AV) (h: ∀i,d=D i->d'≠D i):aP (aP t d v) d' v'=aP (aP t d' v') d v:=by
 cases d with
 | none=>rfl
 | some d=>
  cases d' with
  | none=>rfl
  | some d'=>exact Tr.set_comm t v v' (fun e=>h d rfl (by rw [e]))
theorem tR {c:aD} {cf:aQ} {ops:Z T} {x y:T} (h: ∀d,x.dst=D d->d∉y.looksAt ops) (t:Env) (v:AV) (bs:H af) (id:M):
  bB c cf y.op (aP t x.dst v) bs id=bB c cf y.op t bs id/\bh ops (aP t x.dst v) y.guard=bh ops t y.guard:=by
 refine ⟨HI c cf (fun z hz=>Vm (fun i hi e=> ?_)) bs id,?_⟩
 ·refine h i hi ?_;subst e;simp only [Oper.looksAt,Β,Ψ];exact .inl ⟨.tmp i,by simpa using hz,rfl⟩
 ·unfold bh;cases hg:y.guard with
  | none=>rfl
  | some p=>
   obtain ⟨j,want⟩:=p;simp only;cases hd:(ops[j]?).bind (·.dst) with
   | none=>rfl
   | some d=>
    simp only
    have:Tr.get AV.any (aP t x.dst v) d=Tr.get AV.any t d:=by
     cases hx:x.dst with
     | none=>rfl
     | some i=>refine Tr.bK _ _ _ (fun e=>h i hx ?_);subst e;simp only [Oper.looksAt,Β];exact .inr (by simp [hg,hd])
    rw [this]
end Go.Am
namespace Go.Am
theorem HJ {m:H M} {o:T} {a:M} (h:(Cs m o).testBit a=J): ∃e∈o.after,Region.binds .any e=J/\(a=e.on\/(m.getD e.on 0).testBit a=J):=by
 have key: ∀(l:H Edge) (s:M),(l.foldl (fun s e=>match Region.binds .any e with | true=>s ||| (2^e.on ||| m.getD e.on 0) | false=>s) s).testBit a=true->
   s.testBit a=J\/ ∃e∈l,Region.binds .any e=J/\(a=e.on\/(m.getD e.on 0).testBit a=J):=by
  intro l
  induction l with
  | nil=>intro s h;exact .inl h
  | cons e l ih=>
   intro s h;rw [List.foldl_cons] at h;rcases ih _ h with h1 | ⟨e',he',h2⟩
   ·split at h1
    ·rename_i hb;simp only [Nat.testBit_or,ν] at h1;rcases h1 with h1 | h1 | h1
     ·exact .inl h1
     ·refine .inr ⟨e,ε,hb,.inl ?_⟩;rw [Nat.testBit_two_pow] at h1;exact (by simpa using h1:e.on=a).symm
     ·exact .inr ⟨e,ε,hb,.inr h1⟩
    ·exact .inl h1
   ·exact .inr ⟨e',ξ _ he',h2⟩
 rcases key o.after.toList 0 h with h1 | ⟨e,he,h2⟩
 ·simp at h1
 ·exact ⟨e,by simpa using he,h2⟩
theorem yK: ∀(l:H T) (m:H M) (j:M),j<É m->(D7 l m).getD j 0=m.getD j 0
 | [],m,j,_=>rfl
 | o::r,m,j,h=>by
  simp only [D7];rw [yK r _ j (by simp;omega)];simp only [Y,χ h]
theorem Jr: ∀(l:H T) (m:H M) (k:M) (o:T),l[k]?=D o-> ∃m',(D7 l m).getD (É m+k) 0=Cs m' o/\ ∀j,j<É m+k->(D7 l m).getD j 0=m'.getD j 0
 | [],m,k,o,h=>by simp at h
 | p::r,m,0,o,h=>by
  simp at h;subst h;refine ⟨m,?_,fun j hj=>yK (p::r) m j hj⟩;simp only [D7,Ζ];rw [yK r _ (É m) (by simp)];simp [Y]
 | p::r,m,k+1,o,h=>by
  simp at h;obtain ⟨m',h1,h2⟩:=Jr r (m++ [Cs m p]) k o h;simp only [D7];simp only [Ϗ,ϑ,ϔ] at h1 h2;exact ⟨m',by rw [<-h1];congr 1;omega,fun j hj=>h2 j (by omega)⟩
theorem iL: ∀(l:H T) (k i:M) (o:T),dv l k=true->l[i]?=D o-> ∀e∈o.after,Region.binds .any e=true->e.on<k+i
 | [],k,i,o,_,h=>by simp at h
 | p::r,k,0,o,hb,h=>by
  simp at h;subst h;simp only [dv,C,U] at hb;intro e he Ł;have:=hb.1 e (by simpa using he);simpa [Ł] using this
 | p::r,k,i+1,o,hb,h=>by
  simp at h;simp only [dv,C] at hb;intro e he Ł;have:=iL r (k+1) i o hb.2 h e he Ł;omega
theorem nY {ops:Z T} (hb:dv ops.toList 0=J) {a i:M} {o:T} (ho:ops[i]?=D o) (h:ordered (fJ ops) a i=J): ∃e∈o.after,Region.binds .any e=J/\(a=e.on\/ordered (fJ ops) a e.on=J):=by
 have ho':ops.toList[i]?=D o:=by simpa using ho
 obtain ⟨m',h1,h2⟩:=Jr ops.toList [] i o ho';simp only [ϔ,ι] at h1 h2;unfold ordered fJ at h;rw [h1] at h;obtain ⟨e,he,Ł,h3⟩:=HJ h;refine ⟨e,he,Ł,h3.imp id (fun h3=> ?_)⟩;have hlt:=iL ops.toList 0 i o hb ho' e he Ł;unfold ordered fJ;rw [h2 e.on (by omega)];exact h3
theorem HK {ops:Z T} (hb:dv ops.toList 0=J): ∀(i a:M),i<ops.size->ordered (fJ ops) a i=true->a<i:=by
 intro i
 induction i using Nat.strongRecOn with
 | _ i ih=>
  intro a hi h;have ho:ops[i]?=D ops[i]:=by simp [hi]
  obtain ⟨e,he,Ł,h3⟩:=nY hb ho h;have hlt:=iL ops.toList 0 i ops[i] hb (by simp) e he Ł;rcases h3 with h3 | h3
  ·omega
  ·have:=ih e.on (by omega) a (by omega) h3;omega
theorem yL {ops:Z T} {b:H M} {o:T} {i:M}: ∀(l:H T) (j k:M) (p:T),sO ops b o i l j=true->l[k]?=D p->ordered b i (j+k)=J\/o.apart ops p=J
 | [],j,k,p,_,h=>by simp at h
 | q::r,j,0,p,hb,h=>by
  simp at h;subst h;simp only [sO,C,ν] at hb;exact hb.1
 | q::r,j,k+1,p,hb,h=>by
  simp at h;simp only [sO,C] at hb;have:=yL r (j+1) k p hb.2 h
  rwa [show j+1+k=j+(k+1) by omega] at this
theorem Ff {ops:Z T} {b:H M}: ∀(l:H T) (i k m:M) (o p:T),oW ops b l i=true->l[k]?=D o->k<m->l[m]?=D p->ordered b (i+k) (i+m)=J\/o.apart ops p=J
 | [],i,k,m,o,p,_,h,_,_=>by simp at h
 | q::r,i,0,m,o,p,hb,h,hlt,hp=>by
  simp at h;subst h;simp only [oW,C] at hb;cases m with
  | zero=>omega
  | succ m=>
   simp at hp;have:=yL r (i+1) m p hb.1.2 hp
   rwa [show i+1+m=i+(m+1) by omega] at this
 | q::r,i,k+1,m,o,p,hb,h,hlt,hp=>by
  simp at h;simp only [oW,C] at hb;cases m with
  | zero=>omega
  | succ m=>
   simp at hp;have:=Ff r (i+1) k m o p hb.2 h (by omega) hp
   rwa [show i+1+k=i+(k+1) by omega,show i+1+m=i+(m+1) by omega] at this
theorem yM {ops:Z T} {i j:M} (hj:j<ops.size) (hne:j≠i) (h1:ordered (fJ ops) i j=R) (h2:ordered (fJ ops) j i=R) (ha:alone ops i=J):qb ops j=true:=by
 have key: ∀n,j<n->Cu ops (fJ ops) i n=true->qb ops j=true:=by
  intro n
  induction n with
  | zero=>intro h;omega
  | succ n ih=>
   intro h hh;simp only [Cu,C] at hh;by_cases e:j=n
   ·subst e;have:(j==i)=false:=by simpa using hne
    simpa [this,h1,h2] using hh.1
   ·exact ih (by omega) hh.2
 exact key _ hj ha
theorem QN (id:M) (op:Op):id<=next id op:=by unfold next;split <;> omega
theorem K4 {id:M} {op:Op} (h:asks op=J):next id op=id+1:=by unfold next;rw [h]
theorem Js: ∀(l:H T) (i base:M),base<=bN l i base
 | _,0,base=>by cases ‹H T› <;> exact Ϛ _
 | [],i+1,base=>Ϛ _
 | o::r,i+1,base=>Nat.le_trans (QN base o.op) (Js r i _)
theorem Jt: ∀(l:H T) (a i base:M) (o:T),l[a]?=D o->asks o.op=true->a<i->bN l a base<bN l i base
 | [],a,i,base,o,h,_,_=>by simp at h
 | p::r,0,i,base,o,h,ha,hlt=>by
  simp at h;subst h;cases i with
  | zero=>omega
  | succ i=>simp only [bN];have:=Js r i (next base p.op);rw [K4 ha] at this⊢;omega
 | p::r,a+1,i,base,o,h,ha,hlt=>by
  simp at h;cases i with
  | zero=>omega
  | succ i=>exact Jt r a i _ o h ha (by omega)
theorem tS {b:H M} {i:M}: ∀(l:H T) (j id a:M) (o:T),l[a]?=D o->asks o.op=true->ordered b (j+a) i=false->bN l a id∈dC b i l j id
 | [],j,id,a,o,h,_,_=>by simp at h
 | p::r,j,id,0,o,h,ha,ho=>by
  simp at h;subst h;simp only [Ζ] at ho;simp [dC,ha,ho,bN]
 | p::r,j,id,a+1,o,h,ha,ho=>by
  simp at h;have ih:=tS r (j+1) (next id p.op) a o h ha (by rwa [show j+1+a=j+(a+1) by omega]);simp only [dC,bN];split
  ·exact ξ _ ih
  ·exact ih
theorem pF: ∀(l:H M) (bs:H af),(bp l bs).length=É bs
 | [],bs=>rfl
 | k::r,bs=>by simp only [bp];rw [pF r];simp
theorem cA: ∀(l:H M) (bs:H af) (j:M),(bp l bs)[j]?=if j∈l/\j<É bs then D .dead else bs[j]?
 | [],bs,j=>by simp [bp]
 | k::r,bs,j=>by
  simp only [bp];rw [cA r];simp only [Γ,ϖ,Κ];by_cases h1:j∈r
  ·simp [h1];split <;> simp_all
  ·by_cases h2:k=j
   ·subst h2;by_cases h3:k<É bs <;> simp [h1,h3]
   ·have: ¬ j=k:=fun e=>h2 e.symm;simp [h1,h2,this]
theorem vX {l:H M} {k:M} (h:k∈l) (bs:H af) (x:af):bp l (bs.set k x)=bp l bs:=by
 apply List.ext_getElem?;intro j;rw [cA,cA,Γ,Κ];by_cases e:k=j
 ·subst e;by_cases h3:k<É bs <;> simp [h,h3]
 ·simp [e]
theorem dZ (l:H M) (bs:H af):Sub (bp l bs) bs:=fun k hk=>by
 simp only [af.at,Y] at hk⊢;rw [cA] at hk⊢;by_cases h:k∈l/\k<É bs
 ·rw [Ε h] at hk;simp at hk
 ·rw [ϒ h]
theorem Nv [Kn] {P:Φ} {cf:aQ} (h:rZ P cf):rZ P (sR cf) where
 fn:=fun f xs bs r bs' hr=>by
  unfold sR at hr;split at hr
  ·rename_i f' heq;cases heq;split at hr
   ·rename_i v hf;cases hr;exact h.fn _ _ _ _ _ hf
   ·rename_i v x l hf;obtain ⟨h1,h2⟩:=h.fn _ _ _ _ _ hf;refine ⟨h1,fun g w vs hm hx=>(h2 g w vs hm hx).mono fun e w' ⟨u,g',he,Ő,hl,hfr,hr'⟩=> ?_⟩
    have hho:handOver ([]:H af).length ⟨start 0 [],x::l⟩ v=D (r,bs'):=by unfold handOver;exact hr
    obtain ⟨g'',k1,k2,k3,k4⟩:=tC hm (s:=⟨start 0 [],x::l⟩) Ő hl hfr hr' hho;exact ⟨u,g'',he,k1,k2,k3,k4⟩
   ·cases hr
  ·exact h.fn _ _ _ _ _ hr
 gG:=fun k s env xs bs r bs' hr=>by
  unfold sR at hr;exact h.gG _ _ _ _ _ _ _ hr
theorem pG [Kn] {P:Φ} {cf:aQ} (h:rZ P cf): ∀b,rZ P (cM cf b)
 | true=>h
 | false=>Nv h
theorem QO {c:aD} {cf:aQ} {op:Op} {t:Env} {bs bs':H af} (hs:Sub bs bs') (hl:É bs=É bs') (hv:cQ op=J) {id:M} {v:AV} {x:af} (h:bB c cf op t bs id=D (v,.app x)):bB c cf op t bs' id=D (v,.app x):=by
 unfold bB at h⊢;split at h
 ·split at h
  ·split at h
   ·split at h
    ·split at h <;> cases h
    ·unfold oA at h⊢;split at h
     ·split at h <;> cases h
     ·unfold oz at h⊢;split at h
      ·split at h
       ·split at h <;> cases h
       ·split at h <;> cases h
      unfold vF at h⊢;split at h
      ·rename_i l hl2;rw [lJ hs hl2];simp only;split at h
       ·split at h
        ·split at h
         ·split at h
          ·unfold cI at h;split at h <;> cases h
          ·cases h
         ·cases h
        ·split at h
         ·split at h
          ·unfold cI at h;split at h <;> cases h
          ·cases h
         ·rename_i Ŋ;split at h
          ·rename_i hfr;split at h
           ·cases h
           ·rename_i hno;rw [<-hl];exact h
          ·split at h <;> cases h
         ·cases h
       ·split at h <;> cases h
      ·cases h
   ·split at h <;> cases h
   ·cases h
  ·rename_i k hk;exfalso;unfold cQ at hv;simp only at hv
   first
   | (cases hv;done)
   | (split at hv
      ·rename_i f hf;exact hk f hf
      ·cases hv)
 ·rename_i hk;exfalso;unfold cQ at hv;split at hv
  ·rename_i k;exact hk k rfl
  ·cases hv
section
variable {c:aD} {cf:aQ} {ops:Z T} {base:M}
theorem sf {i:M} {o:T} {s s':St} (Ď:alone ops i=R) (h:aI c cf ops base i o s=D s'):
  (bh ops s.t o.guard=D R/\s'={t:=aP s.t o.dst (.aK []),b:=s.b})\/
  (bh ops s.t o.guard=D J/\ ∃v,(bB c (cM cf (bg c ops i o.op)) o.op s.t (bF ops base i s.b) (bN ops.toList i base)=D (v,.none)/\cF c ops i o.op s.t=J/\s'={t:=aP s.t o.dst v,b:=s.b})\/
   ∃x,asks o.op=J/\s.b[bN ops.toList i base]?=D .dead/\bB c (cM cf (bg c ops i o.op)) o.op s.t (bF ops base i s.b) (bN ops.toList i base)=D (v,.new x)/\s'={t:=aP s.t o.dst v,b:=s.b.set (bN ops.toList i base) x})\/
  (bh ops s.t o.guard=D J/\ ∃v k x,bB c (cM cf (bg c ops i o.op)) o.op s.t (bF ops base i s.b) (bN ops.toList i base)=D (v,.upd k x)/\((bq ops i o.op=J/\sP o.op x=J)/\cF c ops i o.op s.t=J)/\((iz ops i).all fun p=>fQ k (s.t.get .any p))=J/\s'={t:=aP s.t o.dst v,b:=s.b.set k x})\/
  (bh ops s.t o.guard=D J/\ ∃v x,bB c (cM cf (bg c ops i o.op)) o.op s.t (bF ops base i s.b) (bN ops.toList i base)=D (v,.app x)/\bg c ops i o.op=J/\((eS ops i).all fun p=>o0 s.b.length (s.t.get .any p))=J/\s'={t:=aP s.t o.dst v,b:=s.b++ [x]})\/
  (bh ops s.t o.guard=D J/\ ∃v k,bB c (cM cf (bg c ops i o.op)) o.op s.t (bF ops base i s.b) (bN ops.toList i base)=D (v,.rH k)/\fR c ops i o.op=J/\((eS ops i).all fun p=>sT k (s.t.get .any p))=J/\s'={t:=aP s.t o.dst v,b:=s.b.set k .gone}):=by
 unfold aI at h;split at h
 ·rename_i hw;rw [Ď] at h;simp only at h;split at h
  ·rename_i v hd;split at h
   ·rename_i Ĉ;cases h;exact .inr (.inl ⟨hw,v,.inl ⟨hd,Ĉ,rfl⟩⟩)
   ·cases h
  ·rename_i v x hd;split at h
   ·rename_i ha ď;cases h;exact .inr (.inl ⟨hw,v,.inr ⟨x,ha,ď,hd,rfl⟩⟩)
   ·cases h
  ·rename_i v k x hd;split at h
   ·rename_i Ā;cases h;rw [C,C,C] at Ā;exact .inr (.inr (.inl ⟨hw,v,k,x,hd,Ā.1,Ā.2,rfl⟩))
   ·cases h
  ·rename_i v x hd;split at h
   ·rename_i Ā;cases h;rw [C] at Ā;exact .inr (.inr (.inr (.inl ⟨hw,v,x,hd,Ā.1,Ā.2,rfl⟩)))
   ·cases h
  ·rename_i v k hd;split at h
   ·rename_i Ā;cases h;rw [C] at Ā;exact .inr (.inr (.inr (.inr ⟨hw,v,k,hd,Ā.1,Ā.2,rfl⟩)))
   ·cases h
  ·cases h
 ·rename_i hw;cases h;exact .inl ⟨hw,rfl⟩
 ·cases h
theorem vY {i:M} {o:T} {s s':St} (Ď:alone ops i=R) (h:aI c cf ops base i o s=D s') (hn: ¬ (bh ops s.t o.guard=D J/\ ∃v k,bB c (cM cf (bg c ops i o.op)) o.op s.t (bF ops base i s.b) (bN ops.toList i base)=D (v,.rH k)/\fR c ops i o.op=J/\((eS ops i).all fun p=>sT k (s.t.get .any p))=J/\s'={t:=aP s.t o.dst v,b:=s.b.set k .gone})):
  (bh ops s.t o.guard=D R/\s'={t:=aP s.t o.dst (.aK []),b:=s.b})\/
  (bh ops s.t o.guard=D J/\ ∃v,(bB c (cM cf (bg c ops i o.op)) o.op s.t (bF ops base i s.b) (bN ops.toList i base)=D (v,.none)/\cF c ops i o.op s.t=J/\s'={t:=aP s.t o.dst v,b:=s.b})\/
   ∃x,asks o.op=J/\s.b[bN ops.toList i base]?=D .dead/\bB c (cM cf (bg c ops i o.op)) o.op s.t (bF ops base i s.b) (bN ops.toList i base)=D (v,.new x)/\s'={t:=aP s.t o.dst v,b:=s.b.set (bN ops.toList i base) x})\/
  (bh ops s.t o.guard=D J/\ ∃v k x,bB c (cM cf (bg c ops i o.op)) o.op s.t (bF ops base i s.b) (bN ops.toList i base)=D (v,.upd k x)/\((bq ops i o.op=J/\sP o.op x=J)/\cF c ops i o.op s.t=J)/\((iz ops i).all fun p=>fQ k (s.t.get .any p))=J/\s'={t:=aP s.t o.dst v,b:=s.b.set k x})\/
  (bh ops s.t o.guard=D J/\ ∃v x,bB c (cM cf (bg c ops i o.op)) o.op s.t (bF ops base i s.b) (bN ops.toList i base)=D (v,.app x)/\bg c ops i o.op=J/\((eS ops i).all fun p=>o0 s.b.length (s.t.get .any p))=J/\s'={t:=aP s.t o.dst v,b:=s.b++ [x]}):=by
 rcases sf Ď h with h | h | h | h | h
 ·exact .inl h
 ·exact .inr (.inl h)
 ·exact .inr (.inr (.inl h))
 ·exact .inr (.inr (.inr h))
 ·exact ζ h hn
theorem yN {b:H M} {i p:M}: ∀(l:H T) (j:M),p∈oX ops b i l j-> ∃k o,l[k]?=D o/\gd ops (j+k) o.op=D p/\(j+k==i || ordered b i (j+k) || ordered b (j+k) i)=R
 | [],_,h=>by cases h
 | o::r,j,h=>by
  simp only [oX] at h;split at h
  ·rename_i q h1 h2;rcases List.mem_cons.1 h with rfl | h
   ·exact ⟨0,o,rfl,h2,h1⟩
   ·obtain ⟨k,o',k1,k2,k3⟩:=yN r (j+1) h;exact ⟨k+1,o',k1,by rw [show j+(k+1)=j+1+k by omega];exact k2,by rw [show j+(k+1)=j+1+k by omega];exact k3⟩
  ·obtain ⟨k,o',k1,k2,k3⟩:=yN r (j+1) h;exact ⟨k+1,o',k1,by rw [show j+(k+1)=j+1+k by omega];exact k2,by rw [show j+(k+1)=j+1+k by omega];exact k3⟩
theorem Fg {b:H M} {i p:M}: ∀(l:H T) (j k:M) (o:T),l[k]?=D o->gd ops (j+k) o.op=D p->(j+k==i || ordered b i (j+k) || ordered b (j+k) i)=false->p∈oX ops b i l j
 | [],_,k,_,h,_,_=>by simp at h
 | x::r,j,0,o,h,h2,h3=>by
  simp only [γ,η] at h;subst h;simp only [Ζ] at h2 h3;simp only [oX,h3,h2];exact ε
 | x::r,j,k+1,o,h,h2,h3=>by
  have:=Fg r (j+1) k o (by simpa using h) (by rw [show j+1+k=j+(k+1) by omega];exact h2) (by rw [show j+1+k=j+(k+1) by omega];exact h3);simp only [oX];split
  ·exact ξ _ this
  ·exact this
theorem si {b:H M} {i:M} {op:Op}: ∀(l:H T) (j k:M) (o:T),sQ ops b i op l j=true->l[k]?=D o->(j+k==i || ordered b i (j+k) || ordered b (j+k) i || jz ops (j+k) op o.op)=J
 | [],_,k,_,_,h=>by simp at h
 | x::r,j,0,o,h,h2=>by
  simp only [γ,η] at h2;subst h2;simp only [sQ,C] at h;exact h.1
 | x::r,j,k+1,o,h,h2=>by
  simp only [sQ,C] at h;have:=si r (j+1) k o h.2 (by simpa using h2);rw [show j+(k+1)=j+1+k by omega];exact this
theorem mX {op:Op} {j q:M} (h:gd ops j op=D q): ∃p,dD op=D p/\iW ops j p=D q:=by
 unfold gd at h;split at h
 ·rename_i p hp;exact ⟨p,hp,h⟩
 ·cases h
theorem yO {op:Op} {p:M} (k2:dD op=D p):blind op=R/\isLen op=false:=by
 unfold dD at k2;split at k2
 ·exact ⟨rfl,rfl⟩
 ·exact ⟨rfl,rfl⟩
 ·cases k2
theorem AB {i:M} {op:Op} (h:bq ops i op=J) {p:M} (hp:p∈iz ops i):(nF op).contains p=false:=by simp only [bq,C] at h;obtain ⟨k,o,k1,k2,k3⟩:=yN ops.toList 0 hp;have h1:=si ops.toList 0 k o h.1.2 k1;rw [k3,θ] at h1;obtain ⟨p0,hp0,_⟩:=mX k2;obtain ⟨hb,hl⟩:=yO hp0;unfold jz at h1;rw [hb,hl,k2] at h1;simpa using h1
theorem yP {j q:M}: ∀(l:H T) (n k:M) (o:T),nG ops j q l n=true->l[k]?=D o->(o.dst !=D q || n+k==j || ordered (fJ ops) j (n+k) || ordered (fJ ops) (n+k) j)=J
 | [],_,k,_,_,h=>by simp at h
 | x::r,n,0,o,h,h2=>by
  simp only [γ,η] at h2;subst h2;simp only [nG,C] at h;exact h.1
 | x::r,n,k+1,o,h,h2=>by
  simp only [nG,C] at h;have:=yP r (n+1) k o h.2 (by simpa using h2);rw [show n+(k+1)=n+1+k by omega];exact this
theorem AU {j q:M} (h:nG ops j q ops.toList 0=J) {a:M} {oa:T} (ā:ops[a]?=D oa) (hne:a≠j) (h1:ordered (fJ ops) j a=R) (h2:ordered (fJ ops) a j=R):oa.dst≠D q:=by
 intro hd;have:=yP ops.toList 0 a oa h (by simpa using ā);rw [ι,h1,h2,hd] at this;have hb:(a==j)=false:=by simpa using hne
 rw [hb] at this;simp at this
theorem j8 {i a:M} {op:Op} {oa:T} (h:bq ops i op=J) (ha:ops[a]?=D oa) (hne:a≠i) (Š:ordered (fJ ops) i a=R) (š:ordered (fJ ops) a i=R) (t:Env) (v:AV) (k:M):((iz ops i).all fun p=>fQ k ((aP t oa.dst v).get .any p))=(iz ops i).all fun p=>fQ k (t.get .any p):=by
 simp only [bq,C] at h;have h2:=h.2;rw [U] at h2;rw [ϕ,U,U]
 have key: ∀p∈iz ops i,(aP t oa.dst v).get .any p=t.get .any p:=fun p hp=>by
  have h3:=h2 p hp;have h4:=AU h3 ha hne Š š;cases hd:oa.dst with
  | none=>rfl
  | some d=>have hne:d≠p:=fun e=>h4 (by rw [hd,e]);simp only [aP];exact Tr.bK _ _ _ hne
 exact ⟨fun hh p hp=>by rw [<-key p hp];exact hh p hp,fun hh p hp=>by rw [key p hp];exact hh p hp⟩
theorem jr {ms:H M} {bs:H af} {k j:M} (x:af) (h:j≠k):af.at (bp ms (bs.set k x)) j=af.at (bp ms bs) j:=by simp only [af.at,Y];rw [cA,cA,Γ,Υ (Ne.symm h)]
theorem vZ {ms:H M} {bs:H af} {k:M} {ty:υ} {cs:H AV} (h: ∀sh sz es,af.at bs k≠ .sl sh sz es) (sh:Hd) (sz:M) (es:H AV):af.at (bp ms (bs.set k (.var ty cs))) k≠ .sl sh sz es/\af.at (bp ms bs) k≠ .sl sh sz es:=by
 have h':=h sh sz es;simp only [af.at,Y] at h'⊢;rw [cA,cA,Γ];constructor
 ·split
  ·simp
  ·by_cases hk:k<É bs
   ·simp [hk]
   ·simp [hk]
 ·split
  ·simp
  ·exact h'
theorem K5 {op:Op} (h:cP op=J) {t:Env} {bs:H af} {id:M} {v:AV} {e:dy} (hd:bB c cf op t bs id=D (v,e)): ∀k ty cs,e= .upd k (.var ty cs)-> ∃ty' ĸ,af.at bs k= .var ty' ĸ:=by
 cases op <;> simp only [cP,O] at h;intro k ty cs he;subst he;simp only [bB,gn] at hd;unfold oU at hd;split at hd
 ·split at hd
  ·split at hd
   ·split at hd
    ·rename_i ty' ĸ hb;split at hd
     ·cases hd;exact ⟨_,_,hb⟩
     ·cases hd
    ·cases hd
   ·split at hd
    ·split at hd
     ·split at hd
      ·split at hd
       ·obtain ⟨_,hd⟩:=lW hd;cases hd
       rw [V] at hd;obtain ⟨_,_,hd⟩:=hd;cases hd
      ·cases hd
     ·cases hd
    ·cases hd
   ·cases hd
  ·cases hd
 ·cases hd
theorem K6 {op:Op} (h:cP op=J) {t:Env} {bs bs':H af} (hs:Sub bs bs') {id:M} {v:AV} {k:M} {ty:υ} {cs:H AV} (hd:bB c cf op t bs id=D (v,.upd k (.var ty cs))):bB c cf op t bs' id=D (v,.upd k (.var ty cs)):=by
 cases op <;> simp only [cP,O] at h;simp only [bB,gn] at hd⊢;unfold oU at hd⊢;split at hd
 ·split at hd
  ·rename_i Œ;rw [Ε Œ];split at hd
   ·rename_i k' off;split at hd
    ·rename_i ty' ĸ hb;rw [hs.var hb];exact hd
    ·cases hd
   ·split at hd
    ·split at hd
     ·split at hd
      ·split at hd
       ·obtain ⟨_,hd⟩:=lW hd;cases hd
       rw [V] at hd;obtain ⟨_,_,hd⟩:=hd;cases hd
      ·cases hd
     ·cases hd
    ·cases hd
   ·cases hd
  ·cases hd
 ·cases hd
theorem Nw {op:Op} (h:e9 op=J) {t:Env} {bs bs':H af} (hs:Sub bs bs') {id:M} {r:AV×dy} (hd:bB c cf op t bs id=D r):bB c cf op t bs' id=D r:=by
 obtain ⟨v,e⟩:=r;unfold e9 at h;split at h
 ·simp only [bB,gn,eR] at hd⊢;split at hd
  ·exact HF hs hd
  ·cases hd
 ·simp only [bB,gn] at hd⊢;split at hd
  ·exact yJ hs hd
  ·cases hd
 ·cases h
theorem K7 {d:Χ} {x:AV} {ms:H M} {bs:H af} {k:M} {ty:υ} {cs:H AV} (h: ∀sh sz es,af.at bs k≠ .sl sh sz es):rI d x (bp ms (bs.set k (.var ty cs)))=rI d x (bp ms bs):=by
 have he:elems (bp ms (bs.set k (.var ty cs))) x=elems (bp ms bs) x:=by
  unfold elems;cases x with
  | aC k' n=>
   simp only;by_cases hk:k'=k
   ·subst hk;have h2:=vZ (ms:=ms) (ty:=ty) (cs:=cs) h;split
    ·rename_i sh sz es hb;exact ζ hb (h2 sh sz es).1
    ·split
     ·rename_i sh sz es hb;exact ζ hb (h2 sh sz es).2
     ·rfl
   ·rw [jr _ hk]
  | gO k' n lo hi=>
   simp only;by_cases hk:k'=k
   ·subst hk;have h2:=vZ (ms:=ms) (ty:=ty) (cs:=cs) h;split
    ·rename_i sh sz es hb;exact ζ hb (h2 sh sz es).1
    ·split
     ·rename_i sh sz es hb;exact ζ hb (h2 sh sz es).2
     ·rfl
   ·rw [jr _ hk]
  | _=>rfl
 unfold rI;rw [he]
theorem HL {d:Χ} {x:AV} {lo hi:I AV} {bs bs':H af} (h1: ∀k n,x≠ .aC k n) (h2: ∀k n lo hi,x≠ .gO k n lo hi):dX c d x lo hi bs'=dX c d x lo hi bs:=by
 unfold dX;split
 ·rfl
 ·rfl
 ·exact ζ rfl (h1 _ _)
 ·exact ζ rfl (h2 _ _ _ _)
 ·rfl
theorem Fh {d:Χ} {x:AV} {lo hi:I AV} {bs:H af} (h1: ∀k n,x≠ .aC k n) (h2: ∀k n lo hi,x≠ .gO k n lo hi) {v:AV} {k:M} {y:af} (h:dX c d x lo hi bs=D (v,.upd k y)):ϙ:=by
 unfold dX at h;split at h
 ·split at h
  ·rw [V] at h;obtain ⟨l,_,h⟩:=h;cases h
  ·cases h
 ·split at h
  ·split at h
   ·rw [V] at h;obtain ⟨l,_,h⟩:=h;cases h
   ·cases h
  ·cases h
 ·exact ζ rfl (h1 _ _)
 ·exact ζ rfl (h2 _ _ _ _)
 ·cases h
theorem AW {op o:Op} {mj:M} (hm:jz ops mj op o=J) (hb:blind o=R) {t:Env} {ms:H M} {bs:H af} {k:M} {x:af} (hx:sP op x=J) (hv:cP op=true-> ∃ty' ĸ,af.at bs k= .var ty' ĸ) (hc: ∀p,dD o=D p->fQ k (t.get .any p)=J) (id:M):
  bB c cf o t (bp ms (bs.set k x)) id=bB c cf o t (bp ms bs) id:=by
 unfold jz at hm;rw [hb,θ,ν] at hm;rcases hm with hm | hm
 ·rw [C] at hm;obtain ⟨hm,hst⟩:=hm
  have hns: ∀sh sz es,af.at bs k≠ .sl sh sz es:=by obtain ⟨ty',ĸ,hv⟩:=hv hst;intro sh sz es e;rw [hv] at e;cases e
  obtain ⟨ty,cs,rfl⟩: ∃ty cs,x= .var ty cs:=by
   cases x with
   | var ty cs=>exact ⟨ty,cs,rfl⟩
   | sl sh sz es=>cases op <;> simp only [cP,O] at hst;cases hx
   | dead=>cases hx
   | loop st=>cases hx
   | mp es clock=>cases hx
   | gone=>cases hx
   | iter o=>cases hx
  unfold isLen at hm;split at hm
  ·simp only [bB,gn,eR];split
   ·split
    ·exact K7 hns
    ·rfl
   ·rfl
  ·cases hm
 ·cases ł:gd ops mj o with
  | none=>rw [ł] at hm;cases hm
  | some q0=>
   obtain ⟨p,hl,_⟩:=mX ł;have Ę:=hc p hl;unfold dD at hl;split at hl
   ·cases hl;simp only [bB,gn,ev];unfold oT;split
    ·split
     ·rename_i k' off hp;rw [hp] at Ę;have:k'≠k:=by simpa [fQ,oB] using Ę
      rw [jr _ this]
     ·rename_i k' n j off hp;rw [hp] at Ę;have:k'≠k:=by simpa [fQ,oB] using Ę
      rw [jr _ this]
     ·rfl
     ·rfl
    ·rfl
   ·cases hl;rename_i ty lo hi;simp only [bB,gn]
    have hq:(∀k n,ev t (.tmp p)≠ .aC k n)/\ ∀k n lo hi,ev t (.tmp p)≠ .gO k n lo hi:=by
     simp only [ev];constructor
     ·intro k n h;rw [h] at Ę;cases Ę
     ·intro k n lo hi h;rw [h] at Ę;cases Ę
    generalize ev t (.tmp p)=y at hq;split
    ·exact HL hq.1 hq.2
    ·rfl
   ·cases hl
theorem HM {op o:Op} {mj:M} (hm:jz ops mj op o=J) (hb:blind o=R) {t:Env} {bs:H af} {k:M} (hc: ∀p,dD o=D p->fQ k (t.get .any p)=J) {cf:aQ} {id:M} {v:AV} {k':M} {y:af} (h:bB c cf o t bs id=D (v,.upd k' y)):(cP o || e9 o)=false:=by
 unfold jz at hm;rw [hb,θ,ν] at hm;rcases hm with hm | hm
 ·rw [C] at hm;have hm:=hm.1;unfold isLen at hm;split at hm
  ·rfl
  ·cases hm
 ·cases ł:gd ops mj o with
  | none=>rw [ł] at hm;cases hm
  | some q0=>
   obtain ⟨p,hl,_⟩:=mX ł;have Ę:=hc p hl;unfold dD at hl;split at hl
   ·rfl
   ·cases hl;rename_i ty lo hi;exfalso;simp only [bB,gn] at h
    have hq:(∀k n,ev t (.tmp p)≠ .aC k n)/\ ∀k n lo hi,ev t (.tmp p)≠ .gO k n lo hi:=by
     simp only [ev];constructor
     ·intro k n h;rw [h] at Ę;cases Ę
     ·intro k n lo hi h;rw [h] at Ę;cases Ę
    generalize ev t (.tmp p)=y at hq h;split at h
    ·exact Fh hq.1 hq.2 h
    ·cases h
   ·cases hl
theorem AX {op o:Op} {mj:M} (hm:jz ops mj op o=J) (hb:blind o=R):asks o=R/\cQ o=false:=by
 unfold jz at hm;rw [hb,θ,ν] at hm;rcases hm with hm | hm
 ·rw [C] at hm;have hm:=hm.1;unfold isLen at hm;split at hm
  ·exact ⟨rfl,rfl⟩
  ·cases hm
 ·cases ł:gd ops mj o with
  | none=>rw [ł] at hm;cases hm
  | some q0=>
   obtain ⟨p,hl,_⟩:=mX ł;unfold dD at hl;split at hl
   ·exact ⟨rfl,rfl⟩
   ·exact ⟨rfl,rfl⟩
   ·cases hl
theorem iY {c:aD} {o:Op} (h:cQ o=R):Cv c o=false:=by
 cases o with
 | call k=>
  obtain ⟨ce,as,ts⟩:=k;cases ce with
  | value f=>simp [cQ] at h
  | _=>rfl
 | _=>rfl
theorem yf {c:aD} {o:Op} (h:Cv c o=J):cQ o=true:=by
 cases hc:cQ o with
 | true=>rfl
 | false=>rw [iY hc] at h;cases h
theorem Fi {c:aD} {ops:Z T}: ∀(l:H T) (j k:M) (o:T),l[k]?=D o->alone ops (j+k)=false->gZ c ops (j+k) o.op=true->sS c ops l j=J
 | [],_,k,_,h,_,_=>by simp at h
 | x::r,j,0,o,h,h2,h3=>by
  simp only [γ,η] at h;subst h;simp only [Ζ] at h2 h3;simp [sS,h2,h3]
 | x::r,j,k+1,o,h,h2,h3=>by
  have:=Fi r (j+1) k o (by simpa using h) (by rw [show j+1+k=j+(k+1) by omega];exact h2) (by rw [show j+1+k=j+(k+1) by omega];exact h3);simp [sS,this]
theorem xh {c:aD} {ops:Z T} {a:M} {oa:T} (ā:ops[a]?=D oa) (h2:alone ops a=R) (h3:gZ c ops a oa.op=J):xN c ops=true:=
 Fi ops.toList 0 a oa (by simpa using ā) (by simpa using h2) (by simpa using h3)
theorem AY {ops:Z T}: ∀(l:H T) (j k:M) (o:T),l[k]?=D o->alone ops (j+k)=false->bq ops (j+k) o.op=true->oY ops l j=J
 | [],_,k,_,h,_,_=>by simp at h
 | x::r,j,0,o,h,h2,h3=>by
  simp only [γ,η] at h;subst h;simp only [Ζ] at h2 h3;simp [oY,h2,h3]
 | x::r,j,k+1,o,h,h2,h3=>by
  have:=AY r (j+1) k o (by simpa using h) (by rw [show j+1+k=j+(k+1) by omega];exact h2) (by rw [show j+1+k=j+(k+1) by omega];exact h3);simp [oY,this]
theorem Fj {ops:Z T} {a:M} {oa:T} (ā:ops[a]?=D oa) (h2:alone ops a=R) (h3:bq ops a oa.op=J):qc ops=true:=
 AY ops.toList 0 a oa (by simpa using ā) (by simpa using h2) (by simpa using h3)
theorem MR {c:aD} {ops:Z T} {op:Op} {j:M} {t:Env} (h:xN c ops=R) (h2:qc ops=R):cF c ops j op t=true:=by
 unfold cF;split
 ·rfl
 ·split
  ·rfl
  ·rw [h,h2];rfl
theorem tT {op:Op} {p:M} (h:eH op=D p):iJ op=D p:=by unfold iJ;rw [h]
theorem Nx {op:Op} {p:M} (h:dD op=D p):iJ op=D p:=by
 have h0:=h;unfold dD at h;split at h
 ·cases h;rfl
 ·cases h;rfl
 ·cases h
theorem AZ {c:aD} {ops:Z T} {op:Op} {t:Env} {j p q k:M} (hg:qc ops=J) (h:cF c ops j op t=J) (hp:dD op=D p) (hq:iW ops j p=D q) (hc:fQ k (t.get .any q)=J):fQ k (t.get .any p)=true:=by unfold cF at h;rw [Nx hp] at h;simp only [hq,hg,Τ,θ,C,ϐ] at h;unfold fQ at hc⊢;rw [h.2];exact hc
theorem Fk {b:H M} {i p:M}: ∀(l:H T) (j k:M) (o:T),l[k]?=D o->oZ ops (j+k) o.op=D p->(j+k==i || ordered b i (j+k) || ordered b (j+k) i)=false->p∈uG ops b i l j
 | [],_,k,_,h,_,_=>by simp at h
 | x::r,j,0,o,h,h2,h3=>by
  simp only [γ,η] at h;subst h;simp only [Ζ] at h2 h3;simp only [uG,h3,h2];exact ε
 | x::r,j,k+1,o,h,h2,h3=>by
  have:=Fk r (j+1) k o (by simpa using h) (by rw [show j+1+k=j+(k+1) by omega];exact h2) (by rw [show j+1+k=j+(k+1) by omega];exact h3);simp only [uG];split
  ·exact ξ _ this
  ·exact this
theorem v7 {b:H M} {i:M}: ∀(l:H T) (j k:M) (o:T),kB ops b i l j=true->l[k]?=D o->(j+k==i || ordered b i (j+k) || ordered b (j+k) i || blind o.op || jQ o.op || (oZ ops (j+k) o.op).isSome)=J
 | [],_,k,_,_,h=>by simp at h
 | x::r,j,0,o,h,h2=>by
  simp only [γ,η] at h2;subst h2;simp only [kB,C] at h;exact h.1
 | x::r,j,k+1,o,h,h2=>by
  simp only [kB,C] at h;have:=v7 r (j+1) k o h.2 (by simpa using h2);rw [show j+(k+1)=j+1+k by omega];exact this
theorem gg {i:M} {op:Op} (h:bg c ops i op=J):gZ c ops i op=true:=by unfold gZ;rw [h];rfl
theorem eU {i:M} {op:Op} (h:fR c ops i op=J):gZ c ops i op=true:=by unfold gZ;rw [h];exact Bool.or_true _
theorem A0 {i:M} {op:Op} (h:gZ c ops i op=J):kB ops (fJ ops) i ops.toList 0=J/\((eS ops i).all fun p=>ops.toList.all fun o=>o.dst !=D p)=true:=by
 unfold gZ at h;rw [ν] at h;rcases h with h | h
 ·simp only [bg,C] at h;exact ⟨h.1.2,h.2⟩
 ·simp only [fR,C] at h;refine ⟨h.1.2,?_⟩;have h2:=h.2;rw [U] at h2⊢;intro p hp;have h3:=h2 p hp;rw [C] at h3;exact h3.1
theorem fN {i a:M} {op:Op} {oa:T} (h:gZ c ops i op=J) (ha:ops[a]?=D oa) (t:Env) (v:AV) (f:AV->δ):((eS ops i).all fun p=>f ((aP t oa.dst v).get .any p))=(eS ops i).all fun p=>f (t.get .any p):=by
 have h2:=(A0 h).2;rw [U] at h2
 have Č:oa∈ops.toList:=by obtain ⟨hlt,e⟩:=Array.getElem?_eq_some_iff.1 ha;rw [<-e];simp
 rw [ϕ,U,U]
 have key: ∀p∈eS ops i,(aP t oa.dst v).get .any p=t.get .any p:=fun p hp=>by
  have h3:=h2 p hp;rw [U] at h3;have h4:=h3 oa Č;cases hd:oa.dst with
  | none=>rfl
  | some d=>rw [hd] at h4;simp only [aP];refine Tr.bK _ _ _ ?_;intro e;subst e;simp at h4
 constructor
 ·intro hh p hp;rw [<-key p hp];exact hh p hp
 ·intro hh p hp;rw [key p hp];exact hh p hp
theorem v8 {j q:M} {a:M} {oa:T} (ā:ops[a]?=D oa) (hne:a≠j) (h1:ordered (fJ ops) j a=R) (h2:ordered (fJ ops) a j=R): ∀(n p:M),I5 ops j n p=D q->oa.dst≠D q
 | 0,_,h=>by cases h
 | n+1,p,h=>by
  have Č:oa∈ops.toList:=by obtain ⟨hlt,e⟩:=Array.getElem?_eq_some_iff.1 ā;rw [<-e];simp
  unfold I5 at h;split at h
  ·rename_i hf;cases h;intro hd;have:=List.filter_eq_nil_iff.1 hf oa Č;rw [hd] at this;simp at this
  ·split at h
   ·split at h
    ·rename_i ha;cases h;exact AU ha ā hne h1 h2
    ·cases h
   ·exact v8 ā hne h1 h2 n _ h
   ·cases h
  ·cases h
theorem HN {j p q:M} (h:iW ops j p=D q) {a:M} {oa:T} (ā:ops[a]?=D oa) (hne:a≠j) (h1:ordered (fJ ops) j a=R) (h2:ordered (fJ ops) a j=R):oa.dst≠D q:=
 v8 ā hne h1 h2 4 p h
theorem Fm {a b:AV} (h:(ji a==ji b)=J) (k:M):sT k a=sT k b:=by rw [ϐ] at h;unfold sT;rw [h]
theorem Fo {a b:AV} (h:(ji a==ji b)=J) (n:M):o0 n a=o0 n b:=by
 rw [ϐ] at h;have key: ∀x:AV,o0 n x=match ji x with | some k=>decide (k<n) | none=>true:=fun x=>by cases x <;> rfl
 rw [key,key,h]
theorem HO {o:T} {p:M} (h:eH o.op=D p):p∈o.looksAt ops:=by
 simp only [Oper.looksAt,Β,Ψ];refine .inl ⟨.tmp p,?_,rfl⟩;unfold eH at h;split at h
 ·rename_i ho;cases h;rw [ho];simp [Op.operands]
 ·rename_i ho;cases h;rw [ho];simp [Op.operands]
 ·rename_i args ts ho;split at h
  ·rename_i q hq;cases h;rw [ho];simp only [Op.operands,Call.operands];simp [hq]
  ·cases h
 ·cases h
theorem K8 {o:T} {p:M} (h:iJ o.op=D p):p∈o.looksAt ops:=by
 unfold iJ at h;split at h
 ·rename_i q hq;cases h;exact HO hq
 ·simp only [Oper.looksAt,Β,Ψ];refine .inl ⟨.tmp p,?_,rfl⟩;unfold dD at h;split at h
  ·rename_i ho;cases h;rw [ho];simp [Op.operands]
  ·rename_i ho;cases h;rw [ho];simp [Op.operands]
  ·cases h
theorem dz {a j:M} {oa o:T} (ā:ops[a]?=D oa) (hne:a≠j) (Š:ordered (fJ ops) j a=R) (š:ordered (fJ ops) a j=R) (h: ∀d,oa.dst=D d->d∉o.looksAt ops) (t:Env) (v:AV):cF c ops j o.op (aP t oa.dst v)=cF c ops j o.op t:=by
 unfold cF;split
 ·rfl
 ·rename_i p hp;split
  ·rfl
  ·rename_i q hq;cases hd:oa.dst with
   | none=>rfl
   | some d=>have h1:d≠p:=fun e=>h d hd (e▸K8 hp);have h2:d≠q:=fun e=>HN hq ā hne Š š (by rw [hd,e]);simp only [aP];rw [Tr.bK _ _ _ h1,Tr.bK _ _ _ h2]
theorem HP {op:Op} {j:M} (h:blind op=J) (t:Env):cF c ops j op t=true:=by
 have:iJ op=none:=by cases op <;> simp only [blind,O] at h <;> rfl
 unfold cF;rw [this]
theorem Fp {ms:H M} {bs:H af} {j:M} (x:af) (h:j<É bs):af.at (bp ms (bs++ [x])) j=af.at (bp ms bs) j:=by
 simp only [af.at,Y];rw [cA,cA,χ h];simp only [Ϗ,List.length_singleton];by_cases hj:j∈ms
 ·rw [Ε ⟨hj,by omega⟩,Ε ⟨hj,h⟩]
 ·rw [ϒ (fun e=>hj e.1),ϒ (fun e=>hj e.1)]
theorem HQ {d:Χ} {x:AV} {b b':H af} (h:elems b x=elems b' x):rI d x b=rI d x b':=by unfold rI;rw [h]
theorem A4 {o:Op} {p:M} (hm:eH o=D p) {t:Env} {b b':H af} (hc: ∀k,ji (t.get .any p)=D k->af.at b' k=af.at b k) (id:M):
  bB c cf o t b' id=bB c cf o t b id:=by
 unfold eH at hm;split at hm
 ·cases hm;simp only [bB,gn,ev];unfold oT;split
  ·split
   ·rename_i k' off hp;rw [hc k' (by rw [hp];rfl)]
   ·rename_i k' n j off hp;rw [hc k' (by rw [hp];rfl)]
   ·rfl
   ·rfl
  ·rfl
 ·cases hm;simp only [bB,gn,ev]
  have he: ∀o,ow (t.get .any p) o b'=ow (t.get .any p) o b:=fun o=>by
   unfold ow;split
   ·rfl
   ·rename_i k' n j off hp;rw [hc k' (by rw [hp];rfl)]
   ·rfl
   ·rfl
  unfold c9;simp only [he]
 ·rename_i args ts;split at hm
  ·rename_i q Ĭ;cases hm
   have he:elems b' (t.get .any p)=elems b (t.get .any p):=by
    unfold elems;cases hv:t.get .any p with
    | aC k' n=>simp only;rw [hc k' (by rw [hv];rfl)]
    | gO k' n lo hi=>simp only;rw [hc k' (by rw [hv];rfl)]
    | _=>rfl
   simp only [bB,gn,eR];rw [show ou t args.toList= [t.get .any p] by rw [Ĭ];rfl];rcases hts:ts.toList with _ | ⟨t',_ | ⟨t2,r⟩⟩
   ·rfl
   ·simp only;split
    ·exact HQ he
    ·rfl
   ·rfl
  ·cases hm
 ·cases hm
theorem A5 {o:Op} {p:M} (hm:eH o=D p) {t:Env} {ms:H M} {bs:H af} {x:af} (hc:o0 (É bs) (t.get .any p)=J) (id:M):
  bB c cf o t (bp ms (bs++ [x])) id=bB c cf o t (bp ms bs) id:=
 A4 hm (fun k hk=>Fp x (by
  cases hv:t.get .any p <;> rw [hv] at hk hc <;> simp only [ji,reduceCtorEq,η] at hk
  all_goals (subst hk;simpa [o0] using hc))) id
theorem Fq {o:Op} {p:M} (hm:eH o=D p) {t:Env} {ms:H M} {bs:H af} {k:M} {x:af} (hc:sT k (t.get .any p)=J) (id:M):
  bB c cf o t (bp ms (bs.set k x)) id=bB c cf o t (bp ms bs) id:=
 A4 hm (fun j hj=>jr x (by
  unfold sT at hc;rw [hj] at hc;simpa using hc)) id
theorem j9 {o:Op} {p:M} (hm:eH o=D p):asks o=R/\(cP o || e9 o)=R/\cQ o=false:=by
 unfold eH at hm;split at hm
 ·exact ⟨rfl,rfl,rfl⟩
 ·exact ⟨rfl,rfl,rfl⟩
 ·exact ⟨rfl,rfl,rfl⟩
 ·cases hm
theorem sj {o:Op} (h:jQ o=J):(cP o || e9 o)=R/\cQ o=false:=by cases o <;> simp only [jQ,O] at h;exact ⟨rfl,rfl⟩
theorem alloc_eq {op:Op} (h:jQ op=J) (cf ŝ:aQ) (t t':Env) (bs bs':H af) (id:M):bB c cf op t bs id=bB c ŝ op t' bs' id:=by cases op <;> simp only [jQ,O] at h <;> rfl
theorem CV {o:Op} (h:cQ o=R):xM c o=false:=by
 cases o with
 | call k=>
  obtain ⟨ce,as,ts⟩:=k;cases ce with
  | value f=>simp [cQ] at h
  | _=>rfl
 | _=>rfl
theorem Db {o:Op} (h:xM c o=J) {t:Env} {bs:H af} {id:M} {v:AV} {k:M} (hd:bB c cf o t bs id=D (v,.rH k)): ∃sh sz es,af.at bs k= .sl sh sz es/\ ∀(ŝ:aQ) bs' id',af.at bs' k= .sl sh sz es->bB c ŝ o t bs' id'=D (v,.rH k):=by
 unfold xM at h;split at h
 ·rename_i kk;split at h
  ·rename_i f hf;obtain ⟨G,hG⟩:=Option.isSome_iff_exists.1 h;unfold bB at hd⊢;simp only [hf,ev] at hd⊢;split at hd
   ·split at hd <;> cases hd
   ·unfold oA at hd⊢;split at hd
    ·split at hd <;> cases hd
    rename_i Ń;unfold oz at hd;split at hd
    ·rename_i hmu;rw [hG] at hd;simp only at hd;split at hd
     ·rename_i v' k' he;cases hd;unfold Ks at he;split at he
      ·rename_i kx n r Ĭ;split at he
       ·rename_i sh sz es hb;split at he
        ·rename_i u hu;cases he;refine ⟨sh,sz,es,hb,fun ŝ bs' id' hb'=> ?_⟩;unfold oz Ks;simp only [Ń,hmu,hG,Ĭ,hb',hu]
        ·cases he
       ·cases he
      ·cases he
     ·cases hd
    ·exfalso;unfold vF at hd;split at hd
     ·split at hd
      ·split at hd
       ·split at hd
        ·split at hd
         ·unfold cI at hd;split at hd <;> cases hd
         ·cases hd
        ·cases hd
       ·split at hd
        ·split at hd
         ·unfold cI at hd;split at hd <;> cases hd
         ·cases hd
        ·split at hd
         ·split at hd <;> cases hd
         ·split at hd <;> cases hd
        ·cases hd
      ·split at hd <;> cases hd
     ·cases hd
  ·cases h
 ·cases h
theorem QP {c:aD} {cf:aQ} {op:Op} {t:Env} {bs:H af} (hv:cQ op=J) {id:M} {v:AV} {x:af} (h:bB c cf op t bs id=D (v,.app x)):x≠ .dead:=by
 unfold bB at h;split at h
 ·split at h
  ·split at h
   ·split at h
    ·split at h <;> cases h
    ·unfold oA at h;split at h
     ·split at h <;> cases h
     ·unfold oz at h;split at h
      ·split at h
       ·split at h <;> cases h
       ·split at h <;> cases h
      unfold vF at h;split at h
      ·split at h
       ·split at h
        ·split at h
         ·split at h
          ·unfold cI at h;split at h <;> cases h
          ·cases h
         ·cases h
        ·split at h
         ·split at h
          ·unfold cI at h;split at h <;> cases h
          ·cases h
         ·split at h
          ·split at h
           ·cases h
           ·cases h;exact fun e=>by cases e
          ·split at h <;> cases h
         ·cases h
       ·split at h <;> cases h
      ·cases h
   ·split at h <;> cases h
   ·cases h
  ·rename_i k hk;exfalso;unfold cQ at hv;simp only at hv
   first
   | (cases hv;done)
   | (split at hv
      ·rename_i f hf;exact hk f hf
      ·cases hv)
 ·rename_i hk;exfalso;unfold cQ at hv;split at hv
  ·rename_i k;exact hk k rfl
  ·cases hv
theorem Ny {op:Op} (h:blind op=J) (t:Env) (bs:H af) (id:M):bB c cf op t bs id=bB c cf op t [] 0:=by cases op <;> simp only [blind,O] at h <;> rfl
theorem K9 {op:Op} (h:blind op=J) {t:Env} {bs:H af} {id:M} {v:AV} {e:dy} (hd:bB c cf op t bs id=D (v,e)):e= .none:=by
 cases op <;> simp only [blind,O] at h <;> simp only [bB,gn] at hd
 ·cases hd;rfl
 ·cases hd;rfl
 ·unfold xI at hd;split at hd <;> cases hd <;> rfl
 ·unfold uD at hd;split at hd
  ·split at hd
   ·split at hd
    ·rw [V] at hd;obtain ⟨_,_,hd⟩:=hd;cases hd;rfl
    ·split at hd
     ·rw [V] at hd;obtain ⟨_,_,hd⟩:=hd;cases hd;rfl
     ·cases hd
    ·cases hd
   ·cases hd
  ·cases hd
 ·unfold iI at hd;split at hd <;> cases hd <;> rfl
 ·rw [V] at hd;obtain ⟨_,_,hd⟩:=hd;cases hd;rfl
 ·rw [V] at hd;obtain ⟨_,_,hd⟩:=hd;cases hd;rfl
 ·unfold rJ at hd;split at hd
  ·split at hd
   ·split at hd
    ·rw [V] at hd;obtain ⟨_,_,hd⟩:=hd;cases hd;rfl
    ·cases hd
   ·cases hd
  ·cases hd
 ·unfold rK at hd;split at hd
  ·split at hd
   ·split at hd
    ·split at hd
     ·cases hd;rfl
     ·cases hd
    ·cases hd
   ·split at hd
    ·split at hd
     ·rw [V] at hd;obtain ⟨_,_,hd⟩:=hd;cases hd;rfl
     ·cases hd
    ·cases hd
   ·cases hd
  ·cases hd
 ·unfold kA at hd;split at hd
  ·rw [V] at hd;obtain ⟨_,_,hd⟩:=hd;cases hd;rfl
  ·cases hd
theorem HR {op:Op} (h:blind op=J) (t:Env) (bs:H af) (id:M):bB c (sR cf) op t bs id=bB c cf op t bs id:=by cases op <;> simp only [blind,O] at h <;> rfl
theorem Fs {op:Op} (h:blind op=J) (b:δ) (t:Env) (bs:H af) (id:M):bB c (cM cf b) op t bs id=bB c cf op t bs id:=by
 cases b with
 | true=>rfl
 | false=>exact HR h t bs id
theorem js {i:M} {o:T} {s:St} (hb:blind o.op=J):aI c cf ops base i o s=match bh ops s.t o.guard with
  | some true=>(match bB c cf o.op s.t [] 0 with
   | some (v,_)=>D {t:=aP s.t o.dst v,b:=s.b}
   | none=>W)
  | some false=>D {t:=aP s.t o.dst (.aK []),b:=s.b}
  | none=>none:=by
 unfold aI;cases hw:bh ops s.t o.guard with
 | none=>rfl
 | some x=>
  cases x with
  | false=>rfl
  | true=>
   simp only [Ny hb,Fs hb];cases hd:bB c cf o.op s.t [] 0 with
   | none=>cases alone ops i <;> rfl
   | some p=>
    obtain ⟨v,e⟩:=p;obtain rfl:=K9 hb hd;cases alone ops i
    ·simp only [HP hb]
    ·rfl
theorem we {a:M} {oa:T} {s s1:St} (h:aI c cf ops base a oa s=D s1): ∃va ę,s1={t:=aP s.t oa.dst va,b:=ę}/\
  ∀t':Env,bh ops t' oa.guard=bh ops s.t oa.guard->(∀(cf:aQ) bs id,bB c cf oa.op t' bs id=bB c cf oa.op s.t bs id)->(∀k,bq ops a oa.op=true->((iz ops a).all fun p=>fQ k (t'.get .any p))=((iz ops a).all fun p=>fQ k (s.t.get .any p)))->(∀f:AV->δ,gZ c ops a oa.op=true->((eS ops a).all fun p=>f (t'.get .any p))=((eS ops a).all fun p=>f (s.t.get .any p)))->(cF c ops a oa.op t'=cF c ops a oa.op s.t)->aI c cf ops base a oa {t:=t',b:=s.b}=D {t:=aP t' oa.dst va,b:=ę}:=by
 unfold aI at h;split at h
 ·rename_i hw;cases Ď:alone ops a with
  | true=>
   rw [Ď] at h;simp only at h;split at h
   ·rename_i v e hd;split at h
    ·rename_i bs' he;cases h;refine ⟨v,bs',rfl,fun t' k1 k2 k3 k4 k5=> ?_⟩;unfold aI;simp only [k1,hw,Ď,k2,hd,he]
    ·cases h
   ·cases h
  | false=>
   rw [Ď] at h;simp only at h;split at h
   ·rename_i v hd;split at h
    ·rename_i Ĉ;cases h;refine ⟨v,_,rfl,fun t' k1 k2 k3 k4 k5=> ?_⟩;unfold aI;simp only [k1,hw,Ď,k2,hd,k5,Ĉ]
    ·cases h
   ·rename_i v x hd;split at h
    ·rename_i ha ď;cases h;refine ⟨v,_,rfl,fun t' k1 k2 k3 k4 k5=> ?_⟩;unfold aI;simp only [k1,hw,Ď,k2,hd,ha,ď]
    ·cases h
   ·rename_i v k x hd;split at h
    ·rename_i Ā;cases h;refine ⟨v,_,rfl,fun t' k1 k2 k3 k4 k5=> ?_⟩
     have hs:bq ops a oa.op=true:=by rw [C,C,C] at Ā;exact Ā.1.1.1
     unfold aI;simp only [k1,hw,Ď,k2,hd,k3 k hs,k5,Ā]
    ·cases h
   ·rename_i v x hd;split at h
    ·rename_i Ā;cases h;refine ⟨v,_,rfl,fun t' k1 k2 k3 k4 k5=> ?_⟩;have hs:bg c ops a oa.op=true:=(C _ _▸Ā:_/\_).1;unfold aI;simp only [k1,hw,Ď,k2,hd,k4 _ (gg hs),Ā]
    ·cases h
   ·rename_i v k hd;split at h
    ·rename_i Ā;cases h;refine ⟨v,_,rfl,fun t' k1 k2 k3 k4 k5=> ?_⟩;have hs:fR c ops a oa.op=true:=(C _ _▸Ā:_/\_).1;unfold aI;simp only [k1,hw,Ď,k2,hd,k4 _ (eU hs),Ā]
    ·cases h
   ·cases h
 ·rename_i hw;cases h;refine ⟨.aK [],_,rfl,fun t' k1 k2 k3 k4 k5=> ?_⟩;unfold aI;simp only [k1,hw]
 ·cases h
theorem comm {a i:M} {oa oi:T} (ā:ops[a]?=D oa) (ă:ops[i]?=D oi) (hlt:a<i) (œ:oa.apart ops oi=J) (ą:ordered (fJ ops) a i=R) (Ć:ordered (fJ ops) i a=R) {s s1 s2:St}
  (h1:aI c cf ops base a oa s=D s1) (h2:aI c cf ops base i oi s1=D s2): ∃ŋ,aI c cf ops base i oi s=D ŋ/\aI c cf ops base a oa ŋ=D s2:=by
 have Ţ:a<ops.size:=by
  rcases Η a ops.size with h | h
  ·exact h
  ·rw [ο h] at ā;cases ā
 have Ħ:i<ops.size:=by
  rcases Η i ops.size with h | h
  ·exact h
  ·rw [ο h] at ă;cases ă
 have hne:a≠i:=by omega
 have Đ:i≠a:=by omega
 obtain ⟨q1,q2,q3⟩:=Oper.apart_spec œ;have Ă:=fun (v v':AV)=>K0 s.t v v' q2;have hi0:=fun v bs id=>tR (c:=c) (cf:=cM cf (bg c ops i oi.op)) (ops:=ops) (x:=oa) (y:=oi) q1 s.t v bs id;have ċ:=fun v bs id=>tR (c:=c) (cf:=cM cf (bg c ops a oa.op)) (ops:=ops) (x:=oi) (y:=oa) q3 s.t v bs id;have hi1:=fun (cf:aQ) v bs id=>tR (c:=c) (cf:=cf) (ops:=ops) (x:=oa) (y:=oi) q1 s.t v bs id;have Ŕ:=fun (cf:aQ) v bs id=>tR (c:=c) (cf:=cf) (ops:=ops) (x:=oi) (y:=oa) q3 s.t v bs id
 /- one of them looks at no box -/
 by_cases hbi:blind oi.op=J
 ·obtain ⟨va,ę,rfl,sh⟩:=we h1;rw [js hbi] at h2;simp only [(hi0 va [] 0).2,(hi1 cf va [] 0).1] at h2;rw [js hbi];split at h2
  ·rename_i hw;split at h2
   ·rename_i vi e hd;cases h2;refine ⟨{t:=aP s.t oi.dst vi,b:=s.b},rfl,?_⟩;rw [sh _ (ċ vi [] 0).2 (fun cf bs id=>(Ŕ cf vi bs id).1) (fun k hs=>j8 hs ă Đ ą Ć _ _ k) (fun n hs=>fN hs ă _ _ n) (dz ă Đ ą Ć q3 _ _),Ă va vi]
   ·cases h2
  ·rename_i hw;cases h2;refine ⟨{t:=aP s.t oi.dst (.aK []),b:=s.b},rfl,?_⟩;rw [sh _ (ċ (.aK []) [] 0).2 (fun cf bs id=>(Ŕ cf (.aK []) bs id).1) (fun k hs=>j8 hs ă Đ ą Ć _ _ k) (fun n hs=>fN hs ă _ _ n) (dz ă Đ ą Ć q3 _ _),Ă va (.aK [])]
  ·cases h2
 by_cases hba:blind oa.op=J
 ·rw [js hba] at h1
  have fin: ∀va,s1={t:=aP s.t oa.dst va,b:=s.b}->(∀vi Ġ,aI c cf ops base a oa {t:=aP s.t oi.dst vi,b:=Ġ}=D {t:=aP (aP s.t oi.dst vi) oa.dst va,b:=Ġ})-> ∃ŋ,aI c cf ops base i oi s=D ŋ/\aI c cf ops base a oa ŋ=D s2:=by intro va ħ hgo;subst ħ;obtain ⟨vi,Ġ,rfl,sh⟩:=we h2;refine ⟨_,sh s.t (hi0 va [] 0).2.symm (fun cf bs id=>(hi1 cf va bs id).1.symm) (fun k hs=>(j8 hs ā hne Ć ą _ _ k).symm) (fun n hs=>(fN hs ā _ _ n).symm) (dz ā hne Ć ą q1 _ _).symm,?_⟩;rw [hgo,Ă va vi]
  split at h1
  ·rename_i hw;split at h1
   ·rename_i va e hd;cases h1;refine fin va rfl fun vi Ġ=> ?_;rw [js hba];simp only [(ċ vi [] 0).2,(Ŕ cf vi [] 0).1,hw,hd]
   ·cases h1
  ·rename_i hw;cases h1;refine fin (.aK []) rfl fun vi Ġ=> ?_;rw [js hba];simp only [(ċ vi [] 0).2,hw]
  ·cases h1
 have ě:alone ops a=false:=by
  cases hh:alone ops a with
  | false=>rfl
  | true=>have:=yM (i:=a) (j:=i) Ħ (by omega) ą Ć hh;simp only [qb,ă] at this;exact ζ this hbi
 have Ĝ:alone ops i=false:=by
  cases hh:alone ops i with
  | false=>rfl
  | true=>have:=yM (i:=i) (j:=a) Ţ (by omega) Ć ą hh;simp only [qb,ā] at this;exact ζ this hba
 have Ō:asks oa.op=true->bN ops.toList a base≠bN ops.toList i base:=fun h=>ϗ (Jt ops.toList a i base oa (by simpa using ā) h hlt);have ţ:asks oa.op=true-> ∀bs x,bF ops base i (bs.set (bN ops.toList a base) x)=bF ops base i bs:=fun h bs x=>vX (tS ops.toList 0 base a oa (by simpa using ā) h (by simpa using ą)) bs x;have Ť:asks oi.op=true-> ∀bs x,bF ops base a (bs.set (bN ops.toList i base) x)=bF ops base a bs:=fun h bs x=>vX (tS ops.toList 0 base i oi (by simpa using ă) h (by simpa using Ć)) bs x;have ĝ:blind oi.op=false:=by simpa using hbi
 have ġ:blind oa.op=false:=by simpa using hba
 /- a call that has a new box or uses one up, beside what looks on or lays a variable -/
 have ĉ: ∀{x y:M} {ox oy:T},ops[x]?=D ox->ops[y]?=D oy->y≠x->ordered (fJ ops) x y=false->ordered (fJ ops) y x=false->gZ c ops x ox.op=true->blind oy.op=false->
   jQ oy.op=J\/ ∃p q,eH oy.op=D p/\iW ops y p=D q/\q∈eS ops x:=by
  intro x y ox oy _ hy hne h1 h2 hs hb;have hm:=v7 ops.toList 0 y oy (A0 hs).1 (by simpa using hy);have ĭ:(0+y==x)=false:=by simpa using hne
  rw [ĭ,ι,h1,h2,hb] at hm;simp only [Ϙ,θ,ν] at hm;rcases hm with hm | hm
  ·exact .inl hm
  obtain ⟨q,hq⟩:=Option.isSome_iff_exists.1 hm;have Ş:=hq;unfold oZ at Ş;split at Ş
  case h_2=>cases Ş
  rename_i p hp;refine .inr ⟨p,q,hp,Ş,Fk ops.toList 0 y oy (by simpa using hy) (by rw [ι];exact hq) ?_⟩;rw [ĭ,ι,h1,h2];rfl
 /- what is beside such a call: it has no other effects -/
 have Į: ∀{x y:M} {ox oy:T},ops[x]?=D ox->ops[y]?=D oy->y≠x->ordered (fJ ops) x y=false->ordered (fJ ops) y x=false->gZ c ops x ox.op=true->blind oy.op=false->
   (cP oy.op || e9 oy.op)=R/\cQ oy.op=false:=by
  intro x y ox oy h1 h2 h3 h4 h5 h6 h7;rcases ĉ h1 h2 h3 h4 h5 h6 h7 with h | ⟨p,q,hp,_⟩
  ·exact sj h
  ·exact ⟨(j9 hp).2.1,(j9 hp).2.2⟩
 /- the box that is used up is no variable's that is laid aside -/
 have ń: ∀{x y:M} {ox oy:T},ops[y]?=D oy->asks oy.op=true->ordered (fJ ops) y x=false-> ∀{bs:H af} {k:M} {sh:Hd} {sz:M} {es:H AV},af.at (bF ops base x bs) k= .sl sh sz es->k≠bN ops.toList y base:=by
  intro x y ox oy hy Ą h1 bs k sh sz es hb e;subst e;have Č:=tS (b:=fJ ops) (i:=x) ops.toList 0 base y oy (by simpa using hy) Ą (by simpa using h1);unfold bF at hb;simp only [af.at,Y] at hb;rw [cA] at hb;by_cases hl:bN ops.toList y base<É bs
  ·rw [Ε ⟨Č,hl⟩] at hb;cases hb
  ·rw [ϒ (fun e=>hl e.2),Ν (by omega)] at hb;cases hb
 by_cases hEa:bh ops s.t oa.guard=D J/\ ∃v k,bB c (cM cf (bg c ops a oa.op)) oa.op s.t (bF ops base a s.b) (bN ops.toList a base)=D (v,.rH k)/\fR c ops a oa.op=J/\((eS ops a).all fun p=>sT k (s.t.get .any p))=J/\s1={t:=aP s.t oa.dst v,b:=s.b.set k .gone}
 ·obtain ⟨ő,va,k,į,đ,ĩ,rfl⟩:=hEa;obtain ⟨ē,ć⟩:=Į ā ă (by omega) ą Ć (eU đ) ĝ;have hst:bq ops i oi.op=false:=by unfold bq;rw [ē];rfl
  have œ:bg c ops i oi.op=false:=by unfold bg;rw [iY ć];rfl
  have ť:fR c ops i oi.op=false:=by unfold fR;rw [CV ć];rfl
  have ŕ:xM c oa.op=true:=by have h:=đ;simp only [fR,C] at h;exact h.1.1
  obtain ⟨sh,sz,es,Ŗ,_⟩:=Db ŕ į
  have Ĩ: ∀v Ġ,bF ops base a Ġ=bF ops base a s.b->aI c cf ops base a oa {t:=aP s.t oi.dst v,b:=Ġ}=D {t:=aP (aP s.t oi.dst v) oa.dst va,b:=Ġ.set k .gone}:=fun v Ġ ŗ=>by
   unfold aI;simp only [(ċ v [] 0).2,ő,ě,ŗ,(ċ v _ _).1,į,đ,fN (eU đ) ă,ĩ,ω]
  rcases sf Ĝ h2 with ⟨hw,rfl⟩ | ⟨hw,v,⟨hd,Ĉ,rfl⟩ | ⟨y,hk,č,hd,rfl⟩⟩ | ⟨_,_,_,_,_,⟨⟨h',_⟩,_⟩,_⟩ | ⟨_,_,_,_,h',_⟩ | ⟨_,_,_,_,h',_⟩
  ·simp only [(hi0 va [] 0).2] at hw;refine ⟨{t:=aP s.t oi.dst (.aK []),b:=s.b},by unfold aI;rw [hw],?_⟩;rw [Ĩ _ _ rfl,Ă]
  ·simp only [(hi0 va [] 0).2] at hw;simp only [(hi0 va _ _).1] at hd;rw [dz ā hne Ć ą q1] at Ĉ
   have İ:bB c (cM cf (bg c ops i oi.op)) oi.op s.t (bF ops base i s.b) (bN ops.toList i base)=D (v,.none):=by
    rcases ĉ ā ă (by omega) ą Ć (eU đ) ĝ with h | ⟨p,q,hp,hq,Ļ⟩
    ·rw [<-hd];exact alloc_eq h _ _ _ _ _ _ _
    ·rw [<-hd];unfold bF;refine (Fq hp ?_ _).symm;have h:=Ĉ;unfold cF at h;rw [tT hp] at h;simp only [hq,xh ā ě (eU đ),Τ,θ,C] at h;rw [Fm h.1];rw [U] at ĩ;exact ĩ q Ļ
   refine ⟨{t:=aP s.t oi.dst v,b:=s.b},by unfold aI;simp only [hw,Ĝ,İ,Ĉ],?_⟩;rw [Ĩ _ _ rfl,Ă]
  ·simp only [(hi0 va [] 0).2] at hw;simp only [(hi0 va _ _).1] at hd
   have Ď:jQ oi.op=true:=by
    rcases ĉ ā ă (by omega) ą Ć (eU đ) ĝ with h | ⟨p,q,hp,hq,Ļ⟩
    ·exact h
    ·have:=(j9 hp).1;rw [hk] at this;cases this
   have ı:k≠bN ops.toList i base:=ń (ox:=oa) ă hk Ć Ŗ;rw [alloc_eq Ď _ (cM cf (bg c ops i oi.op)) _ s.t _ (bF ops base i s.b)] at hd;rw [Υ ı] at č;refine ⟨{t:=aP s.t oi.dst v,b:=s.b.set (bN ops.toList i base) y},by unfold aI;simp only [hw,Ĝ,hd,hk,č],?_⟩;rw [Ĩ _ _ (Ť hk _ _),Ă,ώ _ _ ı]
  ·rw [hst] at h';cases h'
  ·rw [œ] at h';cases h'
  ·rw [ť] at h';cases h'
 by_cases hEi:bh ops s1.t oi.guard=D J/\ ∃v k,bB c (cM cf (bg c ops i oi.op)) oi.op s1.t (bF ops base i s1.b) (bN ops.toList i base)=D (v,.rH k)/\fR c ops i oi.op=J/\((eS ops i).all fun p=>sT k (s1.t.get .any p))=J/\s2={t:=aP s1.t oi.dst v,b:=s1.b.set k .gone}
 ·obtain ⟨Ĺ,vi,k,ģ,Ē,Ğ,rfl⟩:=hEi;obtain ⟨ē,ć⟩:=Į ă ā (by omega) Ć ą (eU Ē) ġ;have hst:bq ops a oa.op=false:=by unfold bq;rw [ē];rfl
  have œ:bg c ops a oa.op=false:=by unfold bg;rw [iY ć];rfl
  have ť:fR c ops a oa.op=false:=by unfold fR;rw [CV ć];rfl
  have ŕ:xM c oi.op=true:=by have h:=Ē;simp only [fR,C] at h;exact h.1.1
  obtain ⟨sh,sz,es,Ŗ,_⟩:=Db ŕ ģ
  have main: ∀va ę,s1={t:=aP s.t oa.dst va,b:=ę}->bF ops base i ę=bF ops base i s.b->aI c cf ops base i oi s=D {t:=aP s.t oi.dst vi,b:=s.b.set k .gone}/\ ∀p∈eS ops i,sT k (s.t.get .any p)=true:=by intro va ę e hb;subst e;simp only [(hi0 va [] 0).2] at Ĺ;simp only [(hi0 va _ _).1,hb] at ģ;rw [fN (eU Ē) ā] at Ğ;refine ⟨?_,by rw [U] at Ğ;exact Ğ⟩;unfold aI;simp only [Ĺ,Ĝ,Ē,ģ,Ğ,ω]
  rcases sf ě h1 with ⟨hw,rfl⟩ | ⟨hw,v,⟨hd,Ĉ,rfl⟩ | ⟨y,hk,č,hd,rfl⟩⟩ | ⟨_,_,_,_,_,⟨⟨h',_⟩,_⟩,_⟩ | ⟨_,_,_,_,h',_⟩ | ⟨_,_,_,_,h',_⟩
  ·refine ⟨_,(main _ _ rfl rfl).1,?_⟩;unfold aI;simp only [(ċ vi [] 0).2,hw];rw [Ă]
  ·obtain ⟨m1,m2⟩:=main _ _ rfl rfl;refine ⟨_,m1,?_⟩
   have İ:bB c (cM cf (bg c ops a oa.op)) oa.op s.t (bF ops base a (s.b.set k .gone)) (bN ops.toList a base)=D (v,.none):=by
    rcases ĉ ă ā (by omega) Ć ą (eU Ē) ġ with h | ⟨p,q,hp,hq,Ļ⟩
    ·rw [<-hd];exact alloc_eq h _ _ _ _ _ _ _
    ·rw [<-hd];unfold bF;refine Fq hp ?_ _;have h:=Ĉ;unfold cF at h;rw [tT hp] at h;simp only [hq,xh ă Ĝ (eU Ē),Τ,θ,C] at h;rw [Fm h.1];exact m2 q Ļ
   unfold aI;simp only [(ċ vi [] 0).2,hw,ě,(ċ vi _ _).1,İ,dz ă Đ ą Ć q3,Ĉ];rw [Ă]
  ·obtain ⟨m1,m2⟩:=main _ _ rfl (ţ hk _ _);refine ⟨_,m1,?_⟩
   have Ď:jQ oa.op=true:=by
    rcases ĉ ă ā (by omega) Ć ą (eU Ē) ġ with h | ⟨p,q,hp,hq,Ļ⟩
    ·exact h
    ·have:=(j9 hp).1;rw [hk] at this;cases this
   have ı:k≠bN ops.toList a base:=ń (ox:=oi) ā hk ą Ŗ;rw [alloc_eq Ď _ (cM cf (bg c ops a oa.op)) _ (aP s.t oi.dst vi) _ (bF ops base a (s.b.set k .gone))] at hd;have Ĵ:(s.b.set k .gone)[bN ops.toList a base]?=D .dead:=by rw [Υ ı];exact č
   unfold aI;simp only [(ċ vi [] 0).2,hw,ě,hd,hk,Ĵ];rw [Ă,ώ _ _ ı]
  ·rw [hst] at h';cases h'
  ·rw [œ] at h';cases h'
  ·rw [ť] at h';cases h'
 have ĕ:=vY Ĝ h2 hEi;have Ė:=vY ě h1 hEa
 /- a store beside what looks on: the one's step turns box k; the other one's is the same ahead of it and behind it -/
 have ĵ: ∀{x y:M} {ox oy:T},ops[x]?=D ox->ops[y]?=D oy->y≠x->ordered (fJ ops) x y=false->ordered (fJ ops) y x=false->bq ops x ox.op=true->blind oy.op=false->
   jz ops y ox.op oy.op=J/\ ∀p,dD oy.op=D p-> ∃q,iW ops y p=D q/\q∈iz ops x:=by
  intro x y ox oy _ hy hne h1 h2 hs hb;have ĺ:=hs;simp only [bq,C] at ĺ;have hm:=si ops.toList 0 y oy ĺ.1.2 (by simpa using hy);have ĭ:(0+y==x)=false:=by simpa using hne
  rw [ĭ,ι,h1,h2] at hm;have Ő:jz ops y ox.op oy.op=true:=by simpa using hm
  refine ⟨Ő,fun p hp=> ?_⟩;obtain ⟨hb1,hl1⟩:=yO hp;have Ř:=Ő;unfold jz at Ř;rw [hb1,hl1] at Ř;simp only [κ,Ϙ,θ] at Ř;cases hr:gd ops y oy.op with
  | none=>rw [hr] at Ř;cases Ř
  | some q=>obtain ⟨p',hp',hq⟩:=mX hr;rw [hp] at hp';cases hp';refine ⟨q,hq,Fg ops.toList 0 y oy (by simpa using hy) (by rw [ι];exact hr) ?_⟩;rw [ĭ,ι,h1,h2];rfl
 have storeAt: ∀{x:M} {ox:T} {t:Env} {bs:H af} {v:AV} {k:M} {y:af},sP ox.op y=true->bB c (cM cf (bg c ops x ox.op)) ox.op t (bF ops base x bs) (bN ops.toList x base)=D (v,.upd k y)->cP ox.op=true-> ∃ty' ĸ,af.at bs k= .var ty' ĸ:=by
  intro x ox t bs v k y hy hd hst
  obtain ⟨ty,cs,rfl⟩: ∃ty cs,y= .var ty cs:=by
   cases y with
   | var ty cs=>exact ⟨ty,cs,rfl⟩
   | sl sh sz es=>exfalso;cases ho:ox.op <;> rw [ho] at hst hy <;> simp only [cP,O] at hst;cases hy
   | dead=>cases hy
   | loop st=>cases hy
   | mp es clock=>cases hy
   | gone=>cases hy
   | iter o=>cases hy
  obtain ⟨ty',ĸ,hv⟩:=K5 hst hd k ty cs rfl;exact ⟨ty',ĸ,(dZ _ bs).var hv⟩
 by_cases hSa:bh ops s.t oa.guard=D J/\ ∃v k y,bB c (cM cf (bg c ops a oa.op)) oa.op s.t (bF ops base a s.b) (bN ops.toList a base)=D (v,.upd k y)/\((bq ops a oa.op=J/\sP oa.op y=J)/\cF c ops a oa.op s.t=J)/\((iz ops a).all fun p=>fQ k (s.t.get .any p))=J/\s1={t:=aP s.t oa.dst v,b:=s.b.set k y}
 ·obtain ⟨ő,va,k,y,į,⟨⟨đ,Ŧ⟩,hra⟩,ĩ,rfl⟩:=hSa;have hga:=Fj ā ě đ;obtain ⟨Ĕ,Ķ⟩:=ĵ ā ă (by omega) ą Ć đ ĝ;obtain ⟨Ą,ć⟩:=AX Ĕ ĝ;have ō:=storeAt Ŧ į
  have Ę:cF c ops i oi.op s.t=true-> ∀p,dD oi.op=D p->fQ k (s.t.get .any p)=true:=fun hr p hp=>by
   obtain ⟨q,hq,ŧ⟩:=Ķ p hp;rw [U] at ĩ;exact AZ hga hr hp hq (ĩ q ŧ)
  have Ĩ: ∀v,aI c cf ops base a oa {t:=aP s.t oi.dst v,b:=s.b}=D {t:=aP (aP s.t oi.dst v) oa.dst va,b:=s.b.set k y}:=fun v=>by
   unfold aI;simp only [(ċ v [] 0).2,ő,ě,(ċ v _ _).1,į,đ,Ŧ,dz ă Đ ą Ć q3,hra,j8 đ ă Đ ą Ć,ĩ,ω]
  rcases ĕ with ⟨hw,rfl⟩ | ⟨hw,v,⟨hd,Ĉ,rfl⟩ | ⟨x,hk,_⟩⟩ | ⟨hw,v,k',y',hd,⟨⟨ĺ,_⟩,Ũ⟩,_⟩ | ⟨_,_,_,_,Ģ,_⟩
  ·simp only [(hi0 va [] 0).2] at hw;refine ⟨{t:=aP s.t oi.dst (.aK []),b:=s.b},by unfold aI;rw [hw],?_⟩;rw [Ĩ,Ă]
  ·simp only [(hi0 va [] 0).2] at hw;simp only [(hi0 va _ _).1] at hd;unfold bF at hd;rw [dz ā hne Ć ą q1] at Ĉ;rw [AW Ĕ ĝ Ŧ ō (Ę Ĉ)] at hd;refine ⟨{t:=aP s.t oi.dst v,b:=s.b},by unfold aI bF;simp only [hw,Ĝ,hd,Ĉ],?_⟩;rw [Ĩ,Ă]
  ·rw [Ą] at hk;cases hk
  ·simp only [bq,C] at ĺ;simp only [(hi0 va [] 0).2] at hw;simp only [(hi0 va _ _).1] at hd;rw [dz ā hne Ć ą q1] at Ũ;rw [HM Ĕ ĝ (Ę Ũ) hd] at ĺ;exact ζ ĺ.1.1 (by simp)
  ·simp only [bg,iY ć,κ,O] at Ģ
 by_cases hSi:bh ops s1.t oi.guard=D J/\ ∃v k y,bB c (cM cf (bg c ops i oi.op)) oi.op s1.t (bF ops base i s1.b) (bN ops.toList i base)=D (v,.upd k y)/\((bq ops i oi.op=J/\sP oi.op y=J)/\cF c ops i oi.op s1.t=J)/\((iz ops i).all fun p=>fQ k (s1.t.get .any p))=J/\s2={t:=aP s1.t oi.dst v,b:=s1.b.set k y}
 ·obtain ⟨Ĺ,vi,k,y,ģ,⟨⟨Ē,ũ⟩,hri⟩,Ğ,rfl⟩:=hSi;have hgi:=Fj ă Ĝ Ē;obtain ⟨Ĕ,Ķ⟩:=ĵ ă ā (by omega) Ć ą Ē ġ;obtain ⟨Ą,ć⟩:=AX Ĕ ġ;have ō:=storeAt ũ ģ
  have main: ∀va,s1={t:=aP s.t oa.dst va,b:=s.b}->aI c cf ops base i oi s=D {t:=aP s.t oi.dst vi,b:=s.b.set k y}:=by intro va e;subst e;simp only [(hi0 va [] 0).2] at Ĺ;simp only [(hi0 va _ _).1] at ģ;rw [j8 Ē ā hne Ć ą] at Ğ;rw [dz ā hne Ć ą q1] at hri;unfold aI;simp only [Ĺ,Ĝ,ģ,Ē,ũ,hri,Ğ,ω]
  rcases Ė with ⟨hw,rfl⟩ | ⟨hw,v,⟨hd,Ĉ,rfl⟩ | ⟨x,hk,_⟩⟩ | hh | ⟨_,_,_,_,Ģ,_⟩
  rotate_right
  ·simp only [bg,iY ć,κ,O] at Ģ
  ·refine ⟨_,main _ rfl,?_⟩;unfold aI;simp only [(ċ vi [] 0).2,hw];rw [Ă]
  ·refine ⟨_,main _ rfl,?_⟩
   have Ū: ∀p,dD oa.op=D p->fQ k (s.t.get .any p)=true:=fun p hp=>by
    obtain ⟨q,hq,ŧ⟩:=Ķ p hp;rw [j8 Ē ā hne Ć ą,U] at Ğ;exact AZ hgi Ĉ hp hq (Ğ q ŧ)
   have İ:=AW (c:=c) (cf:=cM cf (bg c ops a oa.op)) (x:=y) (ms:=dC (fJ ops) a ops.toList 0 base) Ĕ ġ ũ ō Ū (bN ops.toList a base);unfold bF at hd;rw [hd] at İ;unfold aI bF;simp only [(ċ vi [] 0).2,hw,ě,(ċ vi _ _).1,İ,dz ă Đ ą Ć q3,Ĉ];rw [Ă]
  ·rw [Ą] at hk;cases hk
  ·exact ζ hh hSa
 by_cases hPa:bh ops s.t oa.guard=D J/\ ∃v x,bB c (cM cf (bg c ops a oa.op)) oa.op s.t (bF ops base a s.b) (bN ops.toList a base)=D (v,.app x)/\bg c ops a oa.op=J/\((eS ops a).all fun p=>o0 s.b.length (s.t.get .any p))=J/\s1={t:=aP s.t oa.dst v,b:=s.b++ [x]}
 ·obtain ⟨ő,va,x,į,đ,ĩ,rfl⟩:=hPa;rcases ĉ ā ă (by omega) ą Ć (gg đ) ĝ with Ď | ⟨p,q,hp,hq,Ļ⟩
  ·obtain ⟨ē,ć⟩:=sj Ď
   have hxd:x≠ .dead:=QP (yf (by
    have h:=đ;simp only [bg,C] at h;exact h.1.1)) į
   have Ĩ: ∀v Ġ,bF ops base a Ġ=bF ops base a s.b->Ġ.length=s.b.length->aI c cf ops base a oa {t:=aP s.t oi.dst v,b:=Ġ}=D {t:=aP (aP s.t oi.dst v) oa.dst va,b:=Ġ++ [x]}:=fun v Ġ ŗ hb3=>by
    unfold aI;rw [đ] at į;simp only [(ċ v [] 0).2,ő,ě,đ,ŗ,hb3,(Ŕ (cM cf J) v _ _).1,į,fN (gg đ) ă,ĩ,ω]
   rcases ĕ with ⟨hw,rfl⟩ | ⟨hw,v,⟨hd,Ĉ,rfl⟩ | ⟨y,hk,č,hd,rfl⟩⟩ | ⟨_,_,_,_,_,⟨⟨h',_⟩,_⟩,_⟩ | ⟨_,_,_,_,h',_⟩
   ·simp only [(hi0 va [] 0).2] at hw;refine ⟨{t:=aP s.t oi.dst (.aK []),b:=s.b},by unfold aI;rw [hw],?_⟩;rw [Ĩ _ _ rfl rfl,Ă]
   ·simp only [(hi0 va [] 0).2] at hw;rw [dz ā hne Ć ą q1] at Ĉ;rw [alloc_eq Ď _ (cM cf (bg c ops i oi.op)) _ s.t _ (bF ops base i s.b)] at hd;refine ⟨{t:=aP s.t oi.dst v,b:=s.b},by unfold aI;simp only [hw,Ĝ,hd,Ĉ],?_⟩;rw [Ĩ _ _ rfl rfl,Ă]
   ·simp only [(hi0 va [] 0).2] at hw;rw [alloc_eq Ď _ (cM cf (bg c ops i oi.op)) _ s.t _ (bF ops base i s.b)] at hd
    have hlt:bN ops.toList i base<s.b.length:=by
     rcases Η (bN ops.toList i base) s.b.length with h | h
     ·exact h
     ·simp only at č;rw [List.getElem?_append_right h] at č;rcases hz:bN ops.toList i base-s.b.length with _ | n
      ·rw [hz] at č;simp only [γ,η] at č;exact ζ č hxd
      ·rw [hz] at č;simp at č
    simp only at č;rw [χ hlt] at č;refine ⟨{t:=aP s.t oi.dst v,b:=s.b.set (bN ops.toList i base) y},by unfold aI;simp only [hw,Ĝ,hd,hk,č],?_⟩;rw [Ĩ _ _ (Ť hk _ _) (Γ ..),Ă];simp only;rw [ϋ _ _ hlt]
   ·simp only [bq,ē,κ,O] at h'
   ·simp only [bg,iY ć,κ,O] at h'
  obtain ⟨Ą,ē,ć⟩:=j9 hp
  have hcq:o0 s.b.length (s.t.get .any q)=true:=by rw [U] at ĩ;exact ĩ q Ļ
  have hany:=xh ā ě (gg đ)
  have Ę:cF c ops i oi.op s.t=true->o0 s.b.length (s.t.get .any p)=true:=fun h=>by
   unfold cF at h;rw [tT hp] at h;simp only [hq,hany,Τ,θ,C] at h;have h:=h.1;rw [Fo h];exact hcq
  have Ĩ: ∀v,aI c cf ops base a oa {t:=aP s.t oi.dst v,b:=s.b}=D {t:=aP (aP s.t oi.dst v) oa.dst va,b:=s.b++ [x]}:=fun v=>by
   unfold aI;rw [đ] at į;simp only [(ċ v [] 0).2,ő,ě,đ,(Ŕ (cM cf J) v _ _).1,į,fN (gg đ) ă,ĩ,ω]
  rcases ĕ with ⟨hw,rfl⟩ | ⟨hw,v,⟨hd,Ĉ,rfl⟩ | ⟨y,hk,_⟩⟩ | ⟨hw,v,k',y',hd,⟨⟨ĺ,_⟩,Ũ⟩,_⟩ | ⟨_,_,_,_,Ģ,_⟩
  ·simp only [(hi0 va [] 0).2] at hw;refine ⟨{t:=aP s.t oi.dst (.aK []),b:=s.b},by unfold aI;rw [hw],?_⟩;rw [Ĩ,Ă]
  ·simp only [(hi0 va [] 0).2] at hw;simp only [(hi0 va _ _).1] at hd;unfold bF at hd;rw [dz ā hne Ć ą q1] at Ĉ;rw [A5 hp (Ę Ĉ)] at hd;refine ⟨{t:=aP s.t oi.dst v,b:=s.b},by unfold aI bF;simp only [hw,Ĝ,hd,Ĉ],?_⟩;rw [Ĩ,Ă]
  ·rw [Ą] at hk;cases hk
  ·simp only [bq,C] at ĺ;rw [ē] at ĺ;exact ζ ĺ.1.1 (by simp)
  ·simp only [bg,iY ć,κ,O] at Ģ
 by_cases hPi:bh ops s1.t oi.guard=D J/\ ∃v x,bB c (cM cf (bg c ops i oi.op)) oi.op s1.t (bF ops base i s1.b) (bN ops.toList i base)=D (v,.app x)/\bg c ops i oi.op=J/\((eS ops i).all fun p=>o0 s1.b.length (s1.t.get .any p))=J/\s2={t:=aP s1.t oi.dst v,b:=s1.b++ [x]}
 ·obtain ⟨Ĺ,vi,x,ģ,Ē,Ğ,rfl⟩:=hPi;rcases ĉ ă ā (by omega) Ć ą (gg Ē) ġ with Ď | ⟨p,q,hp,hq,Ļ⟩
  ·obtain ⟨ē,ć⟩:=sj Ď
   have main: ∀va ę,s1={t:=aP s.t oa.dst va,b:=ę}->bF ops base i ę=bF ops base i s.b->ę.length=s.b.length->aI c cf ops base i oi s=D {t:=aP s.t oi.dst vi,b:=s.b++ [x]}:=by intro va ę e hb ŗ;subst e;simp only [(hi0 va [] 0).2] at Ĺ;simp only [(hi0 va _ _).1,hb] at ģ;rw [fN (gg Ē) ā] at Ğ;simp only [ŗ] at Ğ;unfold aI;rw [Ē] at ģ;simp only [Ĺ,Ĝ,Ē,ģ,Ğ,ω]
   rcases Ė with ⟨hw,rfl⟩ | ⟨hw,v,⟨hd,Ĉ,rfl⟩ | ⟨y,hk,č,hd,rfl⟩⟩ | ⟨_,_,_,_,_,⟨⟨h',_⟩,_⟩,_⟩ | ⟨_,_,_,_,h',_⟩
   ·refine ⟨_,main _ _ rfl rfl rfl,?_⟩;unfold aI;simp only [(ċ vi [] 0).2,hw];rw [Ă]
   ·refine ⟨_,main _ _ rfl rfl rfl,?_⟩;rw [alloc_eq Ď _ (cM cf (bg c ops a oa.op)) _ (aP s.t oi.dst vi) _ (bF ops base a (s.b++ [x]))] at hd;unfold aI;simp only [(ċ vi [] 0).2,hw,ě,hd,dz ă Đ ą Ć q3,Ĉ];rw [Ă]
   ·refine ⟨_,main _ _ rfl (ţ hk _ _) (Γ ..),?_⟩;rw [alloc_eq Ď _ (cM cf (bg c ops a oa.op)) _ (aP s.t oi.dst vi) _ (bF ops base a (s.b++ [x]))] at hd
    have hlt:bN ops.toList a base<s.b.length:=by
     rcases Η (bN ops.toList a base) s.b.length with h | h
     ·exact h
     ·rw [Ν h] at č;cases č
    have Ĵ:(s.b++ [x])[bN ops.toList a base]?=D .dead:=by rw [χ hlt];exact č
    unfold aI;simp only [(ċ vi [] 0).2,hw,ě,hd,hk,Ĵ];rw [Ă,ϋ _ _ hlt]
   ·simp only [bq,ē,κ,O] at h'
   ·simp only [bg,iY ć,κ,O] at h'
  obtain ⟨Ą,ē,ć⟩:=j9 hp
  have main: ∀va,s1={t:=aP s.t oa.dst va,b:=s.b}->aI c cf ops base i oi s=D {t:=aP s.t oi.dst vi,b:=s.b++ [x]}/\o0 s.b.length (s.t.get .any q)=true:=by
   intro va e;subst e;simp only [(hi0 va [] 0).2] at Ĺ;simp only [(hi0 va _ _).1] at ģ;rw [fN (gg Ē) ā] at Ğ;refine ⟨?_,?_⟩
   ·unfold aI;rw [Ē] at ģ;simp only [Ĺ,Ĝ,Ē,ģ,Ğ,ω]
   ·rw [U] at Ğ;exact Ğ q Ļ
  rcases Ė with ⟨hw,rfl⟩ | ⟨hw,v,⟨hd,Ĉ,rfl⟩ | ⟨y,hk,_⟩⟩ | hh | ⟨_,_,_,_,Ģ,_⟩
  ·refine ⟨_,(main _ rfl).1,?_⟩;unfold aI;simp only [(ċ vi [] 0).2,hw];rw [Ă]
  ·obtain ⟨m1,m2⟩:=main _ rfl;refine ⟨_,m1,?_⟩
   have m2:o0 s.b.length (s.t.get .any p)=true:=by have h:=Ĉ;unfold cF at h;rw [tT hp] at h;simp only [hq,xh ă Ĝ (gg Ē),Τ,θ,C] at h;have h:=h.1;rw [Fo h];exact m2
   have İ:=A5 (c:=c) (cf:=cM cf (bg c ops a oa.op)) (x:=x) (ms:=dC (fJ ops) a ops.toList 0 base) hp m2 (bN ops.toList a base);unfold bF at hd;rw [hd] at İ;unfold aI bF;simp only [(ċ vi [] 0).2,hw,ě,(ċ vi _ _).1,İ,dz ă Đ ą Ć q3,Ĉ];rw [Ă]
  ·rw [Ą] at hk;cases hk
  ·exact ζ hh hSa
  ·simp only [bg,iY ć,κ,O] at Ģ
 /- the second operation, taken first -/
 have ū: ∀(va:AV) (ę:H af),s1={t:=aP s.t oa.dst va,b:=ę}->bF ops base i ę=bF ops base i s.b->(asks oi.op=true->ę[bN ops.toList i base]?=s.b[bN ops.toList i base]?)->
   ∃(vi:AV) (f:H af->H af),aI c cf ops base i oi s=D {t:=aP s.t oi.dst vi,b:=f s.b}/\s2={t:=aP (aP s.t oa.dst va) oi.dst vi,b:=f ę}/\
    (f=id\/(asks oi.op=J/\ ∃y,f=fun bs=>bs.set (bN ops.toList i base) y)):=by
  intro va ę ħ Ņ ď;subst ħ;rcases ĕ with ⟨hw,rfl⟩ | ⟨hw,v,⟨hd,Ĉ,rfl⟩ | ⟨x,Ą,č,hd,rfl⟩⟩ | hh | hh
  case' inr.inr.inl=>exact ζ hh hSi
  case' inr.inr.inr=>exact ζ hh hPi
  ·simp only at hw;rw [(hi0 va [] 0).2] at hw;exact ⟨.aK [],id,by unfold aI;rw [hw];rfl,rfl,.inl rfl⟩
  ·simp only at hw hd;rw [(hi0 va [] 0).2] at hw;rw [(hi0 va _ _).1,Ņ] at hd;have Ŭ:cF c ops i oi.op s.t=true:=by rw [<-dz ā hne Ć ą q1];exact Ĉ
   exact ⟨v,id,by unfold aI;rw [hw,Ĝ];simp only [hd,Ŭ];rfl,rfl,.inl rfl⟩
  ·simp only at hw hd č;rw [(hi0 va [] 0).2] at hw;rw [(hi0 va _ _).1,Ņ] at hd;rw [ď Ą] at č;exact ⟨v,fun bs=>bs.set (bN ops.toList i base) x,by unfold aI;rw [hw,Ĝ];simp only [hd,Ą,č],rfl,.inr ⟨Ą,x,rfl⟩⟩
 /- the first operation, taken second -/
 have fin: ∀(vi:AV) (f:H af->H af),(f=id\/(asks oi.op=J/\ ∃y,f=fun bs=>bs.set (bN ops.toList i base) y))-> ∀(va:AV) (h:H af->H af),(h=id\/(asks oa.op=J/\ ∃x,h=fun bs=>bs.set (bN ops.toList a base) x))->
   ({t:=aP (aP s.t oa.dst va) oi.dst vi,b:=f (h s.b)}:St)={t:=aP (aP s.t oi.dst vi) oa.dst va,b:=h (f s.b)}:=by
  intro vi f hf va h hh;rw [Ă va vi];congr 1;rcases hf with rfl | ⟨ŭ,y,rfl⟩ <;> rcases hh with rfl | ⟨haa,x,rfl⟩ <;> try rfl
  simp only;exact ώ _ _ (Ō haa)
 have ņ: ∀(f:H af->H af),(f=id\/(asks oi.op=J/\ ∃y,f=fun bs=>bs.set (bN ops.toList i base) y))->bF ops base a (f s.b)=bF ops base a s.b:=fun f hf=>by
  rcases hf with rfl | ⟨h,y,rfl⟩
  ·rfl
  ·exact Ť h s.b y
 rcases Ė with ⟨hw,ħ⟩ | ⟨hw,va,⟨hd,Ĉ,ħ⟩ | ⟨x,Ą,č,hd,ħ⟩⟩ | hh | hh
 case' inr.inr.inl=>exact ζ hh hSa
 case' inr.inr.inr=>exact ζ hh hPa
 ·obtain ⟨vi,f,k1,k2,k3⟩:=ū _ _ ħ rfl (fun _=>rfl);refine ⟨_,k1,?_⟩;unfold aI;simp only;rw [(ċ vi [] 0).2,hw];simp only;rw [k2];exact congrArg D (fin vi f k3 (.aK []) id (.inl rfl)).symm
 ·obtain ⟨vi,f,k1,k2,k3⟩:=ū _ _ ħ rfl (fun _=>rfl);refine ⟨_,k1,?_⟩;unfold aI;simp only;rw [(ċ vi [] 0).2,hw,ě];simp only;rw [(ċ vi _ _).1,ņ f k3,hd];simp only [dz ă Đ ą Ć q3,Ĉ];rw [k2];exact congrArg D (fin vi f k3 va id (.inl rfl)).symm
 ·obtain ⟨vi,f,k1,k2,k3⟩:=ū _ _ ħ (ţ Ą s.b x) (fun _=>by rw [Κ,ϒ (Ō Ą)]);refine ⟨_,k1,?_⟩;unfold aI;simp only;rw [(ċ vi [] 0).2,hw,ě];simp only;rw [(ċ vi _ _).1,ņ f k3,hd]
  have Ĵ:(f s.b)[bN ops.toList a base]?=D .dead:=by
   rcases k3 with rfl | ⟨ŭ,y,rfl⟩
   ·exact č
   ·simp only;rw [Κ,ϒ (fun e=>Ō Ą e.symm)];exact č
  simp only [Ą,Ĵ];rw [k2];exact congrArg D (fin vi f k3 va (fun bs=>bs.set (bN ops.toList a base) x) (.inr ⟨Ą,x,rfl⟩)).symm
def steps (c:aD) (cf:aQ) (ops:Z T) (base:M):H M->St->I St
 | [],s=>D s
 | i::r,s=>match ops[i]? with
  | some o=>match aI c cf ops base i o s with
   | some s'=>steps c cf ops base r s'
   | none=>W
  | none=>W
theorem nT: ∀(l:H T) (k:M) (s:St),(∀j,l[j]?=ops[k+j]?)->Kt c cf ops base l k s=steps c cf ops base (List.range' k (É l)) s
 | [],k,s,_=>rfl
 | o::r,k,s,h=>by
  have h0:ops[k]?=D o:=by simpa using (h 0).symm
  simp only [Kt,ϑ,List.range'_succ,steps,h0];cases hs:aI c cf ops base k o s with
  | none=>rfl
  | some s'=>simp only;exact nT r (k+1) s' (fun j=>by have:=h (j+1);simpa [Nat.add_assoc,Nat.add_comm 1 j] using this)
theorem yQ {i:M} {oi:T} (ă:ops[i]?=D oi): ∀(A B:H M) (s s':St),(∀a∈A,a<i/\ordered (fJ ops) a i=R/\ordered (fJ ops) i a=R/\ ∀oa,ops[a]?=D oa->oa.apart ops oi=J)->
  steps c cf ops base (A++i::B) s=D s'-> ∃s1,aI c cf ops base i oi s=D s1/\steps c cf ops base (A++B) s1=D s'
 | [],B,s,s',_,h=>by
  simp only [List.nil_append,steps,ă] at h;split at h
  ·rename_i s1 ħ;exact ⟨s1,ħ,h⟩
  ·cases h
 | a::A,B,s,s',hA,h=>by
  simp only [ϓ,steps] at h;split at h
  ·rename_i oa ā;split at h
   ·rename_i s1 ħ;obtain ⟨s2,h2,h3⟩:=yQ ă A B s1 s' (fun x hx=>hA x (ξ _ hx)) h;obtain ⟨q1,q2,q3,q4⟩:=hA a ε;obtain ⟨ŋ,k1,k2⟩:=comm ā ă q1 (q4 oa ā) q2 q3 ħ h2;exact ⟨ŋ,k1,by simp only [ϓ,steps,ā,k2];exact h3⟩
   ·cases h
  ·cases h
variable {P:Φ} [Kn]
theorem EL (hc:cb c P) (Ŋ:rZ P cf) (Ń:E7 P c) (hdr:uF ops=J) {Q:Exit->Act->Θ->Prop} {s':St} {g0:Gh} {w0:Θ} {ds:H Deferred} {ro:I M}
  (hQ: ∀a' w',Jl ds g0 w0 s' a' w'->Q .normal a' w'):
  ∀(fuel:M) (L:H M) (listed:Z δ) (s:St) (g:Gh) (w:Θ) (a:Act),É L=fuel->L.Pairwise (· < ·)->listed.size=ops.size->(∀j,j∈L↔j<ops.size/\listed.getD j J=R)->
   (∀j x,j<ops.size->listed.getD j J=true->ordered (fJ ops) x j=true->listed.getD x J=J)->
   steps c cf ops base L s=D s'->Mem g s.b w->gv g w s.t a->a.defers=ds->Le g0 w0 g w->Fr g0 w0 g w->wpAnyIn (FW ro) 0 P .any ops Q fuel listed a w:=by
 simp only [uF,C] at hdr;obtain ⟨Ĥ,Ŏ⟩:=hdr;intro fuel
 induction fuel with
 | zero=>intro L listed s g w a ļ ğ Ň Č ň h hm ht hd hl hf;have hL:L= []:=List.eq_nil_of_length_eq_zero ļ;subst hL;cases h;refine ⟨?_,hQ a w ⟨hd,g,hm,ht,hl,hf⟩⟩;unfold Region.ready;rw [List.filter_eq_nil_iff];intro j hj hr;rw [Λ] at hj;simp only [C,Μ] at hr;exact ζ ((Č j).2 ⟨hj,hr.1⟩) (by simp)
 | succ fuel ih=>
  intro L listed s g w a ļ ğ Ň Č ň h hm ht hd hl hf;refine ⟨fun hr=> ?_,fun i hi=> ?_⟩
  ·exfalso;cases L with
   | nil=>simp at ļ
   | cons i0 L=>
    obtain ⟨h1,h2⟩:=(Č i0).1 ε
    have:i0∈Region.ready .any ops listed:=by
     unfold Region.ready;rw [ϊ,Λ];refine ⟨h1,?_⟩;have ho:ops[i0]?=D ops[i0]:=by simp [h1]
     simp only [h2,ho,Α,Ο,Bool.not_false,Bool.true_and,μ];intro e he;cases hb:Region.binds .any e with
     | false=>rfl
     | true=>
      have hlt:=iL ops.toList 0 i0 ops[i0] Ĥ (by simp [h1]) e he hb;simp only [ι] at hlt
      have ř:listed.getD e.on J=true:=by
       cases hx:listed.getD e.on J with
       | true=>rfl
       | false=>
        have hin:=(Č e.on).2 ⟨by omega,hx⟩;rcases List.mem_cons.1 hin with rfl | hin
        ·omega
        ·have:=Ω ğ hin;omega
      have Ů:e.on<listed.size:=by omega
      simp [Ů] at ř⊢;exact ř
    rw [hr] at this;cases this
  ·unfold Region.ready at hi;rw [ϊ,Λ] at hi;obtain ⟨Ħ,hi⟩:=hi;simp only [C,Μ] at hi;obtain ⟨hun,ů⟩:=hi;have ă:ops[i]?=D ops[i]:=by simp [Ħ]
   rw [ă] at ů;simp only [Α,Ο,μ] at ů
   have Ľ: ∀x,ordered (fJ ops) x i=true->listed.getD x J=true:=fun x hx=>by
    obtain ⟨e,he,hb,h3⟩:=nY Ĥ ă hx;have h4:=ů e he;rw [hb] at h4;have hlt:=iL ops.toList 0 i ops[i] Ĥ (by simp [Ħ]) e he hb;simp only [ι] at hlt;have Ů:e.on<listed.size:=by omega
    have h5:listed.getD e.on J=true:=by simp [Ů] at h4⊢;exact h4
    rcases h3 with rfl | h3
    ·exact h5
    ·exact ň e.on x (by omega) h5 h3
   obtain ⟨A,B,rfl⟩:=List.append_of_mem ((Č i).2 ⟨Ħ,hun⟩)
   have hA: ∀x∈A,x<i/\ordered (fJ ops) x i=R/\ordered (fJ ops) i x=R/\ ∀ox,ops[x]?=D ox->ox.apart ops ops[i]=true:=fun x hx=>by
    have hlt:x<i:=(List.pairwise_append.1 ğ).2.2 x hx i ε;obtain ⟨hxs,hxu⟩:=(Č x).1 (List.mem_append_left _ hx)
    have h1:ordered (fJ ops) x i=false:=by
     cases hh:ordered (fJ ops) x i with
     | false=>rfl
     | true=>rw [Ľ x hh] at hxu;cases hxu
    have h2:ordered (fJ ops) i x=false:=by
     cases hh:ordered (fJ ops) i x with
     | false=>rfl
     | true=>have:=HK Ĥ x i hxs hh;omega
    refine ⟨hlt,h1,h2,fun ox hox=> ?_⟩;have:=Ff ops.toList 0 x i ox ops[i] Ŏ (by simpa using hox) hlt (by simp [Ħ]);simp only [ι,h1,O,false_or] at this;exact this
   obtain ⟨s1,h1,h2⟩:=yQ ă A B s s' hA h
   have next: ∀(g':Gh) (w':Θ) (a':Act),Mem g' s1.b w'->gv g' w' s1.t a'->a'.defers=ds->Le g0 w0 g' w'->Fr g0 w0 g' w'->wpAnyIn (FW ro) 0 P .any ops Q fuel (listed.setIfInBounds i J) a' w':=fun g' w' a' Ő ht' İ hl' hf'=>by
    refine ih (A++B) (listed.setIfInBounds i J) s1 g' w' a' (by simp at ļ⊢;omega) ?_ (by simp [Ň]) (fun j=> ?_) (fun j x hj hlj hx=> ?_) h2 Ő ht' İ hl' hf'
    ·exact ğ.sublist (List.Sublist.append_left (List.sublist_cons_self i B) A)
    ·have hj:=Č j
     have hnd:i∉A/\i∉B:=by
      obtain ⟨p1,p2,p3⟩:=List.pairwise_append.1 ğ;refine ⟨fun hx=> ?_,fun hx=> ?_⟩
      ·have:=p3 i hx i ε;omega
      ·have:=Ω p2 hx;omega
     by_cases e:j=i
     ·subst e;have hjs:j<listed.size:=by omega
      simp [hnd.1,hnd.2,hjs]
     ·rw [Β,ϖ] at hj
      have hg:(listed.setIfInBounds i J).getD j J=listed.getD j true:=by simp [N,X (Ne.symm e)]
      rw [hg,Β,<-hj];constructor
      ·rintro (hx | hx)
       ·exact .inl hx
       ·exact .inr (.inr hx)
      ·rintro (hx | rfl | hx)
       ·exact .inl hx
       ·exact ζ rfl e
       ·exact .inr hx
    ·have Ś: ∀y,listed.getD y J=true->(listed.setIfInBounds i J).getD y J=true:=fun y hy=>by
      by_cases e:y=i
      ·subst e;have hys:y<listed.size:=by omega
       simp [hys]
      ·simp only [N] at hy⊢;rw [X (Ne.symm e)];exact hy
     by_cases e:j=i
     ·subst e;exact Ś x (Ľ x hx)
     ·have hg:listed.getD j J=true:=by
       simp only [N] at hlj⊢
       rwa [X (Ne.symm e)] at hlj
      exact Ś x (ň j x hj hg hx)
   unfold wpOpIn;rw [ă];simp only;unfold aI at h1;split at h1
   ·rename_i hw;rw [kN ht hw,Ε rfl];split at h1
    ·split at h1
     ·rename_i v e Ī;split at h1
      ·rename_i bs' he;cases h1;exact nX hc Ŋ Ń hm ht Ī he (fun v' w' g' k1 k2 k3 k4=>next g' w' _ k1 ((ht.mono k2).put _ k4) (by rw [put_defers];exact hd) (hl.trans k2) (hf.trans k3)) ro
      ·cases h1
     ·cases h1
    ·split at h1
     ·rename_i v Ī;split at h1
      case h_2=>cases h1
      cases h1;have ė:=ye (dZ _ s.b) (e:= .none) trivial Ī;exact nX hc (pG Ŋ _) Ń hm ht ė rfl (fun v' w' g' k1 k2 k3 k4=>next g' w' _ k1 ((ht.mono k2).put _ k4) (by rw [put_defers];exact hd) (hl.trans k2) (hf.trans k3)) ro
     ·rename_i v x Ī;split at h1
      ·rename_i Ą ď;cases h1;have ė:=ye (dZ _ s.b) (e:= .new x) trivial Ī;exact nX hc (pG Ŋ _) Ń hm ht ė (bs':=s.b.set (bN ops.toList i base) x) (by simp only [dy.on,ď]) (fun v' w' g' k1 k2 k3 k4=>next g' w' _ k1 ((ht.mono k2).put _ k4) (by rw [put_defers];exact hd) (hl.trans k2) (hf.trans k3)) ro
      ·cases h1
     ·rename_i v k x Ī;split at h1
      ·rename_i Ā;cases h1;rw [C,C,C] at Ā
       have ė:bB c (cM cf (bg c ops i ops[i].op)) ops[i].op s.t s.b (bN ops.toList i base)=D (v,.upd k x):=by
        have hx:=Ā.1.1.2;cases x with
        | var ty cs=>exact K6 hx (dZ _ s.b) Ī
        | sl sh sz es=>exact Nw hx (dZ _ s.b) Ī
        | dead=>cases hx
        | loop st=>cases hx
        | mp es clock=>cases hx
        | gone=>cases hx
        | iter o=>cases hx
       exact nX hc (pG Ŋ _) Ń hm ht ė (bs':=s.b.set k x) rfl (fun v' w' g' k1 k2 k3 k4=>next g' w' _ k1 ((ht.mono k2).put _ k4) (by rw [put_defers];exact hd) (hl.trans k2) (hf.trans k3)) ro
      ·cases h1
     ·rename_i v x Ī;split at h1
      ·rename_i Ā;cases h1;rw [C] at Ā
       have hcv:cQ ops[i].op=true:=by have:=Ā.1;simp only [bg,C] at this;exact yf this.1.1
       have ė:=QO (dZ _ s.b) (pF _ s.b) hcv Ī;exact nX hc (pG Ŋ _) Ń hm ht ė (bs':=s.b++ [x]) rfl (fun v' w' g' k1 k2 k3 k4=>next g' w' _ k1 ((ht.mono k2).put _ k4) (by rw [put_defers];exact hd) (hl.trans k2) (hf.trans k3)) ro
      ·cases h1
     ·rename_i v k Ī;split at h1
      ·rename_i Ā;cases h1;rw [C] at Ā
       have ŕ:xM c ops[i].op=true:=by have h:=Ā.1;simp only [fR,C] at h;exact h.1.1
       obtain ⟨sh,sz,es,Ŗ,hgo⟩:=Db ŕ Ī;have ė:=hgo (cM cf (bg c ops i ops[i].op)) s.b (bN ops.toList i base) ((dZ _ s.b).sl Ŗ);exact nX hc (pG Ŋ _) Ń hm ht ė (bs':=s.b.set k .gone) rfl (fun v' w' g' k1 k2 k3 k4=>next g' w' _ k1 ((ht.mono k2).put _ k4) (by rw [put_defers];exact hd) (hl.trans k2) (hf.trans k3)) ro
      ·cases h1
     ·cases h1
   ·rename_i hw;cases h1;rw [kN ht hw,ϒ (by simp)];refine ⟨fun _ _=>trivial,?_⟩;exact next g w _ hm (ht.put _ (.aK [] #[] rfl (fun i c v h=>by simp at h))) (by rw [put_defers];exact hd) hl hf
   ·cases h1
end
end Go.Am
namespace Go.Am
def A6 (o:T) (l:H Edge):T:=⟨o.dst,o.op,o.type,o.pos,l.toArray,o.guard⟩
def La (σ:M->M) (l:H Edge):H Edge:=l.map fun e=>⟨σ e.on,e.ground⟩
def sg (i j k:M):M:=if k<i then k else if k=i then j else if k<=j then k-1 else k
def ta (i j p:M):M:=if p<i then p else if p<j then p+1 else if p=j then i else p
def fF (σ τ:M->M) (x y:M) (ops:Z T):Z T:=
 ((Ρ ops.size).map fun p=>A6 (ops.getD (τ p) default) (if τ p=y then ⟨σ x,.data⟩::La σ (ops.getD (τ p) default).after.toList else La σ (ops.getD (τ p) default).after.toList)).toArray
def ql:Op->δ
 | .move _ | .assign _ | .build .. | .makeMap .. | .insert .. | .load .. | .fieldAddr .. | .indexAddr .. | .binOp .. | .unOp .. | .convert .. | .buildSlice .. | .extract .. | .alloc _ | .box .. | .field .. | .index .. | .store .. | .slice .. =>J
 | _=>R
def Nz:H T->M->H M
 | [],_=> []
 | o::r,k=>match o.op with
  | .insert .. =>k::Nz r (k+1)
  | _=>Nz r (k+1)
def NA (ops:Z T) (i j k:M):δ:=match ops[k]? with
 | some o=>o.guard.isNone&&(ql o.op || ordered (fJ ops) i k || ordered (fJ ops) j k || k==i || k==j)
 | none=>J
def NB (ops:Z T) (i j:M):δ:=decide (i<j)&&decide (j<ops.size)&&((Ρ ops.size).all fun k=>NA ops i j k)&&dv ops.toList 0
structure A7 (ops ops':Z T) (σ:M->M) (x y:M):Prop where
 size:ops'.size=ops.size
 lt: ∀k,k<ops.size->σ k<ops.size
 inj: ∀k l,k<ops.size->l<ops.size->σ k=σ l->k=l
 Vn: ∀p,p<ops.size-> ∃k,k<ops.size/\σ k=p
 at_: ∀k o,ops[k]?=D o->ops'[σ k]?=D (A6 o (if k=y then ⟨σ x,.data⟩::La σ o.after.toList else La σ o.after.toList))
 xlt:x<ops.size
theorem SR {σ τ:M->M} {x y:M} {ops:Z T} (h1: ∀k,k<ops.size->σ k<ops.size/\τ (σ k)=k) (h2: ∀p,p<ops.size->τ p<ops.size/\σ (τ p)=p) (hx:x<ops.size):A7 ops (fF σ τ x y ops) σ x y where
 size:=by simp [fF]
 lt:=fun k hk=>(h1 k hk).1
 inj:=fun k l hk hl h=>by rw [<-(h1 k hk).2,<-(h1 l hl).2,h]
 Vn:=fun p hp=>⟨τ p,(h2 p hp).1,(h2 p hp).2⟩
 at_:=fun k o ho=>by
  have hk:k<ops.size:=by
   rcases Η k ops.size with h | h
   ·exact h
   ·rw [ο h] at ho;cases ho
  obtain ⟨h3,h4⟩:=h1 k hk;have hg:ops.getD k default=o:=by rw [N,ho];rfl
  unfold fF;rw [List.getElem?_toArray,List.getElem?_map,List.getElem?_range h3];simp only [Α,h4,hg]
 xlt:=hx
theorem ZY {i j n:M} (ŏ:i<j) (hj:j<n):(∀k,k<n->sg i j k<n/\ta i j (sg i j k)=k)/\ ∀p,p<n->ta i j p<n/\sg i j (ta i j p)=p:=by
 constructor
 ·intro k hk;unfold sg ta;refine ⟨?_,?_⟩
  ·repeat' split
   all_goals omega
  ·repeat' split
   all_goals omega
 ·intro p hp;unfold sg ta;refine ⟨?_,?_⟩
  ·repeat' split
   all_goals omega
  ·repeat' split
   all_goals omega
structure Rl (σ:M->M) (n:M) (l l':Z δ):Prop where
 s1:l.size=n
 s2:l'.size=n
 same: ∀k,k<n->l'.getD (σ k) J=l.getD k J
theorem uY {l:Z δ} {k:M} (h:k<l.size) (a b:δ):l.getD k a=l.getD k b:=by simp [N,h]
theorem Rl.put {σ:M->M} {n:M} {l l':Z δ} (h:Rl σ n l l') (Ű: ∀a b,a<n->b<n->σ a=σ b->a=b) {k:M} (hk:k<n):Rl σ n (l.setIfInBounds k J) (l'.setIfInBounds (σ k) J):=by
 refine ⟨by simp [h.s1],by simp [h.s2],fun q hq=> ?_⟩;have hs:=h.same q hq;by_cases e:q=k
 ·subst e;simp only [N,Δ] at hs⊢;simp only [Ε];have:q<l.size:=by rw [h.s1];exact hq
  simp [this];split <;> rfl
 ·have e2:σ q≠σ k:=fun hh=>e (Ű q k hq hk hh);simp only [N] at hs⊢;rw [X (Ne.symm e2),X (Ne.symm e)];exact hs
theorem yR {l:Z δ} {k x:M} (h:l.getD x J=J):(l.setIfInBounds k J).getD x J=true:=by
 by_cases e:x=k
 ·subst e;simp [N,Δ];split <;> rfl
 ·simp only [N] at h⊢;rw [X (Ne.symm e)];exact h
theorem Ft {l:Z δ} {k:M}:(l.setIfInBounds k J).getD k J=true:=by simp [N,Δ];split <;> rfl
theorem HS {l:Z δ} {k x:M} (e:x≠k):(l.setIfInBounds k J).getD x J=l.getD x true:=by simp only [N];rw [X (Ne.symm e)]
theorem eK {ops:Z T} {l:Z δ} {k:M}:k∈Region.ready .any ops l↔ ∃o,ops[k]?=D o/\l.getD k J=R/\ ∀e∈o.after.toList,Region.binds .any e=true->l.getD e.on R=true:=by
 unfold Region.ready;rw [ϊ,Λ];constructor
 ·rintro ⟨h1,h2⟩;have ho:ops[k]?=D ops[k]:=by simp [h1]
  rw [ho] at h2;simp only [C,Μ,Α,Ο,μ] at h2;refine ⟨_,ho,h2.1,fun e he hb=> ?_⟩;have:=h2.2 e (by simpa using he);rw [hb] at this;simpa using this
 ·rintro ⟨o,ho,h2,h3⟩
  have h1:k<ops.size:=by
   rcases Η k ops.size with h | h
   ·exact h
   ·rw [ο h] at ho;cases ho
  refine ⟨h1,?_⟩;rw [ho];simp only [C,Μ,Α,Ο,μ];refine ⟨h2,fun e he=> ?_⟩;cases hb:Region.binds .any e with
  | false=>rfl
  | true=>have:=h3 e (by simpa using he) hb;simpa using this
section
variable {ops ops':Z T} {σ:M->M} {x y:M}
theorem wg {k:M} {o:T} (ho:ops[k]?=D o):k<ops.size:=by
 rcases Η k ops.size with h | h
 ·exact h
 ·rw [ο h] at ho;cases ho
theorem Dc (hb:dv ops.toList 0=J) {k:M} {o:T} (ho:ops[k]?=D o) {e:Edge} (he:e∈o.after.toList) (hbi:Region.binds .any e=J):e.on<ops.size:=by have hk:=wg ho;have h:=iL ops.toList 0 k o hb (by simpa using ho) e (by simpa using he) hbi;omega
theorem gL (h:A7 ops ops' σ x y) (hb:dv ops.toList 0=J) {l l':Z δ} (hr:Rl σ ops.size l l') {k:M} (hk:k<ops.size):σ k∈Region.ready .any ops' l'↔k∈Region.ready .any ops l/\(k=y->l.getD x J=J):=by
 have ho:ops[k]?=D ops[k]:=by simp [hk]
 have ha:=h.at_ k _ ho
 have hg: ∀q,q<ops.size->l'.getD (σ q) R=l.getD q true:=fun q hq=>by
  rw [uY (by rw [hr.s2];exact h.lt q hq) R J,hr.same q hq]
 have hg2: ∀q,q<ops.size->l.getD q R=l.getD q true:=fun q hq=>uY (by rw [hr.s1];exact hq) _ _;rw [eK,eK];constructor
 ·rintro ⟨o',h1,h2,h3⟩;rw [ha] at h1;cases h1;rw [hr.same k hk] at h2;refine ⟨⟨_,ho,h2,fun e he hbi=> ?_⟩,fun ű=> ?_⟩
  ·have hlt:=Dc hb ho he hbi;have hin:(⟨σ e.on,e.ground⟩:Edge)∈La σ ops[k].after.toList:=List.mem_map.mpr ⟨e,he,rfl⟩
   have:=h3 ⟨σ e.on,e.ground⟩ (by
    simp only [A6];split
    ·exact ξ _ hin
    ·exact hin) hbi
   rw [hg _ hlt] at this;rw [hg2 _ hlt];exact this
  ·have:=h3 ⟨σ x,.data⟩ (by simp only [A6,Ε ű];exact ε ..) rfl;rw [hg _ h.xlt] at this;exact this
 ·rintro ⟨⟨o,h1,h2,h3⟩,h4⟩;rw [ho] at h1;cases h1;refine ⟨_,ha,by rw [hr.same k hk];exact h2,fun e he hbi=> ?_⟩
  have old:e∈La σ ops[k].after.toList->l'.getD e.on R=true:=fun hin=>by
   obtain ⟨e0,he0,rfl⟩:=List.mem_map.1 hin;have hlt:=Dc hb ho he0 hbi;rw [hg _ hlt,<-hg2 _ hlt];exact h3 e0 he0 hbi
  simp only [A6] at he;split at he
  ·rename_i ű;rcases List.mem_cons.1 he with rfl | hin
   ·rw [hg _ h.xlt];exact h4 ű
   ·exact old hin
  ·exact old he
variable {F:Fence} {n:M} {P:Φ} {Q:Exit->Act->Θ->Prop}
theorem HT (h:A7 ops ops' σ x y) (hg: ∀o∈ops.toList,o.guard=W) {k:M} (hk:k<ops.size) {K:Act->Θ->Prop} {a:Act} {w:Θ} (hw:wpOpIn F n P ops' Q (σ k) K a w):wpOpIn F n P ops Q k K a w:=by
 have ho:ops[k]?=D ops[k]:=by simp [hk]
 have Ų:ops[k].guard=none:=hg _ (by simp);unfold wpOpIn at hw⊢;rw [h.at_ k _ ho] at hw;rw [ho];simp only [Region.wanted,A6,Ų,if_true] at hw⊢;exact hw
theorem Ju (h:A7 ops ops' σ x y) (hb:dv ops.toList 0=J) (hg: ∀o∈ops.toList,o.guard=W): ∀(fuel:M) (l l':Z δ) (a:Act) (w:Θ),Rl σ ops.size l l'->l.getD x J=true->
  wpAnyIn F n P .any ops' Q fuel l' a w->wpAnyIn F n P .any ops Q fuel l a w:=by
 intro fuel
 induction fuel with
 | zero=>intro l l' a w hr hx hw;refine ⟨List.eq_nil_iff_forall_not_mem.2 fun k hk=> ?_,hw.2⟩;have Ě:=wg (eK.1 hk).choose_spec.1;have:=(gL h hb hr Ě).2 ⟨hk,fun _=>hx⟩;rw [hw.1] at this;cases this
 | succ fuel ih=>
  intro l l' a w hr hx hw;refine ⟨fun he=>hw.1 (List.eq_nil_iff_forall_not_mem.2 fun p hp=> ?_),fun k hk=> ?_⟩
  ·have ś:=wg (eK.1 hp).choose_spec.1;rw [h.size] at ś;obtain ⟨k,hk,rfl⟩:=h.Vn p ś;have:=((gL h hb hr hk).1 hp).1;rw [he] at this;cases this
  ·have Ě:=wg (eK.1 hk).choose_spec.1;have h1:=hw.2 (σ k) ((gL h hb hr Ě).2 ⟨hk,fun _=>hx⟩);exact HT h hg Ě (ό (fun a' w' h2=>ih _ _ a' w' (hr.put h.inj Ě) (yR hx) h2) h1)
end
theorem ZZ {P:Φ} {s:Sem Value} {w:Θ}:(do let x<-s;pure (Next.value x):Sem Next).run P w=match s.run P w with
  | .ok x w'=> .ok (.value x) w'
  | .halt h w'=> .halt h w':=by
 rw [Sem.run_bind];cases s.run P w <;> rfl
theorem Z0 {P:Φ} {s:Sem Unit} {w:Θ}:(do s;pure Next.skip:Sem Next).run P w=match s.run P w with
  | .ok _ w'=> .ok .skip w'
  | .halt h w'=> .halt h w':=by
 rw [Sem.run_bind];cases s.run P w <;> rfl
section
variable {F:Fence} {n:M} {P:Φ} {Q:Exit->Act->Θ->Prop}
theorem NC {o:T} {a:Act} {K1 K2:Act->Θ->Prop} {r:Result Next} (hr: ∀x w',r= .ok x w'->(∃v,x= .value v)\/x= .skip) (h1:o.uponIn F n P a K1 Q r) (h2:o.uponIn F n P a K2 Q r):o.uponIn F n P a (fun a w=>K1 a w/\K2 a w) Q r:=by
 cases r with
 | ok x w'=>
  rcases hr x w' rfl with ⟨v,rfl⟩ | rfl
  ·exact ⟨h1,h2⟩
  ·exact ⟨h1,h2⟩
 | halt x w'=>cases x <;> first | exact h1 | exact ζ h1 (by simp [Oper.uponIn])
theorem Lc {o:T} (hq:ql o.op=J) {a:Act} {w:Θ} {K1 K2:Act->Θ->Prop} (h1:o.wpIn F n P a w K1 Q) (h2:o.wpIn F n P a w K2 Q):o.wpIn F n P a w (fun a w=>K1 a w/\K2 a w) Q:=by
 refine ⟨h1.1,NC ?_ h1.2 h2.2⟩;intro x w' hx;rw [Oper.semAt_eq _ _ _ (by intro c hc;rw [hc] at hq;cases hq)] at hx;unfold execOp at hx;cases ho:o.op <;> rw [ho] at hq hx <;> try cases hq
 all_goals
  simp only at hx
  first
  | (cases hx;exact .inl ⟨_,rfl⟩)
  | (rw [ZZ] at hx;split at hx <;> cases hx;exact .inl ⟨_,rfl⟩)
  | (rw [Z0] at hx;split at hx <;> cases hx;exact .inr rfl)
end
section
variable {F:Fence} {n:M} {P:Φ} {Q:Exit->Act->Θ->Prop} {ops o1 o2:Z T} {σ1 σ2:M->M} {i j:M}
theorem NG (hg: ∀o∈ops.toList,o.guard=W) {k:M} {o:T} (ho:ops[k]?=D o) (hqu:ql o.op=J) {K1 K2:Act->Θ->Prop} {a:Act} {w:Θ} (h1:wpOpIn F n P ops Q k K1 a w) (h2:wpOpIn F n P ops Q k K2 a w):wpOpIn F n P ops Q k (fun a w=>K1 a w/\K2 a w) a w:=by have Ų:o.guard=none:=hg _ (Array.mem_toList_iff.mpr (Array.mem_of_getElem? ho));unfold wpOpIn at h1 h2⊢;rw [ho] at h1 h2⊢;simp only [Region.wanted,Ų,if_true] at h1 h2⊢;exact Lc hqu h1 h2
def yS (ops:Z T) (l:Z δ):Prop:= ∀k x,k<ops.size->l.getD k J=true->ordered (fJ ops) x k=true->l.getD x J=J
theorem pH (hb:dv ops.toList 0=J) {l:Z δ} (hs:l.size=ops.size) (hc:yS ops l) {k x:M} (hk:k∈Region.ready .any ops l) (hx:ordered (fJ ops) x k=J):l.getD x J=true:=by
 obtain ⟨o,ho,_,h3⟩:=eK.1 hk;obtain ⟨e,he,hbi,h4⟩:=nY hb ho hx;have he2:e∈o.after.toList:=by simpa using he
 have hlt:=Dc hb ho he2 hbi;have hl:=h3 e he2 hbi;rw [uY (by rw [hs];exact hlt) R J] at hl;rcases h4 with rfl | h4
 ·exact hl
 ·exact hc e.on x hlt hl h4
theorem yS.put (hb:dv ops.toList 0=J) {l:Z δ} (hs:l.size=ops.size) (hc:yS ops l) {k:M} (hk:k∈Region.ready .any ops l):yS ops (l.setIfInBounds k J):=fun q x hq hlq hx=>by
 by_cases e:q=k
 ·subst e;exact yR (pH hb hs hc hk hx)
 ·rw [HS e] at hlq;exact yR (hc q x hq hlq hx)
theorem QQ (ŏ:i≠j) (h1:A7 ops o1 σ1 i j) (h2:A7 ops o2 σ2 j i) (hb:dv ops.toList 0=J) (hg: ∀o∈ops.toList,o.guard=W) (hq: ∀k o,ops[k]?=D o->ql o.op=J\/ordered (fJ ops) i k=J\/ordered (fJ ops) j k=J\/k=i\/k=j): ∀(fuel:M) (l l1 l2:Z δ) (a:Act) (w:Θ),yS ops l->Rl σ1 ops.size l l1->Rl σ2 ops.size l l2->l.getD i J=false->l.getD j J=false->
  wpAnyIn F n P .any o1 Q fuel l1 a w->wpAnyIn F n P .any o2 Q fuel l2 a w->wpAnyIn F n P .any ops Q fuel l a w:=by
 intro fuel
 induction fuel with
 | zero=>
  intro l l1 l2 a w ň r1 r2 hi hj w1 w2;refine ⟨List.eq_nil_iff_forall_not_mem.2 fun k hk=> ?_,w1.2⟩;have Ě:=wg (eK.1 hk).choose_spec.1;by_cases e:k=j
  ·have:=(gL h2 hb r2 Ě).2 ⟨hk,fun e2=>ζ (e2.symm.trans e) ŏ⟩;rw [w2.1] at this;cases this
  ·have:=(gL h1 hb r1 Ě).2 ⟨hk,fun e2=>ζ e2 e⟩;rw [w1.1] at this;cases this
 | succ fuel ih=>
  intro l l1 l2 a w ň r1 r2 hi hj w1 w2;refine ⟨fun he=>w1.1 (List.eq_nil_iff_forall_not_mem.2 fun p hp=> ?_),fun k hk=> ?_⟩
  ·have ś:=wg (eK.1 hp).choose_spec.1;rw [h1.size] at ś;obtain ⟨k,hk,rfl⟩:=h1.Vn p ś;have:=((gL h1 hb r1 hk).1 hp).1;rw [he] at this;cases this
  ·have Ě:=wg (eK.1 hk).choose_spec.1;have k1:k≠j->wpOpIn F n P ops Q k (wpAnyIn F n P .any o1 Q fuel (l1.setIfInBounds (σ1 k) J)) a w:=fun e=>HT h1 hg Ě (w1.2 (σ1 k) ((gL h1 hb r1 Ě).2 ⟨hk,fun e2=>ζ e2 e⟩));have k2:k≠i->wpOpIn F n P ops Q k (wpAnyIn F n P .any o2 Q fuel (l2.setIfInBounds (σ2 k) J)) a w:=fun e=>HT h2 hg Ě (w2.2 (σ2 k) ((gL h2 hb r2 Ě).2 ⟨hk,fun e2=>ζ e2 e⟩));by_cases e1:k=i
   ·subst e1;exact ό (fun a' w' h3=>Ju h1 hb hg fuel _ _ a' w' (r1.put h1.inj Ě) Ft h3) (k1 ŏ)
   by_cases e2:k=j
   ·subst e2;exact ό (fun a' w' h3=>Ju h2 hb hg fuel _ _ a' w' (r2.put h2.inj Ě) Ft h3) (k2 (Ne.symm ŏ))
   have ho:ops[k]?=D ops[k]:=by simp [Ě]
   have hqu:ql ops[k].op=true:=by
    rcases hq k _ ho with q | q | q | q | q
    ·exact q
    ·rw [pH hb r1.s1 ň hk q] at hi;cases hi
    ·rw [pH hb r1.s1 ň hk q] at hj;cases hj
    ·exact ζ q e1
    ·exact ζ q e2
   refine ό (fun a' w' h3=> ?_) (NG hg ho hqu (k1 e2) (k2 e1));exact ih _ _ _ a' w' (ň.put hb r1.s1 hk) (r1.put h1.inj Ě) (r2.put h2.inj Ě) (by rw [HS (Ne.symm e1)];exact hi) (by rw [HS (Ne.symm e2)];exact hj) h3.1 h3.2
theorem Qo (ho:NB ops i j=J) {a:Act} {w:Θ} (w1:wpAnyIn F n P .any (fF id id i j ops) Q (fF id id i j ops).size (ψ (fF id id i j ops).size R) a w)
  (w2:wpAnyIn F n P .any (fF (sg i j) (ta i j) j i ops) Q (fF (sg i j) (ta i j) j i ops).size (ψ (fF (sg i j) (ta i j) j i ops).size R) a w):wpAnyIn F n P .any ops Q ops.size (ψ ops.size R) a w:=by
 simp only [NB,C,decide_eq_true_eq,U,Λ] at ho;obtain ⟨⟨⟨ŏ,hj⟩,Ľ⟩,hb⟩:=ho
 have Ŝ: ∀k o,ops[k]?=D o->o.guard=W/\(ql o.op=J\/ordered (fJ ops) i k=J\/ordered (fJ ops) j k=J\/k=i\/k=j):=fun k o hk=>by
  have h:=Ľ k (wg hk);unfold NA at h;rw [hk] at h;simp only [C,ν,ϐ,Option.isNone_iff_eq_none] at h;refine ⟨h.1,?_⟩;rcases h.2 with (((q | q) | q) | q) | q
  ·exact .inl q
  ·exact .inr (.inl q)
  ·exact .inr (.inr (.inl q))
  ·exact .inr (.inr (.inr (.inl q)))
  ·exact .inr (.inr (.inr (.inr q)))
 have s1:(fF id id i j ops).size=ops.size:=by simp [fF]
 have s2:(fF (sg i j) (ta i j) j i ops).size=ops.size:=by simp [fF]
 rw [s1] at w1;rw [s2] at w2
 have hr: ∀σ:M->M,(∀k,k<ops.size->σ k<ops.size)->Rl σ ops.size (ψ ops.size R) (ψ ops.size R):=fun σ hσ=>⟨by simp,by simp,fun k hk=>by
  have:=hσ k hk;simp [N,hk,this]⟩
 have g1:=ZY ŏ hj;have hf: ∀q,q<ops.size->(ψ ops.size R).getD q J=false:=fun q hq=>by simp [N,hq]
 exact QQ (ϗ ŏ) (SR (fun k hk=>⟨hk,rfl⟩) (fun k hk=>⟨hk,rfl⟩) (by omega)) (SR g1.1 g1.2 hj) hb (fun o ho=>by
   obtain ⟨k,hk,rfl⟩:=List.getElem_of_mem ho;exact (Ŝ k _ (by simp at hk⊢)).1) (fun k o hk=>(Ŝ k o hk).2)
  ops.size _ _ _ a w (fun k x hk hlk _=>by rw [hf k hk] at hlk;cases hlk) (hr id fun k hk=>hk) (hr _ fun k hk=>(g1.1 k hk).1) (hf i (by omega)) (hf j hj) w1 w2
end
end Go.Am
namespace Go.Am
variable [Kn]
structure qR (c:aD) (P:Φ):Prop where
 ty:cb c P
 fn: ∀f fn,c.fn.get W f=D fn->P.funcs[f]?=D fn/\(fn.name== "runtime.NumGoroutine")=R
 mixed:P.follows .mixedOrders=J
 ov:E7 P c
section
variable {P:Φ} {c:aD}
theorem Qq {g:Gh} {w:Θ} {s:St} {a:Act} (hm:Mem g s.b w) (ht:gv g w s.t a) (n:M): ∃g',Mem g' (s.cut n).b w/\gv g' w (s.cut n).t a/\(∀g0 w0 ş,Mem g0 ş w0->ş.length<=n->Le g0 w0 g w->Le g0 w0 g' w)/\Fr g w g' w:=by
 unfold St.cut;split
 ·exact ⟨g,hm,ht,fun _ _ _ _ _ h=>h,Fr.refl g w⟩
 ·obtain ⟨m',f'⟩:=hm.hand n;refine ⟨g.hand s.b n,m',fun i hi=> ?_,fun g0 w0 ş hm0 hn hl=> ?_,f'⟩
  ·rw [Tr.sU] at hi;obtain ⟨h1,h2⟩:=ht i hi;refine ⟨h1,?_⟩;have:(s.t.map (forget n)).get .any i=forget n (s.t.get .any i):=Tr.get_map (forget n) .any s.t i;rw [this];exact h2.lF n
  ·refine ⟨fun b o hs=> .inl (hl.S b o hs),hl.cell,fun k=> ?_⟩;simp only [Gh.hand];split
   ·exact hl.e k
   ·rw [hm0.no k (by simp [af.at,Y,Ν (by omega:ş.length<=k)])];exact .no _
def k7:Ex->Exit->Prop
 | .normal,.normal=>True
 | .ret,.ret=>True
 | .exit i,.exit j=>i=j
 | _,_=>ϙ
theorem wh {g:Gh} {w:Θ}: ∀(xs:H AV) (vs:H Value) (t:Env) (i:M) (a:Act),bL g w xs vs->(∀j,t.has j=true->j<a.tmps.size/\(j<i\/i+É vs<=j->Rd g w (t.get .any j) (a.tmps.getD j undef)))->(∀j v,vs[j]?=D v->a.tmps.getD (i+j) undef=v)->gv g w (gY t i xs) a
 | [],vs,t,i,a,h,ht,_=>by
  cases h;exact fun j hj=>⟨(ht j hj).1,(ht j hj).2 (by simp;omega)⟩
 | x::xs,vs,t,i,a,h,ht,hv=>by
  cases h with
  | @cons _ v _ vs h h'=>
   simp only [gY];refine wh xs vs (t.set i x) (i+1) a h' (fun j hj=> ?_) (fun j u hu=>by have:=hv (j+1) u (by simpa using hu);rwa [show i+(j+1)=i+1+j by omega] at this);rw [Tr.gp] at hj;obtain ⟨h1,h2⟩:=ht j hj;refine ⟨h1,fun hr=> ?_⟩;by_cases e:i=j
   ·subst e;rw [Tr.ed _ _ _ hj];have:=hv 0 v rfl;rw [Ζ] at this;rw [this];exact h
   ·rw [Tr.bK _ _ _ e];exact h2 (by simp;omega)
theorem KL {g:Gh} {w:Θ} {xs:H AV} {vs:Z Value} (h:bL g w xs vs.toList) (n:M):gv g w (start n xs) {tmps:=vs++ψ (n-vs.size) undef,defers:= []}:=by
 refine wh xs vs.toList (Tr.mk .any 24 n) 0 _ h (fun j hj=>⟨?_,fun _=> ?_⟩) (fun j v hv=> ?_)
 ·have:=Tr.MI _ _ _ _ hj;simp;omega
 ·rw [Tr.MJ];exact .any _
 ·have hlt:=al hv;simp only [Array.length_toList] at hlt;rw [ι,N,Array.getElem?_append_left hlt];simp at hv;simp [hv]
end
end Go.Am
namespace Go.Am
def L7 (f g:aQ):Prop:= ∀a b c r,f a b c=D r->g a b c=D r
section
variable {c:aD} {f g:aQ}
theorem NH (h:L7 f g) {fn:FuncId} {args:H AV} {bs:H af} {r:AV×dy} (hr:oz c f fn args bs=D r):oz c g fn args bs=D r:=by
 unfold oz at hr⊢;split at hr
 ·split at hr
  ·exact hr
  ·split at hr
   ·rename_i hf;rw [h _ _ _ _ hf];exact hr
   ·cases hr
 unfold vF at hr⊢;split at hr
 ·split at hr
  ·split at hr
   ·exact hr
   ·split at hr
    ·rename_i hf;rw [h _ _ _ _ hf];exact hr
    ·rename_i hf;rw [h _ _ _ _ hf];simp only;split at hr
     ·exact hr
     ·split at hr
      ·rename_i hf2;rw [h _ _ _ _ hf2];exact hr
      ·cases hr
    ·cases hr
  ·split at hr
   ·rename_i hf;rw [h _ _ _ _ hf];exact hr
   ·cases hr
 ·cases hr
theorem MX (h:L7 f g) {fn:FuncId} {args:H AV} {bs:H af} {r:AV×dy} (hr:oA c f fn args bs=D r):oA c g fn args bs=D r:=by
 unfold oA at hr⊢;split at hr
 ·exact hr
 ·exact NH h hr
end
end Go.Am
namespace Go.Am
inductive E where
 | var (i:M)
 | cst (v:AV)
 | bin (op:BinOp) (ty:υ) (x y:E)
 | un (op:UnOp) (x:E)
 | pick (p a b:E)
 | guard (g:E) (want:δ) (e:E)
 | and (p b:E)
 | or (p b:E)
 | index (ty:υ) (x i:E)
 | field (ľ:υ) (x:E) (f:M)
 | extract (x:E) (i:M)
 | conv (src dst:υ) (x:E)
 | toInt (k:IntKind) (x:E)
 | len (ty:υ) (x:E)
 | lenS (x:E)
 | slA (x:E)
 | slL (x lo:E)
 | slH (x hi:E)
 | slB (x lo hi:E)
 | load (ty:υ) (x:E)
 | faddr (ľ:υ) (x:E) (f:M)
 | iaddr (ty:υ) (x i:E)
 | nilck (x:E)
 deriving Inhabited
def th:Out->I AV
 | some (v,.none)=>D v
 | _=>W
def rR (x:AV) (lo hi:I AV):I AV:=
 match x with
 | .str s=>match dw hi (É s) (É s) with
  | some h=>match dw lo 0 h with
   | some l=>D (.str ((s.take h).drop l))
   | none=>W
  | none=>W
 | _=>W
def MP (x:AV):I AV:=
 match x with
 | .str s=>D (.int .i64 (É s))
 | _=>W
def Hi (k:IntKind) (x:AV):I AV:=
 match x with
 | .int _ n=>D (.int k (k.wrap n))
 | _=>W
def Up (c:aD) (ty:υ) (x:AV) (bs:H af):Out:=
 match c.ti ty with
 | some i=>rI i.desc x bs
 | .none=> .none
def nI (g:I AV) (want:δ) (e:I AV):I AV:=
 match g with
 | some (.bool b)=>match b==want with
  | true=>e
  | false=>D (.aK [])
 | some (.aK _)=>D (.aK [])
 | _=>W
def KE (p b:I AV):I AV:=
 match p with
 | some (.bool J)=>b
 | some (.bool R)=>D (.bool R)
 | _=>W
def WW (p b:I AV):I AV:=
 match p with
 | some (.bool J)=>D (.bool J)
 | some (.bool R)=>b
 | _=>W
def Hc (x:I AV) (f:AV->I AV):I AV:=
 match x with
 | some a=>f a
 | none=>W
def Jb (x y:I AV) (f:AV->AV->I AV):I AV:=
 match x with
 | some a=>match y with
  | some b=>f a b
  | none=>W
 | none=>W
def PD (x y z:I AV) (f:AV->AV->AV->I AV):I AV:=
 match x with
 | some a=>match y with
  | some b=>match z with
   | some d=>f a b d
   | none=>W
  | none=>W
 | none=>W
def lX (env:H (I AV)) (i:M):I AV:=env.getD i W
def bQ (c:aD) (env:H (I AV)) (bs:H af):E->I AV
 | .var i=>lX env i
 | .cst v=>D v
 | .bin op ty x y=>Jb (bQ c env bs x) (bQ c env bs y) fun a b=>jf c ty op a b
 | .un op x=>Hc (bQ c env bs x) fun a=>P4 op a
 | .pick p x y=>PD (bQ c env bs p) (bQ c env bs x) (bQ c env bs y) fun p a b=>th (xI p a b)
 | .guard g w e=>nI (bQ c env bs g) w (bQ c env bs e)
 | .and p x=>KE (bQ c env bs p) (bQ c env bs x)
 | .or p x=>WW (bQ c env bs p) (bQ c env bs x)
 | .index ty x y=>Jb (bQ c env bs x) (bQ c env bs y) fun a b=>th (rK c (c.ti ty) a b)
 | .field ty x f=>Hc (bQ c env bs x) fun a=>th (rJ c (c.ti ty) a f)
 | .extract x i=>Hc (bQ c env bs x) fun a=>th (kA a i)
 | .conv s d x=>Hc (bQ c env bs x) fun a=>th (et c (c.ti s) (c.ti d) a bs 0)
 | .toInt k x=>Hc (bQ c env bs x) fun a=>Hi k a
 | .len ty x=>Hc (bQ c env bs x) fun a=>th (Up c ty a bs)
 | .lenS x=>Hc (bQ c env bs x) fun a=>MP a
 | .slA x=>Hc (bQ c env bs x) fun a=>rR a W W
 | .slL x y=>Jb (bQ c env bs x) (bQ c env bs y) fun a l=>rR a (D l) W
 | .slH x z=>Jb (bQ c env bs x) (bQ c env bs z) fun a h=>rR a W (D h)
 | .slB x y z=>PD (bQ c env bs x) (bQ c env bs y) (bQ c env bs z) fun a l h=>rR a (D l) (D h)
 | .load ty x=>Hc (bQ c env bs x) fun a=>th (oT (c.ti ty) a bs)
 | .faddr ty x f=>Hc (bQ c env bs x) fun a=>th (c9 (c.ti ty) a f bs)
 | .iaddr ty x y=>Jb (bQ c env bs x) (bQ c env bs y) fun a b=>th (eG c (c.ti ty) a b bs)
 | .nilck x=>Hc (bQ c env bs x) fun a=>th (iI a)
def E.reads:E->δ
 | .var _ | .cst _=>R
 | .bin _ _ x y=>x.reads || y.reads
 | .un _ x=>x.reads
 | .pick p x y=>p.reads || x.reads || y.reads
 | .guard g _ e=>g.reads || e.reads
 | .and p x=>p.reads || x.reads
 | .or p x=>p.reads || x.reads
 | .index _ x y=>x.reads || y.reads
 | .field _ x _=>x.reads
 | .extract x _=>x.reads
 | .toInt _ x=>x.reads
 | .lenS x=>x.reads
 | .slA x=>x.reads
 | .slL x y=>x.reads || y.reads
 | .slH x y=>x.reads || y.reads
 | .slB x y z=>x.reads || y.reads || z.reads
 | .nilck x=>x.reads
 | .conv _ _ _ | .len _ _ | .load _ _ | .faddr _ _ _ | .iaddr _ _ _=>J
def E.looks (i:M):E->δ
 | .var j=>i==j
 | .cst _=>R
 | .bin _ _ x y=>x.looks i || y.looks i
 | .un _ x=>x.looks i
 | .pick p x y=>p.looks i || x.looks i || y.looks i
 | .guard g _ e=>g.looks i || e.looks i
 | .and p x=>p.looks i || x.looks i
 | .or p x=>p.looks i || x.looks i
 | .index _ x y=>x.looks i || y.looks i
 | .field _ x _=>x.looks i
 | .extract x _=>x.looks i
 | .conv _ _ x=>x.looks i
 | .toInt _ x=>x.looks i
 | .len _ x=>x.looks i
 | .lenS x=>x.looks i
 | .slA x=>x.looks i
 | .slL x y=>x.looks i || y.looks i
 | .slH x y=>x.looks i || y.looks i
 | .slB x y z=>x.looks i || y.looks i || z.looks i
 | .load _ x=>x.looks i
 | .faddr _ x _=>x.looks i
 | .iaddr _ x y=>x.looks i || y.looks i
 | .nilck x=>x.looks i
def look (vs:H (M×AV)) (i:M):AV:=
 match vs with
 | []=> .any
 | (j,v)::r=>if i=j then v else look r i
def Zb (vs:H (M×AV)):Ι->AV
 | .tmp i=>look vs i
 | .const v=>gH v
 | .func f=> .fn f [] []
 | .global _=> .any
def dx (c:aD) (op:Op) (φ:Ι->AV) (bs:H af) (id:M):Out:=
 match op with
 | .move x | .assign x=>D (φ x,.none)
 | .pick x a b=>xI (φ x) (φ a) (φ b)
 | .alloc e=>xJ (c.ti e) e id
 | .box e x=>MG e (φ x).cells id
 | .build ty parts=>uD c (c.ti ty) (parts.toList.map fun p=>(p.1,φ p.2))
 | .buildSlice ty len parts=>fv c (c.ti ty) len (parts.toList.map fun p=>(p.1,φ p.2)) id bs
 | .load ty a=>oT (c.ti ty) (φ a) bs
 | .store ty a x=>oU (c.ti ty) (φ a) (φ x).cells bs
 | .nilCheck x=>iI (φ x)
 | .makeInterface ty x=>xL c ty (φ x)
 | .binOp op ty x y _=>(Km c ty op y (φ x) (φ y)).map (·,.none)
 | .unOp op _ x=>(P4 op (φ x)).map (·,.none)
 | .convert src dst x=>et c (c.ti src) (c.ti dst) (φ x) bs id
 | .makeFunc (.func f) first caps=>D (.fn f (first.toList.map φ) (caps.toList.map φ),.none)
 | .makeSlice ty l m=>kz c (c.ti ty) (φ l) (φ m) id
 | .slice ty x lo hi mx=>match c.ti ty with
  | some i=>match mx with
   | .none=>dX c i.desc (φ x) (lo.map φ) (hi.map φ) bs
   | some m=>lu c i.desc (φ x) (lo.map φ) (hi.map φ) (D (φ m)) bs
  | .none=> .none
 | .fieldAddr ľ x f=>c9 (c.ti ľ) (φ x) f bs
 | .field ľ x f=>rJ c (c.ti ľ) (φ x) f
 | .indexAddr ty x ix=>eG c (c.ti ty) (φ x) (φ ix) bs
 | .index ty x ix=>rK c (c.ti ty) (φ x) (φ ix)
 | .extract x i=>kA (φ x) i
 | .makeMap ty r=>gW (r.map φ) (c.ti ty) id
 | .range ty x=>nD (c.ti ty) (φ x) bs id
 | .next x str=>xK (φ x) str bs
 | .lookup ty x k ok=>cv c (c.ti ty) (φ x) (φ k) ok bs
 | .mapUpdate ty m k x=>aH c (c.ti ty) (φ m) (φ k) (φ x) bs
 | .insert ty m k x=>aH c (c.ti ty) (φ m) (φ k) (φ x) bs
 | .mapEntry ty m k=>j4 c (c.ti ty) (φ m) (φ k) bs
 | .entryStore _ m s x=>gI (φ m) (φ s) (φ x) bs
 | .entry x=>oV (φ x) bs
 | .call k=>match k.callee with
  | .builtin b=>eR c b k.argTypes.toList (k.args.toList.map φ) bs id
  | _=> .none
 | _=> .none
def ew (c:aD) (cf:aQ) (op:Op) (φ:Ι->AV) (bs:H af) (id:M):Out:=
 match op with
 | .call k=>match k.callee with
  | .value f=>match φ f with
   | .fn g first caps=>match c.ext g with
    | some G=>match G (first++k.args.toList.map φ++caps) with
     | some v=>D (v,.none)
     | .none=> .none
    | .none=>oA c cf g (first++k.args.toList.map φ++caps) bs
   | .gG l s env=>match cf (.gG l s env) (k.args.toList.map φ) bs with
    | some (v,bs')=>D (v,.all bs')
    | .none=> .none
   | _=> .none
  | _=>dx c (.call k) φ bs id
 | op=>dx c op φ bs id
inductive It where
 | par (l:H (M×E))
 | gJ (mask:I (H M)) (k:M) (d:I M) (g:I (E×δ)) (o:Op) (xs:H (M×E))
def qJ (c:aD) (env:H (I AV)) (bs:H af):H (M×E)->I (H (M×AV))
 | []=>D []
 | (i,e)::r=>match bQ c env bs e with
  | some v=>match qJ c env bs r with
   | some l=>D ((i,v)::l)
   | none=>W
  | none=>W
def dV (env:H (I AV)):H (M×AV)->H (I AV)
 | []=>env
 | (i,v)::r=>dV (env.set i (D v)) r
def x8 (env:H (I AV)) (d:I M) (v:AV):H (I AV):=
 match d with
 | some i=>env.set i (D v)
 | none=>env
def vL (g:I AV) (want:δ):I δ:=
 match g with
 | some (.bool b)=>D (b==want)
 | some (.aK _)=>D R
 | _=>W
def vK (c:aD) (env:H (I AV)) (bs:H af) (g:I (E×δ)):I δ:=
 match g with
 | none=>D J
 | some (e,w)=>vL (bQ c env bs e) w
def ED (o:Op) (k:M) (vs:H (M×AV)):δ:=vs.all fun p=>(nF o).contains p.1 || fQ k p.2
def Jg (md:M) (o:Op) (id:M) (vs:H (M×AV)) (bs:H af) (r:Out):I (AV×H af):=
 match r with
 | some (v,.none)=>D (v,bs)
 | some (v,.new x)=>match asks o with
  | true=>match bs[id]? with
   | some .dead=>D (v,bs.set id x)
   | _=>W
  | false=>W
 | some (v,.upd k (.var ty cs))=>match cP o&&ED o k vs with
  | true=>D (v,bs.set k (.var ty cs))
  | false=>W
 | some (v,.upd k (.sl sh sz es))=>match md==1&&ED o k vs with
  | true=>D (v,bs.set k (.sl sh sz es))
  | false=>W
 | some (v,.app x)=>match md==2&&vs.all fun p=>o0 (É bs) p.2 with
  | true=>D (v,bs++ [x])
  | false=>W
 | some (v,.rH k)=>match md==3&&vs.all fun p=>(nF o).contains p.1 || sT k p.2 with
  | true=>D (v,bs.set k .gone)
  | false=>W
 | _=>W
def Jf (id:M) (bs:H af) (r:Out):I (AV×H af):=
 match r with
 | some (v,e)=>match e.on bs id with
  | some bs'=>D (v,bs')
  | none=>W
 | none=>W
def KG (c:aD) (cf:aQ) (base:M) (mask:I (H M)) (k:M) (o:Op) (vs:H (M×AV)) (bs:H af):I (AV×H af):=
 match mask with
 | none=>Jf (base+k) bs (ew c cf o (Zb vs) bs (base+k))
 | some ms=>Jg (ms.headD 0) o (base+k) vs bs (ew c (cM cf (ms.headD 0==2)) o (Zb vs) (bp (ms.tail.map (base+ ·)) bs) (base+k))
def bC (c:aD) (cf:aQ) (base:M) (kl:H M):H It->H (I AV)->H af->I (H (I AV)×H af)
 | [],env,bs=>D (env,bs)
 | .par l::r,env,bs=>match qJ c env (bp (kl.map (base+ ·)) bs) l with
  | some vs=>bC c cf base kl r (dV env vs) bs
  | none=>W
 | .gJ mask k d g o xs::r,env,bs=>match vK c env (bp (kl.map (base+ ·)) bs) g with
  | some true=>match qJ c env (bp (kl.map (base+ ·)) bs) xs with
   | some vs=>match KG c cf base mask k o vs bs with
    | some (v,bs')=>bC c cf base kl r (x8 env d v) bs'
    | none=>W
   | none=>W
  | some false=>bC c cf base kl r (x8 env d (.aK [])) bs
  | none=>W
structure tq where
 slot:M
 cell:I M
 el:υ
 sz:M
inductive IR where
 | skip | ret
 | own (l:H tq)
 | stuck
 | exit (i:M)
 | seq (a b:IR)
 | block (i:M) (a:IR)
 | jC (n:M) (kl:H M) (Ċ:H It)
 | cond (x:M) (a b:IR)
 | loop (kill:H M) (a:IR)
 | td (x:M) (s:Site)
 | CL (x k n:M) (Ċ:H It)
 | alt (l:H (M×H M×H It))
def dS (σ:H (M×E)) (i:M):I E:=
 match σ with
 | []=>W
 | (j,e)::r=>if i=j then D e else dS r i
def CQ (keep:H M) (σ:H (M×E)) (i:M):I E:=
 match dS σ i with
 | some e=>D e
 | none=>(posOf keep i).map .var
def CR (keep:H M) (σ:H (M×E)):Ι->I E
 | .tmp i=>CQ keep σ i
 | .const v=>D (.cst (gH v))
 | .func f=>D (.cst (.fn f [] []))
 | .global _=>W
def iB (x:I E) (f:E->E):I E:=x.map f
def tm (x y:I E) (f:E->E->E):I E:=
 match x,y with
 | some a,D b=>D (f a b)
 | _,_=>W
def Er (x y z:I E) (f:E->E->E->E):I E:=
 match x,y,z with
 | some a,D b,D d=>D (f a b d)
 | _,_,_=>W
def Ja:H UInt8->H UInt8->δ
 | [], []=>J
 | a::l,b::m=>a==b&&Ja l m
 | _,_=>R
def Hb:AV->AV->δ
 | .int k n,.int k' n'=>k==k'&&n==n'
 | .bool a,.bool b=>a==b
 | .str a,.str b=>Ja a b
 | .cn,.cn=>J
 | _,_=>R
def ba:E->E->δ
 | .var i,.var j=>i==j
 | .cst v,.cst w=>Hb v w
 | .bin o t x y,.bin o' t' x' y'=>o==o'&&t==t'&&ba x x'&&ba y y'
 | .un o x,.un o' x'=>o==o'&&ba x x'
 | .pick p x y,.pick p' x' y'=>ba p p'&&ba x x'&&ba y y'
 | .guard g w e,.guard g' w' e'=>ba g g'&&w==w'&&ba e e'
 | .and p x,.and p' x'=>ba p p'&&ba x x'
 | .or p x,.or p' x'=>ba p p'&&ba x x'
 | .index t x y,.index t' x' y'=>t==t'&&ba x x'&&ba y y'
 | .field t x f,.field t' x' f'=>t==t'&&ba x x'&&f==f'
 | .extract x f,.extract x' f'=>ba x x'&&f==f'
 | .conv s d x,.conv s' d' x'=>s==s'&&d==d'&&ba x x'
 | .toInt k x,.toInt k' x'=>k==k'&&ba x x'
 | .len t x,.len t' x'=>t==t'&&ba x x'
 | .lenS x,.lenS x'=>ba x x'
 | .slA x,.slA x'=>ba x x'
 | .slL x y,.slL x' y'=>ba x x'&&ba y y'
 | .slH x y,.slH x' y'=>ba x x'&&ba y y'
 | .slB x y z,.slB x' y' z'=>ba x x'&&ba y y'&&ba z z'
 | .load t x,.load t' x'=>t==t'&&ba x x'
 | .faddr t x f,.faddr t' x' f'=>t==t'&&ba x x'&&f==f'
 | .iaddr t x y,.iaddr t' x' y'=>t==t'&&ba x x'&&ba y y'
 | .nilck x,.nilck x'=>ba x x'
 | _,_=>R
def bP (g:E) (w:δ):E->E
 | .guard x v e=>match ba x g&&v==w with
  | true=>bP g w e
  | false=> .guard (bP g w x) v (bP g w e)
 | .bin o t x y=> .bin o t (bP g w x) (bP g w y)
 | .un o x=> .un o (bP g w x)
 | .pick p x y=> .pick (bP g w p) (bP g w x) (bP g w y)
 | .and p x=> .and (bP g w p) (bP g w x)
 | .or p x=> .or (bP g w p) (bP g w x)
 | .index t x y=> .index t (bP g w x) (bP g w y)
 | .field t x f=> .field t (bP g w x) f
 | .extract x i=> .extract (bP g w x) i
 | .conv s d x=> .conv s d (bP g w x)
 | .toInt k x=> .toInt k (bP g w x)
 | .len t x=> .len t (bP g w x)
 | .lenS x=> .lenS (bP g w x)
 | .slA x=> .slA (bP g w x)
 | .slL x y=> .slL (bP g w x) (bP g w y)
 | .slH x y=> .slH (bP g w x) (bP g w y)
 | .slB x y z=> .slB (bP g w x) (bP g w y) (bP g w z)
 | .load t x=> .load t (bP g w x)
 | .faddr t x f=> .faddr t (bP g w x) f
 | .iaddr t x y=> .iaddr t (bP g w x) (bP g w y)
 | .nilck x=> .nilck (bP g w x)
 | .var i=> .var i
 | .cst v=> .cst v
def qf (g:E) (w:δ):E->δ
 | .guard x v _=>(ba x g&&v==w) || qf g w x
 | _=>R
def E.within:E->E->δ
 | e,.var i=>ba e (.var i)
 | e,.cst v=>ba e (.cst v)
 | e,.bin o t x y=>ba e (.bin o t x y) || e.within x || e.within y
 | e,.un o x=>ba e (.un o x) || e.within x
 | e,.pick p x y=>ba e (.pick p x y) || e.within p || e.within x || e.within y
 | e,.guard g w x=>ba e (.guard g w x) || e.within g || (qf g w e&&(bP g w e).within x)
 | e,.and p x=>ba e (.and p x) || e.within p || (qf p J e&&(bP p J e).within x)
 | e,.or p x=>ba e (.or p x) || e.within p || (qf p R e&&(bP p R e).within x)
 | e,.index t x y=>ba e (.index t x y) || e.within x || e.within y
 | e,.field t x f=>ba e (.field t x f) || e.within x
 | e,.extract x f=>ba e (.extract x f) || e.within x
 | e,.conv s d x=>ba e (.conv s d x) || e.within x
 | e,.toInt k x=>ba e (.toInt k x) || e.within x
 | e,.len t x=>ba e (.len t x) || e.within x
 | e,.lenS x=>ba e (.lenS x) || e.within x
 | e,.slA x=>ba e (.slA x) || e.within x
 | e,.slL x y=>ba e (.slL x y) || e.within x || e.within y
 | e,.slH x y=>ba e (.slH x y) || e.within x || e.within y
 | e,.slB x y z=>ba e (.slB x y z) || e.within x || e.within y || e.within z
 | e,.load t x=>ba e (.load t x) || e.within x
 | e,.faddr t x f=>ba e (.faddr t x f) || e.within x
 | e,.iaddr t x y=>ba e (.iaddr t x y) || e.within x || e.within y
 | e,.nilck x=>ba e (.nilck x) || e.within x
def Hg (p a b:E):E:=
 match a,b with
 | .guard g J x,.cst (.bool R)=>match ba g p with
  | true=> .and p x
  | false=> .pick p a b
 | .cst (.bool J),.guard g R x=>match ba g p with
  | true=> .or p x
  | false=> .pick p a b
 | a,b=> .pick p a b
def nN (c:aD) (ρ:Ι->I E):Op->I E
 | .move x=>ρ x
 | .assign x=>ρ x
 | .pick p x y=>Er (ρ p) (ρ x) (ρ y) Hg
 | .binOp op ty x y _=>match Kl y with
  | true=>W
  | false=>tm (ρ x) (ρ y) (.bin op ty)
 | .unOp op _ x=>iB (ρ x) (.un op)
 | .index ty x y=>tm (ρ x) (ρ y) (.index ty)
 | .field ty x f=>iB (ρ x) (.field ty · f)
 | .extract x i=>iB (ρ x) (.extract · i)
 | .convert s d x=>match c.descOf s,c.descOf d with
  | some (.int _),D (.int k)=>iB (ρ x) (.toInt k)
  | _,D (.slice _)=>W
  | _,_=>iB (ρ x) (.conv s d)
 | .load ty x=>iB (ρ x) (.load ty)
 | .fieldAddr ty x f=>iB (ρ x) (.faddr ty · f)
 | .indexAddr ty x y=>tm (ρ x) (ρ y) (.iaddr ty)
 | .nilCheck x=>iB (ρ x) .nilck
 | .slice ty x lo hi none=>match c.descOf ty with
  | some .string=>match lo,hi with
   | none,none=>iB (ρ x) .slA
   | some l,none=>tm (ρ x) (ρ l) .slL
   | none,D h=>tm (ρ x) (ρ h) .slH
   | some l,D h=>Er (ρ x) (ρ l) (ρ h) .slB
  | _=>W
 | .call k=>match k.callee,k.argTypes.toList,k.args.toList with
  | .builtin .len, [t], [x]=>match c.descOf t with
   | some .string=>iB (ρ x) .lenS
   | _=>iB (ρ x) (.len t)
  | _,_,_=>W
 | _=>W
def E.sure:E->δ
 | .cst _=>J
 | _=>R
def dY (bad:E->δ):E->H E
 | .var i=>match bad (.var i) with | true=> [] | false=> [.var i]
 | .cst v=>match bad (.cst v) with | true=> [] | false=> [.cst v]
 | .bin o t x y=>match bad (.bin o t x y) with | true=>dY bad x++dY bad y | false=> [.bin o t x y]
 | .un o x=>match bad (.un o x) with | true=>dY bad x | false=> [.un o x]
 | .pick p x y=>match bad (.pick p x y) with | true=>dY bad p++(dY bad x++dY bad y) | false=> [.pick p x y]
 | .guard g w x=>match bad (.guard g w x) with | true=>dY bad g++(match bad g with | true=> [] | false=>(dY bad x).map (.guard g w)) | false=> [.guard g w x]
 | .and g x=>match bad (.and g x) with | true=>dY bad g++(match bad g with | true=> [] | false=>(dY bad x).map (.guard g J)) | false=> [.and g x]
 | .or g x=>match bad (.or g x) with | true=>dY bad g++(match bad g with | true=> [] | false=>(dY bad x).map (.guard g R)) | false=> [.or g x]
 | .index t x y=>match bad (.index t x y) with | true=>dY bad x++dY bad y | false=> [.index t x y]
 | .field t x f=>match bad (.field t x f) with | true=>dY bad x | false=> [.field t x f]
 | .extract x f=>match bad (.extract x f) with | true=>dY bad x | false=> [.extract x f]
 | .conv a b x=>match bad (.conv a b x) with | true=>dY bad x | false=> [.conv a b x]
 | .toInt k x=>match bad (.toInt k x) with | true=>dY bad x | false=> [.toInt k x]
 | .len t x=>match bad (.len t x) with | true=>dY bad x | false=> [.len t x]
 | .lenS x=>match bad (.lenS x) with | true=>dY bad x | false=> [.lenS x]
 | .slA x=>match bad (.slA x) with | true=>dY bad x | false=> [.slA x]
 | .slL x y=>match bad (.slL x y) with | true=>dY bad x++dY bad y | false=> [.slL x y]
 | .slH x y=>match bad (.slH x y) with | true=>dY bad x++dY bad y | false=> [.slH x y]
 | .slB x y z=>match bad (.slB x y z) with | true=>dY bad x++(dY bad y++dY bad z) | false=> [.slB x y z]
 | .load t x=>match bad (.load t x) with | true=>dY bad x | false=> [.load t x]
 | .faddr t x f=>match bad (.faddr t x f) with | true=>dY bad x | false=> [.faddr t x f]
 | .iaddr t x y=>match bad (.iaddr t x y) with | true=>dY bad x++dY bad y | false=> [.iaddr t x y]
 | .nilck x=>match bad (.nilck x) with | true=>dY bad x | false=> [.nilck x]
def x9 (d:I M) (e:E):δ:=
 match d with
 | some i=>e.looks i
 | none=>R
def rT:H It->H E
 | []=> []
 | .par l::r=>l.map (·.2)++(rT r).flatMap (dY fun e=>l.any fun p=>e.looks p.1)
 | .gJ _ _ d g _ xs::r=>(match g with | some (e,w)=>e::xs.map (fun p=> .guard e w p.2) | none=>xs.map (·.2))++(rT r).flatMap (dY fun e=>e.reads || x9 d e)
def covered (e:E) (l:H E):δ:=e.sure || l.any fun f=>e.within f
def guardOf (ops:Z T) (keep:H M) (σ:H (M×E)) (g:I (M×δ)):I (I (E×δ)):=
 match g with
 | none=>D W
 | some (j,want)=>match (ops[j]?).bind (·.dst) with
  | none=>W
  | some d=>match CQ keep σ d with
   | some e=>D (D (e,want))
   | none=>W
def MQ:Ι->I M
 | .tmp i=>D i
 | _=>W
def uP (keep:H M) (σ:H (M×E)):H M->I (H (M×E))
 | []=>D []
 | i::r=>match CQ keep σ i,uP keep σ r with
  | some e,D l=>D ((i,e)::l)
  | _,_=>W
def dW (keep:H M) (σ:H (M×E)):H M->M->H (M×E)
 | [],_=> []
 | i::r,k=>match dS σ i with
  | some e=>(k,e)::dW keep σ r (k+1)
  | none=>dW keep σ r (k+1)
def fC (g:I (E×δ)) (e:E):E:=
 match g with
 | none=>e
 | some (x,w)=>bP x w e
def yd (g:I (E×δ)) (e:E):E:=
 match g with
 | none=>e
 | some (x,w)=> .guard x w e
def Ax (keep:H M) (fl:H (M×E)) (σ:H (M×E)):H (M×E):=
 σ.filter fun p=>(posOf keep p.1).isNone&&fl.all fun q=> !p.2.looks q.1
def Ss (keep:H M) (d:I M) (σ:H (M×E)):H (M×E):=
 σ.filter fun p=> !p.2.reads&&(match d with | some i=>p.1 !=i&&(match posOf keep i with | some k=> !p.2.looks k | none=>J) | none=>J)
def EA (keep:H M) (d:I M):I M:=
 match d with
 | some i=>posOf keep i
 | none=>W
def Su (nt:M) (d:I M):δ:=
 match d with
 | some i=>decide (i<nt)
 | none=>J
def sk (c:aD) (ops:Z T) (i:M) (o:Op):M:=
 match e9 o&&bq ops i o with
 | true=>1
 | false=>match bg c ops i o with
  | true=>2
  | false=>match fR c ops i o with
   | true=>3
   | false=>0
theorem uQ {o:Op} (h:cQ o=J):cP o=R/\e9 o=false:=by
 unfold cQ at h;split at h
 ·rename_i k;refine ⟨rfl,?_⟩;obtain ⟨ce,as,ts⟩:=k;cases ce with
  | value f=>rfl
  | _=>simp at h
 ·cases h
theorem KH {c:aD} {ops:Z T} {i:M} {o:Op}:(sk c ops i o==1)=(e9 o&&bq ops i o):=by
 unfold sk;cases e9 o&&bq ops i o with
 | true=>rfl
 | false=>cases bg c ops i o <;> cases fR c ops i o <;> rfl
theorem MS {c:aD} {ops:Z T} {i:M} {o:Op} (h:(sk c ops i o==3)=J):bg c ops i o=R/\fR c ops i o=true:=by
 unfold sk at h;split at h
 ·cases h
 ·split at h
  ·cases h
  ·rename_i ha;split at h
   ·rename_i he;exact ⟨ha,he⟩
   ·cases h
theorem EC {c:aD} {ops:Z T} {i:M} {o:Op}:(sk c ops i o==2)=bg c ops i o:=by
 unfold sk;cases hg:e9 o with
 | false=>simp only [κ];cases bg c ops i o <;> cases fR c ops i o <;> rfl
 | true=>
  have ha:bg c ops i o=false:=by
   cases hc:cQ o with
   | false=>simp [bg,iY hc]
   | true=>have:=(uQ hc).2;rw [hg] at this;cases this
  rw [ha];cases bq ops i o <;> cases fR c ops i o <;> rfl
def xe (c:aD) (ops:Z T) (dr:δ) (i:M) (o:Op):I (H M):=
 match dr&& !alone ops i with
 | true=>D (sk c ops i o::dC (fJ ops) i ops.toList 0 0)
 | false=>W
def Ld (c:aD) (ops:Z T) (o:Op):δ:=
 match o with
 | .convert _ d (.tmp i)=>match c.descOf d with
  | some .string=>ops.toList.any fun p=>match p.op,p.dst with
   | .makeSlice _ _ _,D j=>i==j
   | _,_=>R
  | _=>R
 | _=>R
def Dd (c:aD) (ops:Z T) (ρ:Ι->I E) (o:Op):I E:=
 match Ld c ops o with
 | true=>W
 | false=>nN c ρ o
theorem Ez {c:aD} {ops:Z T} {ρ:Ι->I E} {o:Op} {e:E} (h:Dd c ops ρ o=D e):nN c ρ o=D e:=by
 unfold Dd at h;split at h
 ·cases h
 ·exact h
def nQ (c:aD) (ops:Z T) (dr:δ) (i:M) (o:Op):H M:=
 match dr&& !alone ops i&&(cP o || (e9 o&&bq ops i o)) with
 | true=>iz ops i
 | false=>match dr&& !alone ops i&&gZ c ops i o with
  | true=>eS ops i
  | false=> []
def Sv (ops:Z T) (dr:δ) (i:M) (o:Op):δ:=
 match dr&& !alone ops i&&cP o with
 | true=>bq ops i o
 | false=>J
def Eu (a b:E):δ:=
 ba a b || match a with
  | .faddr _ x _=>Eu x b
  | _=>R
def Ew (c:aD) (ops:Z T) (keep:H M) (g:I (E×δ)) (σ:H (M×E)) (dr:δ) (j:M) (o:Op):δ:=
 match dr&&(xN c ops || qc ops),iJ o with
 | true,D p=>match iW ops j p with
  | some q=>match CQ keep σ p,CQ keep σ q with
   | some a,D b=>Eu (fC g a) (fC g b)
   | _,_=>R
  | none=>J
 | _,_=>J
def Je (fl:H (M×E)) (Ċ:H It):H It:=
 match fl with
 | []=>Ċ
 | _=> .par fl::Ċ
def nP (c:aD) (ops:Z T) (keep:H M) (nt:M) (dr:δ):H T->M->H (M×E)->I (H It)
 | [],_,σ=>D (Je (dW keep σ keep 0) [])
 | o::r,i,σ=>match guardOf ops keep σ o.guard with
  | none=>W
  | some g=>match Dd c ops (fun x=>(CR keep σ x).map (fC g)) o.op,o.dst with
   | some e,D d=>match decide (d<nt)&&Ew c ops keep g σ dr i o.op with
    | true=>match nP c ops keep nt dr r (i+1) ((d,yd g e)::σ.filter fun p=>p.1 !=d) with
     | some Ċ=>match covered (yd g e) (rT Ċ) with
      | true=>D Ċ
      | false=>D (.par [(É keep,yd g e)]::Ċ)
     | none=>W
    | false=>W
   | _,_=>match guardOf ops keep (Ax keep (dW keep σ keep 0) σ) o.guard with
    | none=>W
    | some g=>match uP keep (Ax keep (dW keep σ keep 0) σ) (o.op.operands.toList.filterMap MQ++nQ c ops dr i o.op) with
     | none=>W
     | some xs=>match (Su nt o.dst&&Sv ops dr i o.op)&&Ew c ops keep g (Ax keep (dW keep σ keep 0) σ) dr i o.op with
      | true=>match nP c ops keep nt dr r (i+1) (Ss keep o.dst (Ax keep (dW keep σ keep 0) σ)) with
       | some Ċ=>D (Je (dW keep σ keep 0) (.gJ (xe c ops dr i o.op) (bN ops.toList i 0) (EA keep o.dst) g o.op (xs.map fun p=>(p.1,fC g p.2))::Ċ))
       | none=>W
      | false=>W
def CY (c:aD) (keep:H M) (nt:M) (ops:Z T) (dr:δ):I IR:=
 match !dr || uF ops with
 | true=>match nP c ops keep nt dr ops.toList 0 [] with
  | some Ċ=>D (.jC (dn ops.toList) (match dr with | true=>Ρ (dn ops.toList) | false=> []) Ċ)
  | none=>W
 | false=>W
def M4 (c:aD) (keep:H M) (nt:M) (ops:Z T) (dr:δ):I IR:=
 match dr,ops.toList with
 | false,o::r=>match o.op,o.dst,o.guard with
  | .next (.tmp t) R,D d,none=>match posOf keep t,posOf keep d,nP c ops keep nt R r 1 [],decide (d<nt) with
   | some x,D k,D Ċ,true=>D (.CL x k (dn r) Ċ)
   | _,_,_,_=>W
  | _,_,_=>W
 | _,_=>W
def Vo (c:aD) (k:Call):δ:=k.argTypes.toList.any fun t=>match c.descOf t with
 | some (.pointer _)=>J
 | some (.func _ _ _)=>J
 | _=>R
def QR (c:aD):Op->δ
 | .call k=>(match k.callee with | .value _=>J | _=>R)&&Vo c k
 | _=>R
def SU (ops:Z T) (i j:M):δ:=i !=j&& !ordered (fJ ops) i j&& !ordered (fJ ops) j i
def Vp (ops:Z T) (j:M):H M:=(Ρ ops.size).filter fun i=>SU ops i j&& !qb ops i
def xi (c:aD) (ops:Z T):I (M×M):=
 match Nz ops.toList 0 with
 | [i,j]=>(match SU ops i j with | true=>D (i,j) | false=>W)
 | _=>match (Ρ ops.size).filter fun j=>(match ops[j]? with | some o=>QR c o.op&& !alone ops j | none=>R) with
  | [j]=>match Vp ops j with
   | i::r=>D (match r.getLast? with | some q=>(min q j,max q j) | none=>(min i j,max i j))
   | _=>W
  | _=>W
def qi (c:aD) (keep:H M) (nt:M):M->Z T->I (H (M×H M×H It))
 | 0,_=>W
 | k+1,ops=>match xi c ops with
  | some (i,j)=>match NB ops i j,qi c keep nt k (fF id id i j ops),qi c keep nt k (fF (sg i j) (ta i j) j i ops) with
   | true,D l1,D l2=>D (l1++l2)
   | _,_,_=>W
  | none=>match CY c keep nt ops J with
   | some (.jC n kl Ċ)=>D [(n,kl,Ċ)]
   | _=>W
def M5 (c:aD) (keep:H M) (nt:M) (ops:Z T) (dr:δ):I IR:=
 match dr,xi c ops with
 | true,D _=>match qi c keep nt 4 ops with
  | some (x::l)=>D (.alt (x::l))
  | _=>W
 | _,_=>W
def Hl (c:aD) (keep:H M) (nt:M) (ops:Z T) (dr:δ):I IR:=
 match M4 c keep nt ops dr with
 | some x=>D x
 | none=>match M5 c keep nt ops dr with
  | some x=>D x
  | none=>CY c keep nt ops dr
def kL (c:aD) (keep:H M) (nt:M):Code->I IR
 | .skip=>D .skip
 | .label _=>D .skip
 | .ret=>D .ret
 | .exit i=>D (.exit i)
 | .seq a b=>match kL c keep nt a,kL c keep nt b with
  | some a',D b'=>D (.seq a' b')
  | _,_=>W
 | .block i a=>match kL c keep nt a with
  | some a'=>D (.block i a')
  | none=>W
 | .scope a=>kL c keep nt a
 | .cond (.tmp x) a b=>match posOf keep x,kL c keep nt a,kL c keep nt b with
  | some k,D a',D b'=>D (.cond k a' b')
  | none,_,_=>D .stuck
  | _,_,_=>W
 | .loop a=>match kL c keep nt a with
  | some a'=>D (.loop [] a')
  | none=>W
 | .cond (.const v) a b=>match gH v with
  | .bool true=>kL c keep nt a
  | .bool false=>kL c keep nt b
  | _=>D .stuck
 | .region _ ops dr=>match Hl c keep nt ops dr with
  | some x=>D x
  | none=>D .stuck
 | .rangeFunc (.tmp t) ps asg body=>match posOf keep t with
  | some x=>D (.td x ⟨ps,asg,body,keep,nt⟩)
  | none=>W
 | _=>D .stuck
def E.bits:E->M
 | .var j=>2^j
 | .cst _=>0
 | .bin _ _ x y=>x.bits ||| y.bits
 | .un _ x=>x.bits
 | .pick p x y=>p.bits ||| x.bits ||| y.bits
 | .guard g _ e=>g.bits ||| e.bits
 | .and p x=>p.bits ||| x.bits
 | .or p x=>p.bits ||| x.bits
 | .index _ x y=>x.bits ||| y.bits
 | .field _ x _=>x.bits
 | .extract x _=>x.bits
 | .conv _ _ x=>x.bits
 | .toInt _ x=>x.bits
 | .len _ x=>x.bits
 | .lenS x=>x.bits
 | .slA x=>x.bits
 | .slL x y=>x.bits ||| y.bits
 | .slH x y=>x.bits ||| y.bits
 | .slB x y z=>x.bits ||| y.bits ||| z.bits
 | .load _ x=>x.bits
 | .faddr _ x _=>x.bits
 | .iaddr _ x y=>x.bits ||| y.bits
 | .nilck x=>x.bits
def De (m i:M):M:=if m.testBit i then m-2^i else m
def tU:H It->M->M
 | [],out=>out
 | .par l::r,out=>l.foldl (fun m p=>m ||| p.2.bits) (l.foldl (fun m p=>De m p.1) (tU r out))
 | .gJ _ _ d g _ xs::r,out=>
  let m:=tU r out
  let m:=match d,g with | some i,none=>De m i | _,_=>m
  let m:=match g with | some (e,_)=>m ||| e.bits | none=>m
  xs.foldl (fun m p=>m ||| p.2.bits) m
def Fu (xs:H (M×M)) (i:M):M:=
 match xs with
 | []=>0
 | (j,m)::r=>if i=j then m else Fu r i
def oF (ret:M):IR->H (M×M)->M->M
 | .skip,_,out=>out
 | .ret,_,_=>ret
 | .stuck,_,_=>0
 | .own _,_,out=>out
 | .exit i,xs,_=>Fu xs i
 | .seq a b,xs,out=>oF ret a xs (oF ret b xs out)
 | .block i a,xs,out=>oF ret a ((i,out)::xs) out
 | .jC _ _ Ċ,_,out=>tU Ċ out
 | .cond x a b,xs,out=>oF ret a xs out ||| oF ret b xs out ||| 2^x
 | .loop _ a,xs,_=>oF ret a xs (oF ret a xs (oF ret a xs 0))
 | .td _ s,_,_=>2^s.keep.length-1
 | .CL x k _ Ċ,_,out=>De (tU Ċ out) k ||| 2^x
 | .alt l,_,out=>l.foldl (fun m x=>m ||| tU x.2.2 out) 0
def yT (d:M):H It->δ
 | []=>R
 | .gJ _ _ _ _ (.call ⟨.builtin .append,args,_⟩) xs::r=>(match args.toList with
  | .tmp t::_=>match dS xs t with
   | some (.var j)=>j==d
   | _=>R
  | _=>R) || yT d r
 | _::r=>yT d r
def Jv (c:aD):H It->H tq
 | []=> []
 | .gJ _ _ (D d) _ (.slice ty (.tmp t) .none _ .none) xs::r=>
  let rest:=Jv c r
  match yT d r,c.descOf ty,dS xs t with
  | true,D (.slice el),D (.var i)=>match c.ti el with
   | some j=>⟨i,W,el,j.size⟩::rest
   | none=>rest
  | _,_,_=>rest
 | .gJ _ _ _ _ (.call ⟨.builtin .append,args,ts⟩) xs::r=>
  let rest:=Jv c r
  match ts.toList,args.toList with
  | st::_,.tmp t::_=>match c.descOf st with
   | some (.slice el)=>match c.ti el,dS xs t with
    | some j,D (.var i)=>⟨i,W,el,j.size⟩::rest
    | some j,D (.load _ (.var i))=>⟨i,D 0,el,j.size⟩::rest
    | some j,D (.load _ (.faddr ľ (.var i) f))=>match c.ti ľ with
     | some k=>match k.fields[f]? with
      | some (_,o,_)=>⟨i,D o,el,j.size⟩::rest
      | none=>rest
     | none=>rest
    | some j,D (.load _ (.faddr ľ (.nilck (.var i)) f))=>match c.ti ľ with
     | some k=>match k.fields[f]? with
      | some (_,o,_)=>⟨i,D o,el,j.size⟩::rest
      | none=>rest
     | none=>rest
    | _,_=>rest
   | _=>rest
  | _,_=>rest
 | _::r=>Jv c r
def qm (c:aD) (d:M):H (υ×M×M)->H tq
 | []=> []
 | (t,o,_)::r=>match c.descOf t with
  | some (.slice el)=>match c.ti el with
   | some j=>⟨d,D o,el,j.size⟩::qm c d r
   | none=>qm c d r
  | _=>qm c d r
def NI (c:aD) (d:M) (ty:υ):H tq:=
 match c.ti ty with
 | some i=>match i.desc with
  | .slice el=>match c.ti el with
   | some j=> [⟨d,D 0,el,j.size⟩]
   | none=> []
  | .struct _=>qm c d i.fields
  | _=> []
 | none=> []
def storedIn (d:M):H It->δ
 | []=>R
 | .gJ _ _ _ _ (.store _ (.tmp t) _) xs::r=>(match dS xs t with | some (.var i)=>i==d | _=>R) || storedIn d r
 | _::r=>storedIn d r
def Df (d:M) (bs:H M):H It->δ
 | []=>R
 | .gJ _ _ _ _ (.store _ (.tmp t) (.tmp x)) xs::r=>(match dS xs t,dS xs x with | some (.var i),D (.var j)=>i==d&&bs.contains j | _,_=>R) || Df d bs r
 | _::r=>Df d bs r
def ib (c:aD) (bs:H M):H It->H tq
 | []=> []
 | .gJ _ _ (D d) _ (.alloc ty) _::r=>match c.cut&&storedIn d r with
  | true=>match Df d bs r with
   | true=>NI c d ty++ib c bs r
   | false=>ib c bs r
  | false=>NI c d ty++ib c bs r
 | .gJ _ _ (D d) _ (.build _ _) _::r=>ib c (d::bs) r
 | .gJ _ _ (D d) _ (.box ty (.tmp t)) xs::r=>match dS xs t with
  | some (.var j)=>match bs.contains j with
   | true=>NI c d ty++ib c bs r
   | false=>ib c bs r
  | _=>ib c bs r
 | _::r=>ib c bs r
def pI (c:aD):IR->H tq
 | .seq a b=>pI c a++pI c b
 | .block _ a=>pI c a
 | .cond _ a b=>pI c a++pI c b
 | .loop _ a=>pI c a
 | .jC _ _ Ċ=>Jv c Ċ
 | _=> []
def QS (a b:tq):δ:=a.slot==b.slot&&a.cell==b.cell
def dedup:H tq->H tq
 | []=> []
 | a::r=>match r.any (QS a) with
  | true=>dedup r
  | false=>a::dedup r
def yU:H tq->H M
 | []=> []
 | o::r=>match o.cell with
  | none=>(o.slot+1000)::yU r
  | some _=>yU r
def NJ (n m:M):H M:=(Ρ n).filter fun i=> !m.testBit i
def yk (l:H tq) (x:IR):IR:=
 match l with
 | []=>x
 | l=> .seq (.own l) x
def Hn (x:IR) (l:H tq):IR:=
 match l with
 | []=>x
 | l=> .seq x (.own l)
def Dg:H It->H tq
 | []=> []
 | .gJ (D (0::_)) _ _ _ (.slice ty (.tmp t) _ _ W) xs::r=>match dS xs t with
  | some (.var i)=>⟨i,W,ty,0⟩::Dg r
  | _=>Dg r
 | _::r=>Dg r
def qn (c:aD):H It->H tq
 | []=> []
 | .gJ (D (0::_)) _ _ _ (.call ⟨.value (.func f),args,_⟩) xs::r=>
  match c.GO f with
  | true=>(args.toList.filterMap fun a=>match a with
   | .tmp t=>(match dS xs t with
    | some (.var i)=>D ⟨i,W,0,0⟩
    | _=>W)
   | _=>W)++qn c r
  | false=>qn c r
 | _::r=>qn c r
def nZ (c:aD):H (M×E)->H It->H tq
 | _, []=> []
 | σ,.par l::r=>nZ c (l++σ) r
 | σ,.gJ _ _ _ _ (.call ⟨.builtin .append,args,ts⟩) xs::r=>
  match ts.toList,args.toList with
  | st::_,.tmp t::_=>match c.descOf st,dS xs t with
   | some (.slice el),D (.var i)=>match c.ti el,dS σ i with
    | some j,D (.load _ (.var q))=>⟨q,D 0,el,j.size⟩::nZ c σ r
    | _,_=>nZ c σ r
   | _,_=>nZ c σ r
  | _,_=>nZ c σ r
 | σ,_::r=>nZ c σ r
def cellsIn (c:aD):IR->H tq
 | .seq a b=>cellsIn c a++cellsIn c b
 | .block _ a=>cellsIn c a
 | .cond _ a b=>cellsIn c a++cellsIn c b
 | .loop _ a=>cellsIn c a
 | .jC _ _ Ċ=>nZ c [] Ċ
 | _=> []
def Z1 (c:aD) (s:Site):H tq:=
 match kL c s.keep s.nt s.body with
 | some b=>dedup (cellsIn c b)
 | none=> []
def mU (c:aD) (n ret:M):IR->H (M×M)->M->IR
 | .seq a b,xs,out=> .seq (mU c n ret a xs (oF ret b xs out)) (mU c n ret b xs out)
 | .block i a,xs,out=> .block i (mU c n ret a ((i,out)::xs) out)
 | .cond x a b,xs,out=> .cond x (mU c n ret a xs out) (mU c n ret b xs out)
 | .loop k a,xs,out=>yk ((dedup (pI c a)).filter fun o=>(oF ret (.loop k a) xs out).testBit o.slot) (.loop (NJ n (oF ret (.loop k a) xs out)++yU (pI c a)) (mU c n ret a xs (oF ret (.loop k a) xs out)))
 | .jC m kl Ċ,_,_=>yk (match c.cut with | true=>qn c Ċ | false=>Dg Ċ) (Hn (.jC m kl Ċ) (ib c [] Ċ))
 | .td x s,_,_=>yk (match c.cut with | true=>Z1 c s | false=> []) (.td x s)
 | ir,_,_=>ir
def HU (l:H (M×M)) (i:M):I M:=
 match l with
 | []=>W
 | (j,k)::r=>if i=j then D k else HU r i
def adS (ds:H (M×M)) (acc:H M) (i:M):H M:=
 match HU ds i with
 | some 2 | none=>i::acc
 | _=>acc
def QT (c:aD):Op->δ
 | .convert s d _=>match c.descOf s,c.descOf d with
  | some (.int _),D (.int _)=>R
  | _,_=>J
 | .load _ _ | .fieldAddr _ _ _ | .indexAddr _ _ _=>J
 | .call k=>match k.argTypes.toList with
  | [t]=>match c.descOf t with
   | some .string=>R
   | _=>J
  | _=>J
 | _=>R
def tV (c:aD) (ops:Z T):H T->H (M×M)->H M->H M
 | [],_,acc=>acc
 | o::r,ds,acc=>
  let us:=o.op.operands.toList.filterMap MQ
  let us:=match o.guard with
   | some (j,_)=>match (ops[j]?).bind (·.dst) with | some d=>d::us | none=>us
   | none=>us
  let acc:=us.foldl (adS ds) acc
  let acc:=match o.op,o.dst with | .next _ R,D d=>d::acc | _,_=>acc
  let ķ:=(Dd c ops (fun x=>D (match x with | .tmp i=>E.var i | _=> .cst .cn)) o.op).isSome&&o.dst.isSome
  let rd:=QT c o.op || us.any fun u=>HU ds u==D 1
  let ds:=match ķ with
   | true=>ds
   | false=>ds.map fun p=>if p.2==1 then (p.1,2) else p
  match o.dst with
  | some d=>tV c ops r ((d,match ķ,rd with | true,true=>1 | true,false=>0 | false,_=>2)::ds) acc
  | none=>tV c ops r ds acc
def uZ (c:aD):M->Z T->H (Z T)
 | 0,_=> []
 | k+1,ops=>match xi c ops with
  | some (i,j)=>uZ c k (fF id id i j ops)++uZ c k (fF (sg i j) (ta i j) j i ops)
  | none=> [ops]
def qT (c:aD):Code->H M->H M
 | .seq a b,acc=>qT c b (qT c a acc)
 | .block _ a,acc=>qT c a acc
 | .scope a,acc=>qT c a acc
 | .cond (.tmp x) a b,acc=>qT c b (qT c a (x::acc))
 | .loop a,acc=>qT c a acc
 | .region _ ops dr,acc=>match dr,xi c ops with
  | true,D _=>(uZ c 4 ops).foldl (fun a o=>tV c o o.toList [] a) (tV c ops ops.toList [] acc)
  | _,_=>tV c ops ops.toList [] acc
 | .rangeFunc (.tmp t) _ asg body,acc=>qT c body (qT c asg (t::acc))
 | _,acc=>acc
def lE (c:aD) (fn:Func) (a:Code):H M:=
 let l:=qT c a (fn.results.toList.map fun | .tmp i=>i | .cell i _=>i)
 (Ρ fn.ntmps).filter fun i=>l.contains i
inductive PE where
 | v (i:M)
 | cell (i:M) (ty:υ)
structure bt where
 keep:H M
 code:IR
 res:H PE
def rX (keep:H M):H ResultVar->I (H PE)
 | []=>D []
 | .tmp i::r=>match posOf keep i,rX keep r with
  | some k,D l=>D (.v k::l)
  | _,_=>W
 | .cell i ty::r=>match posOf keep i,rX keep r with
  | some k,D l=>D (.cell k ty::l)
  | _,_=>W
def qo:H PE->M
 | []=>0
 | .v i::r=>2^i ||| qo r
 | .cell i _::r=>2^i ||| qo r
def tB (c:aD) (keep:H M) (fn:Func):I bt:=
 match fn.body with
 | none=>W
 | some a=>match rX keep fn.results.toList,kL c keep fn.ntmps a,decide (fn.ntmps<10000)&&keep.all fun i=>decide (i<fn.ntmps) with
  | some rs,D ir,true=>D {keep:=keep,code:=mU c (É keep) (qo rs) ir [] (qo rs),res:=rs}
  | _,_,_=>W
def IR.oD:IR->δ
 | .td _ _=>R
 | .seq a b=>a.oD&&b.oD
 | .block _ a=>a.oD
 | .cond _ a b=>a.oD&&b.oD
 | .loop _ a=>a.oD
 | _=>J
def xc (c:aD) (s:Site):I (IR×IR):=
 match kL c s.keep s.nt s.asg,kL c s.keep s.nt s.body,decide (s.nt<10000)&&s.keep.all fun i=>decide (i<s.nt) with
 | some a,D b,true=>match (mU c s.keep.length 0 a [] (2^s.keep.length-1)).oD&&(mU c s.keep.length 0 b [] 0).oD with
  | true=>D (mU c s.keep.length 0 a [] (2^s.keep.length-1),mU c s.keep.length 0 b [] 0)
  | false=>W
 | _,_,_=>W
def EO (keep:H M):H Tmp->H AV->H (I AV)->H (I AV)
 | p::ps,x::xs,v=>EO keep ps xs (match posOf keep p with | some k=>v.set k (D x) | none=>v)
 | _,_,v=>v
def CK (s:Site) (env args:H AV):H (I AV):=EO s.keep s.ps.toList args (env.map D)
def aj (c:aD) (fn:Func):I bt:=
 match fn.body with
 | none=>W
 | some a=>tB c (lE c fn a) fn
end Go.Am
