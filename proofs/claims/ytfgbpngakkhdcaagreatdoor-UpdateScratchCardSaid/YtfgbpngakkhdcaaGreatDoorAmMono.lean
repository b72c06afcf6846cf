/- An operation of the abstract machine hangs on its operands and on the boxes that are .. -/
import Derived.Test.YtfgbpngakkhdcaaGreatDoorAmStep
open Array renaming mem_append->ab5
open Bool renaming and_eq_true->abj
open List renaming map_congr_left->ab9,mem_append->abN
open Nat renaming mod_two_eq_zero_or_one->acy
set_option linter.all false
namespace Go.Am
def Sub (bs bs':List ad):Prop:= ∀k,ad.at bs k≠ .dead->ad.at bs' k=ad.at bs k
theorem Sub.var {bs bs':List ad} (h:Sub bs bs') {k:Nat} {ty:TypeId} {cs:List AV} (hb:ad.at bs k= .var ty cs):ad.at bs' k= .var ty cs:=by rw [h k (by rw [hb];simp),hb]
theorem Sub.sl {bs bs':List ad} (h:Sub bs bs') {k:Nat} {sh:Hd} {sz:Nat} {es:List AV} (hb:ad.at bs k= .sl sh sz es):ad.at bs' k= .sl sh sz es:=by rw [h k (by rw [hb];simp),hb]
def c9.soft:c9->Prop
 | .none=>True
 | .new _=>True
 | _=>False
section
variable {bs bs':List ad} (hs:Sub bs bs')
include hs
theorem jy {x:AV} {p:Nat×List AV} (h:elems bs x=some p):elems bs' x=some p:=by
 unfold elems at h⊢;split at h
 ·exact h
 ·exact h
 ·split at h
  ·rename_i hb;rw [hs.sl hb];exact h
  ·cases h
 ·split at h
  ·rename_i hb;rw [hs.sl hb];exact h
  ·cases h
 ·cases h
mutual
theorem KU: ∀{x y:AV},e9 bs x=some y->e9 bs' x=some y
 | .ax k n,y,h=>by
  simp only [e9] at h⊢;split at h
  ·rename_i hb;rw [hs.sl hb];exact h
  ·cases h
 | .gn k n lo hi,y,h=>by
  simp only [e9] at h⊢;split at h
  ·rename_i hb;rw [hs.sl hb];exact h
  ·cases h
 | .agg cs,y,h=>by
  simp only [e9] at h⊢;split at h
  ·exact h
  ·cases hl:dC bs cs with
   | none=>rw [hl] at h;cases h
   | some l=>rw [kC hl,<-hl];exact h
 | .any,y,h=>h
 | .kc,y,h=>h
 | .int _ _,y,h=>h
 | .bool _,y,h=>h
 | .str _,y,h=>h
 | .aL _,y,h=>h
 | .bZ,y,h=>h
 | .ptr _ _,y,h=>h
 | .cM _ _ _ _,y,h=>h
 | .dj _,y,h=>h
 | .ag _ _ _,y,h=>h
 | .cv _,y,h=>h
 | .fn _ _ _,y,h=>h
 | .eG,y,h=>h
 | .gR _,y,h=>h
 | .ma _ _ _,y,h=>h
 | .gm _ _ _,y,h=>h
 | .bT _,y,h=>h
 | .lE _,y,h=>h
 | .ja,y,h=>h
theorem kC: ∀{l l':List AV},dC bs l=some l'->dC bs' l=some l'
 | [],l',h=>h
 | v::r,l',h=>by
  simp only [dC] at h⊢;split at h
  ·rename_i a l2 ha hl;rw [KU ha,kC hl];exact h
  ·cases h
end
theorem qK {v:AV}: ∀{l:List AV},dv v bs l=true->dv v bs' l=true
 | [],_=>rfl
 | x::r,h=>by
  have here: ∀k,(qk v (ad.at bs k)&&dv v bs r)=true->(qk v (ad.at bs' k)&&dv v bs' r)=true:=fun k h=>by
   rw [abj] at h⊢;refine ⟨?_,qK h.2⟩;have h1:=h.1;rw [hs k (fun hd=>by rw [hd] at h1;cases h1)];exact h1
  cases x with
  | ax k n=>exact here k (by simpa only [dv] using h)
  | gn k n lo hi=>exact here k (by simpa only [dv] using h)
  | _=>simp only [dv] at h⊢;exact qK h
theorem si {k:Bool} {v r:AV} {args:List AV} (h:cn k v args bs=some (r,.none)):cn k v args bs'=some (r,.none):=by
 unfold cn at h⊢;split at h
 ·rename_i hh
  have:(v.flat || !mv args || (k&&dv v bs' args))=true:=by rw [Bool.or_eq_true] at hh⊢;refine hh.imp_right fun h1=> ?_;rw [abj] at h1⊢;exact ⟨h1.1,qK hs h1.2⟩
  rw [this];exact h
 ·cases h
theorem Dh {x:AV} {p:List (AV×AV×Nat)} (h:dq x bs=some p):dq x bs'=some p:=by
 unfold dq at h⊢;split at h
 ·exact h
 ·split at h
  ·rename_i hb;rw [hs _ (by rw [hb];simp),hb];exact h
  ·cases h
 ·cases h
theorem Ir {i:Option TI} {x r:AV} {id:Nat} {e:c9} (h:mw i x bs id=some (r,e)):mw i x bs' id=some (r,e):=by
 unfold mw at h⊢;split at h
 ·split at h
  ·exact h
  ·split at h
   ·rename_i hb;rw [hs _ (by rw [hb];simp),hb];exact h
   ·cases h
  ·cases h
 ·cases h
theorem Is {x r:AV} {e:c9} (h:nN x bs=some (r,e)):nN x bs'=some (r,e):=by
 unfold nN at h⊢;split at h
 ·split at h
  ·rename_i hb;rw [hs _ (by rw [hb];simp),hb];simp only;split at h
   ·rename_i h1 h2;rw [hs _ (by rw [h2];simp),h1,h2];exact h
   ·cases h
  ·cases h
 ·cases h
theorem Fw {c:av} {i:Option TI} {x k r:AV} {ok:Bool} {e:c9} (h:bU c i x k ok bs=some (r,e)):bU c i x k ok bs'=some (r,e):=by
 unfold bU at h⊢;split at h
 ·split at h
  ·split at h
   ·rename_i he;rw [Dh hs he];exact h
   ·cases h
  ·cases h
 ·cases h
omit hs in
theorem ot {c:av} {i:Option TI} {m k x r:AV} {e:c9} (h:ay c i m k x bs=some (r,e)): ¬ e.soft:=by
 unfold ay at h;split at h
 ·split at h
  ·split at h
   ·split at h
    ·split at h
     ·split at h
      ·split at h
       ·cases h;exact id
       ·cases h
      ·cases h;exact id
      ·cases h
     ·cases h
    ·cases h
   ·cases h
  ·cases h
 ·cases h
omit hs in
theorem yn {c:av} {i:Option TI} {m k r:AV} {e:c9} (h:ju c i m k bs=some (r,e)): ¬ e.soft:=by
 unfold ju at h;split at h
 ·split at h
  ·split at h
   ·split at h
    ·split at h
     ·split at h
      ·split at h
       ·cases h;exact id
       ·cases h
      ·split at h
       ·split at h
        ·split at h
         ·cases h;exact id
         ·cases h
        ·cases h
       ·cases h
      ·cases h
     ·cases h
    ·cases h
   ·cases h
  ·cases h
 ·cases h
omit hs in
theorem vn {m s x r:AV} {e:c9} (h:gg m s x bs=some (r,e)): ¬ e.soft:=by
 unfold gg at h;split at h
 ·split at h
  ·split at h
   ·split at h
    ·cases h;exact id
    ·cases h
   ·cases h
  ·cases h
 ·cases h
theorem Di {x r:AV} {o:Nat} {e:c9} (h:nh x o bs=some (r,e)):nh x o bs'=some (r,e):=by
 unfold nh at h⊢;split at h
 ·exact h
 ·split at h
  ·rename_i hb;rw [hs.sl hb];exact h
  ·cases h
 ·exact h
 ·cases h
theorem KW {i:Option TI} {x r:AV} {e:c9} (h:nK i x bs=some (r,e)):nK i x bs'=some (r,e):=by
 unfold nK at h⊢;split at h
 ·split at h
  ·split at h
   ·rename_i hb;rw [hs.var hb];exact h
   ·cases h
  ·split at h
   ·rename_i hb;rw [hs.sl hb];exact h
   ·cases h
  ·exact h
  ·cases h
 ·cases h
theorem N0 {d:TypeDesc} {x r:AV} {e:c9} (h:qh d x bs=some (r,e)):qh d x bs'=some (r,e):=by
 unfold qh at h⊢;split at h
 ·exact h
 ·split at h
  ·rename_i hel;rw [jy hs hel];exact h
  ·cases h
 ·exact h
 ·cases h
omit hs in
theorem sj {i:TI} {el:TypeId} {s r:AV} {xs:List AV} {id:Nat} {e:c9} (he:e.soft) (h:e8 i el bs s xs id=some (r,e)):e8 i el bs' s xs id=some (r,e):=by
 unfold e8 at h⊢;split at h
 ·exact h
 ·exact h
 ·split at h
  ·split at h
   ·cases h;exact he.elim
   ·cases h
  ·cases h
 ·split at h
  ·split at h
   ·cases h;exact he.elim
   ·cases h
  ·cases h
 ·cases h
theorem Fx {c:av} {st xt:TypeId} {s x r:AV} {id:Nat} {e:c9} (he:e.soft) (h:im c bs st xt s x id=some (r,e)):im c bs' st xt s x id=some (r,e):=by
 unfold im at h⊢;split at h
 ·split at h
  ·split at h
   ·split at h
    ·split at h
     ·rename_i hel;rw [jy hs hel];simp only;split at h
      ·rename_i hc;rw [if_pos hc];exact sj he h
      ·cases h
     ·cases h
    ·split at h
     ·split at h
      ·rename_i hc;rw [if_pos hc];exact sj he h
      ·cases h
     ·cases h
    ·cases h
   ·cases h
  ·cases h
 ·cases h
omit hs in
theorem Iu {x r:AV} {str:Bool} {e:c9} (h:wu x str bs=some (r,e)): ¬ e.soft:=by
 unfold wu at h;split at h
 ·split at h
  ·split at h <;> (cases h;exact fun h=>h)
  ·cases h
 ·cases h
omit hs in
theorem xz {c:av} {i:Option TI} {len:Nat} {ps:List (Nat×AV)} {id:Nat} {r:AV} {e:c9} (he:e.soft) (h:fa c i len ps id bs=some (r,e)):fa c i len ps id bs'=some (r,e):=by
 unfold fa gB at h⊢;split at h
 ·exact h
 ·split at h
  ·split at h
   ·cases h;exact he.elim
   ·cases h
  ·cases h
theorem Dj {c:av} {src dst:Option TI} {x r:AV} {id:Nat} {e:c9} (h:ea c src dst x bs id=some (r,e)):ea c src dst x bs' id=some (r,e):=by
 unfold ea at h⊢;split at h
 ·split at h
  ·split at h
   ·rename_i hd hb;rw [hs.var hb,hd];exact h
   ·cases h
  ·split at h
   ·rename_i hd hb;rw [hs.var hb,hd];exact h
   ·cases h
  ·exact h
  ·exact h
  ·exact h
  ·exact h
  ·split at h
   ·split at h
    ·rename_i hd hel;rw [jy hs hel,hd];exact h
    ·cases h
   ·cases h
  ·cases h
 ·cases h
theorem sk {i:TI} {el:TypeId} {s r:AV} {xs:List AV} {id:Nat} {e:c9} (h:e8 i el bs s xs id=some (r,e)):e8 i el bs' s xs id=some (r,e):=by
 unfold e8 at h⊢;split at h
 ·exact h
 ·exact h
 ·split at h
  ·rename_i hb;rw [hs.sl hb];exact h
  ·cases h
 ·split at h
  ·rename_i hb;rw [hs.sl hb];exact h
  ·cases h
 ·cases h
theorem E2 {c:av} {st xt:TypeId} {s x r:AV} {id:Nat} {e:c9} (h:im c bs st xt s x id=some (r,e)):im c bs' st xt s x id=some (r,e):=by
 unfold im at h⊢;split at h
 ·split at h
  ·split at h
   ·split at h
    ·split at h
     ·rename_i hel;rw [jy hs hel];simp only;split at h
      ·rename_i hc;rw [if_pos hc];exact sk hs h
      ·cases h
     ·cases h
    ·split at h
     ·split at h
      ·rename_i hc;rw [if_pos hc];exact sk hs h
      ·cases h
     ·cases h
    ·cases h
   ·cases h
  ·cases h
 ·cases h
theorem wN {c:av} {d:TypeDesc} {x r:AV} {lo hi:Option AV} {e:c9} (h:dP c d x lo hi bs=some (r,e)):dP c d x lo hi bs'=some (r,e):=by
 unfold dP at h⊢;split at h
 ·exact h
 ·exact h
 ·split at h
  ·rename_i hb;rw [hs.sl hb];exact h
  ·cases h
 ·split at h
  ·rename_i hb;rw [hs.sl hb];exact h
  ·cases h
 ·cases h
theorem Fy {c:av} {d:TypeDesc} {x r:AV} {lo hi:Option AV} {e:c9} (_:e.soft) (h:dP c d x lo hi bs=some (r,e)):dP c d x lo hi bs'=some (r,e):=wN hs h
theorem Fz {c:av} {d:TypeDesc} {x r:AV} {lo hi mx:Option AV} {e:c9} (h:kv c d x lo hi mx bs=some (r,e)):kv c d x lo hi mx bs'=some (r,e):=by
 unfold kv at h⊢;split at h
 ·split at h
  ·rename_i hel hj;rw [jy hs hel,hj];exact h
  ·cases h
 ·cases h
theorem yo {i:Option TI} {x r:AV} {f:Nat} {e:c9} (h:cN i x f bs=some (r,e)):cN i x f bs'=some (r,e):=by
 unfold cN at h⊢;split at h
 ·split at h
  ·split at h
   ·split at h
    ·cases h
    ·exact Di hs h
   ·cases h
  ·cases h
 ·cases h
theorem yp {c:av} {i:Option TI} {x y r:AV} {e:c9} (h:er c i x y bs=some (r,e)):er c i x y bs'=some (r,e):=by
 unfold er at h⊢;split at h
 ·split at h
  ·split at h
   ·rename_i hc;split at h
    ·rw [if_pos hc];exact Di hs h
    ·cases h
   ·cases h
  ·split at h
   ·split at h
    ·exact h
    ·split at h
     ·rename_i hb;rw [hs.sl hb];exact h
     ·cases h
    ·split at h
     ·rename_i hb;rw [hs.sl hb];exact h
     ·cases h
    ·cases h
   ·cases h
  ·cases h
 ·cases h
theorem KX {c:av} {st:TypeId} {d x r:AV} {e:c9} (he:e.soft) (h:wk c bs st d x=some (r,e)):wk c bs' st d x=some (r,e):=by
 unfold wk at h⊢;split at h
 ·split at h
  ·split at h
   ·split at h
    ·rename_i hel;rw [jy hs hel];simp only;split at h
     ·rename_i hc;rw [if_pos hc];unfold Ar at h⊢;split at h
      ·split at h
       ·rename_i hb;rw [hs.sl hb];simp only;split at h
        ·rename_i hcc;rw [if_pos hcc];split at h
         ·rename_i h0;rw [if_pos h0];exact h
         ·cases h;exact he.elim
        ·cases h
       ·cases h
      ·exact h
     ·cases h
    ·cases h
   ·cases h
  ·cases h
 ·cases h
theorem Dk {c:av} {b:Builtin} {ts:List TypeId} {xs:List AV} {id:Nat} {r:AV} {e:c9} (he:e.soft) (h:eH c b ts xs bs id=some (r,e)):eH c b ts xs bs' id=some (r,e):=by
 unfold eH at h⊢;split at h
 ·split at h
  ·split at h
   ·exact N0 hs h
   ·cases h
  ·cases h
 ·split at h
  ·exact Fx hs he h
  ·cases h
 ·exact h
 ·exact h
 ·split at h
  ·unfold Cc at h⊢;split at h
   ·exact h
   ·split at h
    ·rename_i hb;rw [hs.sl hb];exact h
    ·cases h
   ·cases h
  ·cases h
 ·split at h
  ·split at h
   ·unfold Cd at h⊢;split at h
    ·exact h
    ·split at h
     ·split at h
      ·rename_i es _ _ _ _;cases hb:k8 es with
       | none=>rw [hb] at h;cases h
       | some s=>rw [hb] at h;cases h;exact he.elim
      ·cases h
     ·cases h
    ·cases h
   ·cases h
  ·cases h
 ·split at h
  ·exact KX hs he h
  ·cases h
 ·cases h
theorem Hb {c:av} {op:Op} {t:Env} {id:Nat} {r:AV} {e:c9} (he:e.soft) (h:fR c op t bs id=some (r,e)):fR c op t bs' id=some (r,e):=by
 cases op with
 | load ty a=>exact KW hs h
 | store ty a x=>
  exfalso;simp only [fR] at h;unfold nM at h;split at h
  ·split at h
   ·split at h
    ·split at h
     ·split at h
      ·cases h;exact he
      ·cases h
     ·cases h
    ·split at h
     ·split at h
      ·split at h
       ·rename_i el _;split at h
        ·obtain ⟨b,rfl⟩:=k9 h;exact he
        cases hst:cY el _ (ev t x).cells with
        | none=>rw [hst] at h;cases h
        | some y=>rw [hst] at h;cases h;exact he
       ·cases h
      ·cases h
     ·cases h
    ·cases h
   ·cases h
  ·cases h
 | convert src dst x=>exact Dj hs h
 | buildSlice ty len ps=>exact xz he h
 | next x str=>exact absurd he (Iu h)
 | slice ty x lo hi mx=>
  simp only [fR] at h⊢;split at h
  ·split at h
   ·exact Fy hs he h
   ·exact Fz hs h
  ·cases h
 | fieldAddr ty x f=>exact yo hs h
 | indexAddr ty x ix=>exact yp hs h
 | call k=>
  simp only [fR] at h⊢;split at h
  ·exact Dk hs he h
  ·cases h
 | makeFunc fn a b=>cases fn <;> exact h
 | lookup ty x k ok=>exact Fw hs h
 | range ty x=>exact Ir hs h
 | mapUpdate ty m k x=>exact absurd he (ot h)
 | insert ty m k x=>exact absurd he (ot h)
 | mapEntry ty m k=>exact absurd he (yn h)
 | entryStore ty m s x=>exact absurd he (vn h)
 | entry x=>exact Is hs h
 | _=>exact h
theorem wQ {c:av} {cf:aF} {op:Op} {t:Env} {id:Nat} {r:AV} {e:c9} (he:e.soft) (h:bj c cf op t bs id=some (r,e)):bj c cf op t bs' id=some (r,e):=by
 unfold bj at h⊢;split at h
 ·split at h
  ·split at h
   ·split at h
    ·exact h
    have all: ∀{v:AV} {b:List ad},(some (v,c9.all b):Out)=some (r,e)->False:=fun hx=>by cases hx;exact he
    have app: ∀{v:AV} {b:ad},(some (v,c9.app b):Out)=some (r,e)->False:=fun hx=>by cases hx;exact he
    have qg: ∀{v:AV} {b:Nat},(some (v,c9.qg b):Out)=some (r,e)->False:=fun hx=>by cases hx;exact he
    unfold nj at h⊢;split at h
    ·split at h
     ·exact (all h).elim
     ·cases h
    unfold ni at h⊢;split at h
    ·split at h
     ·split at h
      ·exact (qg h).elim
      ·cases h
     ·split at h
      ·exact (all h).elim
      ·cases h
    unfold uv at h⊢;split at h
    ·rename_i l hl;rw [kC hs hl];simp only;split at h
     ·split at h
      ·split at h
       ·split at h
        ·rename_i hp;rw [if_pos hp];cases hlb:cn (c.ED _) _ _ bs with
         | none=>rw [hlb] at h;cases h
         | some p=>
          obtain ⟨p1,p2⟩:=p;rw [hlb] at h;unfold cn at hlb;split at hlb
          ·cases hlb;rw [si hs (by unfold cn;rw [‹(_ || _)=true›])];exact h
          ·cases hlb;exact (all h).elim
        ·cases h
       ·cases h
      ·split at h
       ·split at h
        ·rename_i hp;rw [if_pos hp];cases hlb:cn (c.ED _) _ _ bs with
         | none=>rw [hlb] at h;cases h
         | some p=>
          obtain ⟨p1,p2⟩:=p;rw [hlb] at h;unfold cn at hlb;split at hlb
          ·cases hlb;rw [si hs (by unfold cn;rw [‹(_ || _)=true›])];exact h
          ·cases hlb;exact (all h).elim
        ·cases h
       ·split at h
        ·split at h
         ·exact (all h).elim
         ·exact (app h).elim
        ·split at h
         ·exact (all h).elim
         ·cases h
       ·cases h
     ·split at h
      ·exact (all h).elim
      ·cases h
    ·cases h
   ·split at h
    ·cases h;exact he.elim
    ·cases h
   ·cases h
  ·exact Hb hs he h
 ·exact Hb hs he h
end
theorem kG {t t':Env} {l:List Operand} (h: ∀x∈l,ev t x=ev t' x):ng t l=ng t' l:=ab9 h
theorem uQ {t t':Env} {l:List (Nat×Operand)} (h: ∀x∈l.map (·.2),ev t x=ev t' x):(l.map fun p=>(p.1,ev t p.2))=l.map fun p=>(p.1,ev t' p.2):=
 ab9 fun p hp=>by rw [h p.2 (List.mem_map_of_mem hp)]
theorem tE {t t':Env} {x:Option Operand} (h: ∀y∈x.toArray,ev t y=ev t' y):x.map (ev t)=x.map (ev t'):=by
 cases x with
 | none=>rfl
 | some x=>simp only [Option.map_some];rw [h x (by simp)]
theorem tF (c:av) {op:Op} {t t':Env} (h: ∀x∈op.operands,ev t x=ev t' x) (bs:List ad) (id:Nat):fR c op t bs id=fR c op t' bs id:=by
 cases op <;> simp only [Op.operands] at h
 case move x=>simp only [fR];rw [h x (by simp)]
 case assign x=>simp only [fR];rw [h x (by simp)]
 case pick x y z=>simp only [fR];rw [h x (by simp),h y (by simp),h z (by simp)]
 case box e x=>simp only [fR];rw [h x (by simp)]
 case build ty ps=>simp only [fR];rw [uQ (fun x hx=>h x (by simpa using hx))]
 case buildSlice ty n ps=>simp only [fR];rw [uQ (fun x hx=>h x (by simpa using hx))]
 case load ty x=>simp only [fR];rw [h x (by simp)]
 case store ty x y=>simp only [fR];rw [h x (by simp),h y (by simp)]
 case nilCheck x=>simp only [fR];rw [h x (by simp)]
 case makeInterface ty x=>simp only [fR];rw [h x (by simp)]
 case binOp o ty x y ty'=>simp only [fR];rw [h x (by simp),h y (by simp)]
 case unOp o ty x=>simp only [fR];rw [h x (by simp)]
 case convert s d x=>simp only [fR];rw [h x (by simp)]
 case makeFunc fn first caps=>
  cases fn <;> first
   | rfl
   | (simp only [fR];rw [kG (fun x hx=>h x (by simp at hx⊢;exact .inl hx)),kG (fun x hx=>h x (by simp at hx⊢;exact .inr hx))])
 case makeSlice ty x y=>simp only [fR];rw [h x (by simp),h y (by simp)]
 case slice ty x lo hi mx=>
  have h1:=tE (x:=lo) (fun y hy=>h y (by simp only [ab5];exact .inl (.inl (.inr hy))));have h2:=tE (x:=hi) (fun y hy=>h y (by simp only [ab5];exact .inl (.inr hy)));simp only [fR];rw [h x (by simp),h1,h2];cases mx with
  | none=>rfl
  | some m=>simp only;rw [h m (by simp)]
 case fieldAddr ty x f=>simp only [fR];rw [h x (by simp)]
 case field ty x f=>simp only [fR];rw [h x (by simp)]
 case indexAddr ty x y=>simp only [fR];rw [h x (by simp),h y (by simp)]
 case index ty x y=>simp only [fR];rw [h x (by simp),h y (by simp)]
 case extract x i=>simp only [fR];rw [h x (by simp)]
 case makeMap ty r=>simp only [fR];rw [tE h]
 case range ty x=>simp only [fR];rw [h x (by simp)]
 case next x str=>simp only [fR];rw [h x (by simp)]
 case lookup ty x k ok=>simp only [fR];rw [h x (by simp),h k (by simp)]
 case mapUpdate ty m k x=>simp only [fR];rw [h m (by simp),h k (by simp),h x (by simp)]
 case insert ty m k x=>simp only [fR];rw [h m (by simp),h k (by simp),h x (by simp)]
 case mapEntry ty m k=>simp only [fR];rw [h m (by simp),h k (by simp)]
 case entryStore ty m s x=>simp only [fR];rw [h m (by simp),h s (by simp),h x (by simp)]
 case entry x=>simp only [fR];rw [h x (by simp)]
 case call k=>
  obtain ⟨callee,args,ts⟩:=k;simp only [fR];rw [kG (fun x hx=>h x (by simp only [Call.operands,ab5];exact .inr (by simpa using hx)))]
 all_goals rfl
theorem FB (c:av) (cf:aF) {op:Op} {t t':Env} (h: ∀x∈op.operands,ev t x=ev t' x) (bs:List ad) (id:Nat):bj c cf op t bs id=bj c cf op t' bs id:=by
 unfold bj;split
 ·rename_i k;obtain ⟨callee,args,ts⟩:=k;simp only;cases callee with
  | value f=>simp only;rw [h f (by simp [Op.operands,Call.operands]),kG (fun x hx=>h x (by simp only [Op.operands,Call.operands,ab5];exact .inr (by simpa using hx)))]
  | invoke r m=>exact tF c h bs id
  | builtin b=>exact tF c h bs id
 ·exact tF c h bs id
theorem Tr.set_comm {α:Type} (t:Tr α): ∀{i j:Nat} (x y:α),i≠j->(t.set i x).set j y=(t.set j y).set i x:=by
 induction t with
 | lf=>intro i j x y _;rfl
 | nd v l r ihl ihr=>
  intro i j x y h;cases i with
  | zero=>cases j with
   | zero=>exact absurd rfl h
   | succ j=>rcases acy j with hj | hj <;> simp only [Tr.set,hj]
  | succ i=>cases j with
   | zero=>rcases acy i with hi | hi <;> simp only [Tr.set,hi]
   | succ j=>
    rcases acy i with hi | hi <;> rcases acy j with hj | hj <;> simp only [Tr.set,hi,hj]
    ·rw [ihl x y (vH (by omega) (by omega))]
    ·rw [ihr x y (vH (by omega) (by omega))]
theorem RY {t:Env} {d:Option Tmp} {v:AV} {x:Operand} (h: ∀i,d=some i->x≠ .tmp i):ev (aB t d v) x=ev t x:=by
 cases d with
 | none=>rfl
 | some d=>
  cases x with
  | tmp i=>exact Tr.bu _ _ _ (fun e=>h d rfl (by rw [e]))
  | _=>rfl
theorem H6 (t:Env) {d d':Option Tmp} (v v':AV) (h: ∀i,d=some i->d'≠some i):aB (aB t d v) d' v'=aB (aB t d' v') d v:=by
 cases d with
 | none=>rfl
 | some d=>
  cases d' with
  | none=>rfl
  | some d'=>exact Tr.set_comm t v v' (fun e=>h d rfl (by rw [e]))
theorem rH {c:av} {cf:aF} {ops:Array Oper} {x y:Oper} (h: ∀d,x.dst=some d->d∉y.looksAt ops) (t:Env) (v:AV) (bs:List ad) (id:Nat):
  bj c cf y.op (aB t x.dst v) bs id=bj c cf y.op t bs id∧aW ops (aB t x.dst v) y.guard=aW ops t y.guard:=by
 refine ⟨FB c cf (fun z hz=>RY (fun i hi e=> ?_)) bs id,?_⟩
 ·refine h i hi ?_;subst e;simp only [Oper.looksAt,abN,List.mem_filterMap];exact .inl ⟨.tmp i,by simpa using hz,rfl⟩
 ·unfold aW;cases hg:y.guard with
  | none=>rfl
  | some p=>
   obtain ⟨j,want⟩:=p;simp only;cases hd:(ops[j]?).bind (·.dst) with
   | none=>rfl
   | some d=>
    simp only
    have:Tr.get AV.any (aB t x.dst v) d=Tr.get AV.any t d:=by
     cases hx:x.dst with
     | none=>rfl
     | some i=>refine Tr.bu _ _ _ (fun e=>h i hx ?_);subst e;simp only [Oper.looksAt,abN];exact .inr (by simp [hg,hd])
    rw [this]
end Go.Am
