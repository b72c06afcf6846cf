/-
 An operation of the abstract machine hangs on its operands and on the boxes that are there: more boxes turn nothing.
-/
import Derived.Test.YtfnkchadeaedlaaGreatDoorAmStep
set_option linter.all false
namespace Go.Am
def Sub (bs bs':List ad):Prop:= ∀k,ad.at bs k≠ .dead→ad.at bs' k=ad.at bs k
theorem Sub.var {bs bs':List ad} (h:Sub bs bs') {k:Nat} {ty:TypeId} {cs:List AV} (hb:ad.at bs k= .var ty cs):ad.at bs' k= .var ty cs:=by rw [h k (by rw [hb];simp),hb]
theorem Sub.sl {bs bs':List ad} (h:Sub bs bs') {k:Nat} {sh:Hd} {sz:Nat} {es:List AV} (hb:ad.at bs k= .sl sh sz es):ad.at bs' k= .sl sh sz es:=by rw [h k (by rw [hb];simp),hb]
def cJ.soft:cJ→Prop
 | .none=>True
 | .new _=>True
 | _=>False
section
variable {bs bs':List ad} (hs:Sub bs bs')
include hs
theorem ib {x:AV} {p:Nat×List AV} (h:elems bs x=some p):elems bs' x=some p:=by
 unfold elems at h⊢;split at h
 ·exact h
 ·exact h
 ·split at h
  ·rename_i hb;rw [hs.sl hb];exact h
  ·cases h
 ·split at h
  ·rename_i hb;rw [hs.sl hb];exact h
  ·cases h
 ·cases h
mutual
theorem GU: ∀{x y:AV},eh bs x=some y→eh bs' x=some y
 | .az k n,y,h=>by
  simp only [eh] at h⊢;split at h
  ·rename_i hb;rw [hs.sl hb];exact h
  ·cases h
 | .fi k n lo hi,y,h=>by
  simp only [eh] at h⊢;split at h
  ·rename_i hb;rw [hs.sl hb];exact h
  ·cases h
 | .agg cs,y,h=>by
  simp only [eh] at h⊢;split at h
  ·exact h
  ·cases hl:cV bs cs with
   | none=>rw [hl] at h;cases h
   | some l=>rw [jq hl,←hl];exact h
 | .any,y,h=>h
 | .jG,y,h=>h
 | .int _ _,y,h=>h
 | .bool _,y,h=>h
 | .str _,y,h=>h
 | .aI _,y,h=>h
 | .bG,y,h=>h
 | .ptr _ _,y,h=>h
 | .cj _ _ _ _,y,h=>h
 | .cO _,y,h=>h
 | .ak _ _ _,y,h=>h
 | .bW _,y,h=>h
 | .fn _ _ _,y,h=>h
 | .dP,y,h=>h
 | .fG _,y,h=>h
 | .kE _ _ _,y,h=>h
 | .fg _ _ _,y,h=>h
 | .cu _,y,h=>h
 | .jZ _,y,h=>h
 | .gC,y,h=>h
theorem jq: ∀{l l':List AV},cV bs l=some l'→cV bs' l=some l'
 | [],l',h=>h
 | v::r,l',h=>by
  simp only [cV] at h⊢;split at h
  ·rename_i a l2 ha hl;rw [GU ha,jq hl];exact h
  ·cases h
end
theorem oM {v:AV}: ∀{l:List AV},dt v bs l=true→dt v bs' l=true
 | [],_=>rfl
 | x::r,h=>by
  have here: ∀k,(og v (ad.at bs k)&&dt v bs r)=true→(og v (ad.at bs' k)&&dt v bs' r)=true:=fun k h=>by
   rw [Bool.and_eq_true] at h⊢;refine ⟨?_,oM h.2⟩;have h1:=h.1;rw [hs k (fun hd=>by rw [hd] at h1;cases h1)];exact h1
  cases x with
  | az k n=>exact here k (by simpa only [dt] using h)
  | fi k n lo hi=>exact here k (by simpa only [dt] using h)
  | _=>simp only [dt] at h⊢;exact oM h
theorem pS {k:Bool} {v r:AV} {args:List AV} (h:cH k v args bs=some (r,.none)):cH k v args bs'=some (r,.none):=by
 unfold cH at h⊢;split at h
 ·rename_i hh
  have:(v.flat || !kM args || (k&&dt v bs' args))=true:=by rw [Bool.or_eq_true] at hh⊢;refine hh.imp_right fun h1=> ?_;rw [Bool.and_eq_true] at h1⊢;exact ⟨h1.1,oM hs h1.2⟩
  rw [this];exact h
 ·cases h
theorem Ae {x:AV} {p:List (AV×AV×Nat)} (h:fm x bs=some p):fm x bs'=some p:=by
 unfold fm at h⊢;split at h
 ·exact h
 ·split at h
  ·rename_i hb;rw [hs _ (by rw [hb];simp),hb];exact h
  ·cases h
 ·cases h
theorem EM {i:Option TI} {x r:AV} {id:Nat} {e:cJ} (h:kN i x bs id=some (r,e)):kN i x bs' id=some (r,e):=by
 unfold kN at h⊢;split at h
 ·split at h
  ·exact h
  ·split at h
   ·rename_i hb;rw [hs _ (by rw [hb];simp),hb];exact h
   ·cases h
  ·cases h
 ·cases h
theorem EN {x r:AV} {e:cJ} (h:lR x bs=some (r,e)):lR x bs'=some (r,e):=by
 unfold lR at h⊢;split at h
 ·split at h
  ·rename_i hb;rw [hs _ (by rw [hb];simp),hb];simp only;split at h
   ·rename_i h1 h2;rw [hs _ (by rw [h2];simp),h1,h2];exact h
   ·cases h
  ·cases h
 ·cases h
theorem Cl {c:ax} {i:Option TI} {x k r:AV} {ok:Bool} {e:cJ} (h:dB c i x k ok bs=some (r,e)):dB c i x k ok bs'=some (r,e):=by
 unfold dB at h⊢;split at h
 ·split at h
  ·split at h
   ·rename_i he;rw [Ae hs he];exact h
   ·cases h
  ·cases h
 ·cases h
omit hs in
theorem mo {c:ax} {i:Option TI} {m k x r:AV} {e:cJ} (h:aO c i m k x bs=some (r,e)): ¬ e.soft:=by
 unfold aO at h;split at h
 ·split at h
  ·split at h
   ·split at h
    ·split at h
     ·split at h
      ·split at h
       ·cases h;exact id
       ·cases h
      ·cases h;exact id
      ·cases h
     ·cases h
    ·cases h
   ·cases h
  ·cases h
 ·cases h
omit hs in
theorem vE {c:ax} {i:Option TI} {m k r:AV} {e:cJ} (h:gY c i m k bs=some (r,e)): ¬ e.soft:=by
 unfold gY at h;split at h
 ·split at h
  ·split at h
   ·split at h
    ·split at h
     ·split at h
      ·split at h
       ·cases h;exact id
       ·cases h
      ·split at h
       ·split at h
        ·split at h
         ·cases h;exact id
         ·cases h
        ·cases h
       ·cases h
      ·cases h
     ·cases h
    ·cases h
   ·cases h
  ·cases h
 ·cases h
omit hs in
theorem sx {m s x r:AV} {e:cJ} (h:eZ m s x bs=some (r,e)): ¬ e.soft:=by
 unfold eZ at h;split at h
 ·split at h
  ·split at h
   ·split at h
    ·cases h;exact id
    ·cases h
   ·cases h
  ·cases h
 ·cases h
theorem Af {x r:AV} {o:Nat} {e:cJ} (h:rE x o bs=some (r,e)):rE x o bs'=some (r,e):=by
 unfold rE at h⊢;split at h
 ·exact h
 ·split at h
  ·rename_i hb;rw [hs.sl hb];exact h
  ·cases h
 ·exact h
 ·cases h
theorem GV {i:Option TI} {x r:AV} {e:cJ} (h:lP i x bs=some (r,e)):lP i x bs'=some (r,e):=by
 unfold lP at h⊢;split at h
 ·split at h
  ·split at h
   ·rename_i hb;rw [hs.var hb];exact h
   ·cases h
  ·split at h
   ·rename_i hb;rw [hs.sl hb];exact h
   ·cases h
  ·exact h
  ·cases h
 ·cases h
theorem IU {d:TypeDesc} {x r:AV} {e:cJ} (h:oc d x bs=some (r,e)):oc d x bs'=some (r,e):=by
 unfold oc at h⊢;split at h
 ·exact h
 ·split at h
  ·rename_i hel;rw [ib hs hel];exact h
  ·cases h
 ·exact h
 ·cases h
omit hs in
theorem pT {i:TI} {el:TypeId} {s r:AV} {xs:List AV} {id:Nat} {e:cJ} (he:e.soft) (h:ef i el bs s xs id=some (r,e)):ef i el bs' s xs id=some (r,e):=by
 unfold ef at h⊢;split at h
 ·exact h
 ·exact h
 ·split at h
  ·split at h
   ·cases h;exact he.elim
   ·cases h
  ·cases h
 ·split at h
  ·split at h
   ·cases h;exact he.elim
   ·cases h
  ·cases h
 ·cases h
theorem Cm {c:ax} {st xt:TypeId} {s x r:AV} {id:Nat} {e:cJ} (he:e.soft) (h:fZ c bs st xt s x id=some (r,e)):fZ c bs' st xt s x id=some (r,e):=by
 unfold fZ at h⊢;split at h
 ·split at h
  ·split at h
   ·split at h
    ·split at h
     ·rename_i hel;rw [ib hs hel];simp only;split at h
      ·rename_i hc;rw [if_pos hc];exact pT he h
      ·cases h
     ·cases h
    ·split at h
     ·split at h
      ·rename_i hc;rw [if_pos hc];exact pT he h
      ·cases h
     ·cases h
    ·cases h
   ·cases h
  ·cases h
 ·cases h
omit hs in
theorem EO {x r:AV} {str:Bool} {e:cJ} (h:tv x str bs=some (r,e)): ¬ e.soft:=by
 unfold tv at h;split at h
 ·split at h
  ·split at h <;> (cases h;exact fun h=>h)
  ·cases h
 ·cases h
omit hs in
theorem uC {c:ax} {i:Option TI} {len:Nat} {ps:List (Nat×AV)} {id:Nat} {r:AV} {e:cJ} (he:e.soft) (h:ei c i len ps id bs=some (r,e)):ei c i len ps id bs'=some (r,e):=by
 unfold ei fr at h⊢;split at h
 ·exact h
 ·split at h
  ·split at h
   ·cases h;exact he.elim
   ·cases h
  ·cases h
theorem Ag {c:ax} {src dst:Option TI} {x r:AV} {id:Nat} {e:cJ} (h:dq c src dst x bs id=some (r,e)):dq c src dst x bs' id=some (r,e):=by
 unfold dq at h⊢;split at h
 ·split at h
  ·split at h
   ·rename_i hd hb;rw [hs.var hb,hd];exact h
   ·cases h
  ·split at h
   ·rename_i hd hb;rw [hs.var hb,hd];exact h
   ·cases h
  ·exact h
  ·exact h
  ·exact h
  ·exact h
  ·split at h
   ·split at h
    ·rename_i hd hel;rw [ib hs hel,hd];exact h
    ·cases h
   ·cases h
  ·cases h
 ·cases h
theorem pU {i:TI} {el:TypeId} {s r:AV} {xs:List AV} {id:Nat} {e:cJ} (h:ef i el bs s xs id=some (r,e)):ef i el bs' s xs id=some (r,e):=by
 unfold ef at h⊢;split at h
 ·exact h
 ·exact h
 ·split at h
  ·rename_i hb;rw [hs.sl hb];exact h
  ·cases h
 ·split at h
  ·rename_i hb;rw [hs.sl hb];exact h
  ·cases h
 ·cases h
theorem BS {c:ax} {st xt:TypeId} {s x r:AV} {id:Nat} {e:cJ} (h:fZ c bs st xt s x id=some (r,e)):fZ c bs' st xt s x id=some (r,e):=by
 unfold fZ at h⊢;split at h
 ·split at h
  ·split at h
   ·split at h
    ·split at h
     ·rename_i hel;rw [ib hs hel];simp only;split at h
      ·rename_i hc;rw [if_pos hc];exact pU hs h
      ·cases h
     ·cases h
    ·split at h
     ·split at h
      ·rename_i hc;rw [if_pos hc];exact pU hs h
      ·cases h
     ·cases h
    ·cases h
   ·cases h
  ·cases h
 ·cases h
theorem tN {c:ax} {d:TypeDesc} {x r:AV} {lo hi:Option AV} {e:cJ} (h:db c d x lo hi bs=some (r,e)):db c d x lo hi bs'=some (r,e):=by
 unfold db at h⊢;split at h
 ·exact h
 ·exact h
 ·split at h
  ·rename_i hb;rw [hs.sl hb];exact h
  ·cases h
 ·split at h
  ·rename_i hb;rw [hs.sl hb];exact h
  ·cases h
 ·cases h
theorem Cn {c:ax} {d:TypeDesc} {x r:AV} {lo hi:Option AV} {e:cJ} (_:e.soft) (h:db c d x lo hi bs=some (r,e)):db c d x lo hi bs'=some (r,e):=tN hs h
theorem Co {c:ax} {d:TypeDesc} {x r:AV} {lo hi mx:Option AV} {e:cJ} (h:ji c d x lo hi mx bs=some (r,e)):ji c d x lo hi mx bs'=some (r,e):=by
 unfold ji at h⊢;split at h
 ·split at h
  ·rename_i hel hj;rw [ib hs hel,hj];exact h
  ·cases h
 ·cases h
theorem vF {i:Option TI} {x r:AV} {f:Nat} {e:cJ} (h:dE i x f bs=some (r,e)):dE i x f bs'=some (r,e):=by
 unfold dE at h⊢;split at h
 ·split at h
  ·split at h
   ·split at h
    ·cases h
    ·exact Af hs h
   ·cases h
  ·cases h
 ·cases h
theorem vG {c:ax} {i:Option TI} {x y r:AV} {e:cJ} (h:dF c i x y bs=some (r,e)):dF c i x y bs'=some (r,e):=by
 unfold dF at h⊢;split at h
 ·split at h
  ·split at h
   ·rename_i hc;split at h
    ·rw [if_pos hc];exact Af hs h
    ·cases h
   ·cases h
  ·split at h
   ·split at h
    ·exact h
    ·split at h
     ·rename_i hb;rw [hs.sl hb];exact h
     ·cases h
    ·split at h
     ·rename_i hb;rw [hs.sl hb];exact h
     ·cases h
    ·cases h
   ·cases h
  ·cases h
 ·cases h
theorem GW {c:ax} {st:TypeId} {d x r:AV} {e:cJ} (he:e.soft) (h:tq c bs st d x=some (r,e)):tq c bs' st d x=some (r,e):=by
 unfold tq at h⊢;split at h
 ·split at h
  ·split at h
   ·split at h
    ·rename_i hel;rw [ib hs hel];simp only;split at h
     ·rename_i hc;rw [if_pos hc];unfold xF at h⊢;split at h
      ·split at h
       ·rename_i hb;rw [hs.sl hb];simp only;split at h
        ·rename_i hcc;rw [if_pos hcc];split at h
         ·rename_i h0;rw [if_pos h0];exact h
         ·cases h;exact he.elim
        ·cases h
       ·cases h
      ·exact h
     ·cases h
    ·cases h
   ·cases h
  ·cases h
 ·cases h
theorem Ah {c:ax} {b:Builtin} {ts:List TypeId} {xs:List AV} {id:Nat} {r:AV} {e:cJ} (he:e.soft) (h:dQ c b ts xs bs id=some (r,e)):dQ c b ts xs bs' id=some (r,e):=by
 unfold dQ at h⊢;split at h
 ·split at h
  ·split at h
   ·exact IU hs h
   ·cases h
  ·cases h
 ·split at h
  ·exact Cm hs he h
  ·cases h
 ·exact h
 ·exact h
 ·split at h
  ·unfold y5 at h⊢;split at h
   ·exact h
   ·split at h
    ·rename_i hb;rw [hs.sl hb];exact h
    ·cases h
   ·cases h
  ·cases h
 ·split at h
  ·split at h
   ·unfold y6 at h⊢;split at h
    ·exact h
    ·split at h
     ·split at h
      ·rename_i es _ _ _ _;cases hb:jH es with
       | none=>rw [hb] at h;cases h
       | some s=>rw [hb] at h;cases h;exact he.elim
      ·cases h
     ·cases h
    ·cases h
   ·cases h
  ·cases h
 ·split at h
  ·exact GW hs he h
  ·cases h
 ·cases h
theorem DJ {c:ax} {op:Op} {t:Env} {id:Nat} {r:AV} {e:cJ} (he:e.soft) (h:eU c op t bs id=some (r,e)):eU c op t bs' id=some (r,e):=by
 cases op with
 | load ty a=>exact GV hs h
 | store ty a x=>
  exfalso;simp only [eU] at h;unfold lQ at h;split at h
  ·split at h
   ·split at h
    ·split at h
     ·split at h
      ·cases h;exact he
      ·cases h
     ·cases h
    ·split at h
     ·split at h
      ·split at h
       ·rename_i el _;split at h
        ·obtain ⟨b,rfl⟩:=jI h;exact he
        cases hst:cA el _ (ev t x).cells with
        | none=>rw [hst] at h;cases h
        | some y=>rw [hst] at h;cases h;exact he
       ·cases h
      ·cases h
     ·cases h
    ·cases h
   ·cases h
  ·cases h
 | convert src dst x=>exact Ag hs h
 | buildSlice ty len ps=>exact uC he h
 | next x str=>exact absurd he (EO h)
 | slice ty x lo hi mx=>
  simp only [eU] at h⊢;split at h
  ·split at h
   ·exact Cn hs he h
   ·exact Co hs h
  ·cases h
 | fieldAddr ty x f=>exact vF hs h
 | indexAddr ty x ix=>exact vG hs h
 | call k=>
  simp only [eU] at h⊢;split at h
  ·exact Ah hs he h
  ·cases h
 | makeFunc fn a b=>cases fn <;> exact h
 | lookup ty x k ok=>exact Cl hs h
 | range ty x=>exact EM hs h
 | mapUpdate ty m k x=>exact absurd he (mo h)
 | insert ty m k x=>exact absurd he (mo h)
 | mapEntry ty m k=>exact absurd he (vE h)
 | entryStore ty m s x=>exact absurd he (sx h)
 | entry x=>exact EN hs h
 | _=>exact h
theorem tP {c:ax} {cf:aG} {op:Op} {t:Env} {id:Nat} {r:AV} {e:cJ} (he:e.soft) (h:bJ c cf op t bs id=some (r,e)):bJ c cf op t bs' id=some (r,e):=by
 unfold bJ at h⊢;split at h
 ·split at h
  ·split at h
   ·split at h
    ·exact h
    have all: ∀{v:AV} {b:List ad},(some (v,cJ.all b):Out)=some (r,e)→False:=fun hx=>by cases hx;exact he
    have app: ∀{v:AV} {b:ad},(some (v,cJ.app b):Out)=some (r,e)→False:=fun hx=>by cases hx;exact he
    unfold nD at h⊢;split at h
    ·split at h
     ·exact (all h).elim
     ·cases h
    unfold o7 at h⊢;split at h
    ·split at h
     ·exact (all h).elim
     ·cases h
    unfold wa at h⊢;split at h
    ·rename_i l hl;rw [jq hs hl];simp only;split at h
     ·split at h
      ·split at h
       ·split at h
        ·rename_i hp;rw [if_pos hp];cases hlb:cH (c.Di _) _ _ bs with
         | none=>rw [hlb] at h;cases h
         | some p=>
          obtain ⟨p1,p2⟩:=p;rw [hlb] at h;unfold cH at hlb;split at hlb
          ·cases hlb;rw [pS hs (by unfold cH;rw [‹(_ || _)=true›])];exact h
          ·cases hlb;exact (all h).elim
        ·cases h
       ·cases h
      ·split at h
       ·split at h
        ·rename_i hp;rw [if_pos hp];cases hlb:cH (c.Di _) _ _ bs with
         | none=>rw [hlb] at h;cases h
         | some p=>
          obtain ⟨p1,p2⟩:=p;rw [hlb] at h;unfold cH at hlb;split at hlb
          ·cases hlb;rw [pS hs (by unfold cH;rw [‹(_ || _)=true›])];exact h
          ·cases hlb;exact (all h).elim
        ·cases h
       ·split at h
        ·split at h
         ·exact (all h).elim
         ·exact (app h).elim
        ·split at h
         ·exact (all h).elim
         ·cases h
       ·cases h
     ·split at h
      ·exact (all h).elim
      ·cases h
    ·cases h
   ·split at h
    ·cases h;exact he.elim
    ·cases h
   ·cases h
  ·exact DJ hs he h
 ·exact DJ hs he h
end
theorem jw {t t':Env} {l:List Operand} (h: ∀x∈l,ev t x=ev t' x):lA t l=lA t' l:=List.map_congr_left h
theorem rZ {t t':Env} {l:List (Nat×Operand)} (h: ∀x∈l.map (·.2),ev t x=ev t' x):(l.map fun p=>(p.1,ev t p.2))=l.map fun p=>(p.1,ev t' p.2):=
 List.map_congr_left fun p hp=>by rw [h p.2 (List.mem_map_of_mem hp)]
theorem qW {t t':Env} {x:Option Operand} (h: ∀y∈x.toArray,ev t y=ev t' y):x.map (ev t)=x.map (ev t'):=by
 cases x with
 | none=>rfl
 | some x=>simp only [Option.map_some];rw [h x (by simp)]
theorem qX (c:ax) {op:Op} {t t':Env} (h: ∀x∈op.operands,ev t x=ev t' x) (bs:List ad) (id:Nat):eU c op t bs id=eU c op t' bs id:=by
 cases op <;> simp only [Op.operands] at h
 case move x=>simp only [eU];rw [h x (by simp)]
 case assign x=>simp only [eU];rw [h x (by simp)]
 case pick x y z=>simp only [eU];rw [h x (by simp),h y (by simp),h z (by simp)]
 case box e x=>simp only [eU];rw [h x (by simp)]
 case build ty ps=>simp only [eU];rw [rZ (fun x hx=>h x (by simpa using hx))]
 case buildSlice ty n ps=>simp only [eU];rw [rZ (fun x hx=>h x (by simpa using hx))]
 case load ty x=>simp only [eU];rw [h x (by simp)]
 case store ty x y=>simp only [eU];rw [h x (by simp),h y (by simp)]
 case nilCheck x=>simp only [eU];rw [h x (by simp)]
 case makeInterface ty x=>simp only [eU];rw [h x (by simp)]
 case binOp o ty x y ty'=>simp only [eU];rw [h x (by simp),h y (by simp)]
 case unOp o ty x=>simp only [eU];rw [h x (by simp)]
 case convert s d x=>simp only [eU];rw [h x (by simp)]
 case makeFunc fn first caps=>
  cases fn <;> first
   | rfl
   | (simp only [eU];rw [jw (fun x hx=>h x (by simp at hx⊢;exact .inl hx)),jw (fun x hx=>h x (by simp at hx⊢;exact .inr hx))])
 case makeSlice ty x y=>simp only [eU];rw [h x (by simp),h y (by simp)]
 case slice ty x lo hi mx=>
  have h1:=qW (x:=lo) (fun y hy=>h y (by simp only [Array.mem_append];exact .inl (.inl (.inr hy))));have h2:=qW (x:=hi) (fun y hy=>h y (by simp only [Array.mem_append];exact .inl (.inr hy)));simp only [eU];rw [h x (by simp),h1,h2];cases mx with
  | none=>rfl
  | some m=>simp only;rw [h m (by simp)]
 case fieldAddr ty x f=>simp only [eU];rw [h x (by simp)]
 case field ty x f=>simp only [eU];rw [h x (by simp)]
 case indexAddr ty x y=>simp only [eU];rw [h x (by simp),h y (by simp)]
 case index ty x y=>simp only [eU];rw [h x (by simp),h y (by simp)]
 case extract x i=>simp only [eU];rw [h x (by simp)]
 case makeMap ty r=>simp only [eU];rw [qW h]
 case range ty x=>simp only [eU];rw [h x (by simp)]
 case next x str=>simp only [eU];rw [h x (by simp)]
 case lookup ty x k ok=>simp only [eU];rw [h x (by simp),h k (by simp)]
 case mapUpdate ty m k x=>simp only [eU];rw [h m (by simp),h k (by simp),h x (by simp)]
 case insert ty m k x=>simp only [eU];rw [h m (by simp),h k (by simp),h x (by simp)]
 case mapEntry ty m k=>simp only [eU];rw [h m (by simp),h k (by simp)]
 case entryStore ty m s x=>simp only [eU];rw [h m (by simp),h s (by simp),h x (by simp)]
 case entry x=>simp only [eU];rw [h x (by simp)]
 case call k=>
  obtain ⟨callee,args,ts⟩:=k;simp only [eU];rw [jw (fun x hx=>h x (by simp only [Call.operands,Array.mem_append];exact .inr (by simpa using hx)))]
 all_goals rfl
theorem Cp (c:ax) (cf:aG) {op:Op} {t t':Env} (h: ∀x∈op.operands,ev t x=ev t' x) (bs:List ad) (id:Nat):bJ c cf op t bs id=bJ c cf op t' bs id:=by
 unfold bJ;split
 ·rename_i k;obtain ⟨callee,args,ts⟩:=k;simp only;cases callee with
  | value f=>simp only;rw [h f (by simp [Op.operands,Call.operands]),jw (fun x hx=>h x (by simp only [Op.operands,Call.operands,Array.mem_append];exact .inr (by simpa using hx)))]
  | invoke r m=>exact qX c h bs id
  | builtin b=>exact qX c h bs id
 ·exact qX c h bs id
theorem Tr.set_comm {α:Type} (t:Tr α): ∀{i j:Nat} (x y:α),i≠j→(t.set i x).set j y=(t.set j y).set i x:=by
 induction t with
 | lf=>intro i j x y _;rfl
 | nd v l r ihl ihr=>
  intro i j x y h;cases i with
  | zero=>cases j with
   | zero=>exact absurd rfl h
   | succ j=>rcases Nat.mod_two_eq_zero_or_one j with hj | hj <;> simp only [Tr.set,hj]
  | succ i=>cases j with
   | zero=>rcases Nat.mod_two_eq_zero_or_one i with hi | hi <;> simp only [Tr.set,hi]
   | succ j=>
    rcases Nat.mod_two_eq_zero_or_one i with hi | hi <;> rcases Nat.mod_two_eq_zero_or_one j with hj | hj <;> simp only [Tr.set,hi,hj]
    ·rw [ihl x y (sQ (by omega) (by omega))]
    ·rw [ihr x y (sQ (by omega) (by omega))]
theorem MB {t:Env} {d:Option Tmp} {v:AV} {x:Operand} (h: ∀i,d=some i→x≠ .tmp i):ev (bd t d v) x=ev t x:=by
 cases d with
 | none=>rfl
 | some d=>
  cases x with
  | tmp i=>exact Tr.aW _ _ _ (fun e=>h d rfl (by rw [e]))
  | _=>rfl
theorem Et (t:Env) {d d':Option Tmp} (v v':AV) (h: ∀i,d=some i→d'≠some i):bd (bd t d v) d' v'=bd (bd t d' v') d v:=by
 cases d with
 | none=>rfl
 | some d=>
  cases d' with
  | none=>rfl
  | some d'=>exact Tr.set_comm t v v' (fun e=>h d rfl (by rw [e]))
theorem pk {c:ax} {cf:aG} {ops:Array Oper} {x y:Oper} (h: ∀d,x.dst=some d→d∉y.looksAt ops) (t:Env) (v:AV) (bs:List ad) (id:Nat):
  bJ c cf y.op (bd t x.dst v) bs id=bJ c cf y.op t bs id∧bw ops (bd t x.dst v) y.guard=bw ops t y.guard:=by
 refine ⟨Cp c cf (fun z hz=>MB (fun i hi e=> ?_)) bs id,?_⟩
 ·refine h i hi ?_;subst e;simp only [Oper.looksAt,List.mem_append,List.mem_filterMap];exact .inl ⟨.tmp i,by simpa using hz,rfl⟩
 ·unfold bw;cases hg:y.guard with
  | none=>rfl
  | some p=>
   obtain ⟨j,want⟩:=p;simp only;cases hd:(ops[j]?).bind (·.dst) with
   | none=>rfl
   | some d=>
    simp only
    have:Tr.get AV.any (bd t x.dst v) d=Tr.get AV.any t d:=by
     cases hx:x.dst with
     | none=>rfl
     | some i=>refine Tr.aW _ _ _ (fun e=>h i hx ?_);subst e;simp only [Oper.looksAt,List.mem_append];exact .inr (by simp [hg,hd])
    rw [this]
end Go.Am
