/-
 An operation of the abstract machine hangs on its operands and on the boxes that are there: more boxes turn nothing.
-/
import Derived.Test.YtfnkchadeaedlaaGreatDoorAmStep
set_option linter.all false
namespace Go.Am
def Sub (bs bs':List ad):Prop:= ∀k,ad.at bs k≠ .dead→ad.at bs' k=ad.at bs k
theorem Sub.var {bs bs':List ad} (h:Sub bs bs') {k:Nat} {ty:TypeId} {cs:List AV} (hb:ad.at bs k= .var ty cs):ad.at bs' k= .var ty cs:=by rw [h k (by rw [hb];simp),hb]
theorem Sub.sl {bs bs':List ad} (h:Sub bs bs') {k:Nat} {sh:Hd} {sz:Nat} {es:List AV} (hb:ad.at bs k= .sl sh sz es):ad.at bs' k= .sl sh sz es:=by rw [h k (by rw [hb];simp),hb]
def cY.soft:cY→Prop
 | .none=>True
 | .new _=>True
 | _=>False
section
variable {bs bs':List ad} (hs:Sub bs bs')
include hs
theorem iQ {x:AV} {p:Nat×List AV} (h:elems bs x=some p):elems bs' x=some p:=by
 unfold elems at h⊢;split at h
 ·exact h
 ·exact h
 ·split at h
  ·rename_i hb;rw [hs.sl hb];exact h
  ·cases h
 ·split at h
  ·rename_i hb;rw [hs.sl hb];exact h
  ·cases h
 ·cases h
mutual
theorem Iy: ∀{x y:AV},eJ bs x=some y→eJ bs' x=some y
 | .ay k n,y,h=>by
  simp only [eJ] at h⊢;split at h
  ·rename_i hb;rw [hs.sl hb];exact h
  ·cases h
 | .fN k n lo hi,y,h=>by
  simp only [eJ] at h⊢;split at h
  ·rename_i hb;rw [hs.sl hb];exact h
  ·cases h
 | .agg cs,y,h=>by
  simp only [eJ] at h⊢;split at h
  ·exact h
  ·cases hl:dq bs cs with
   | none=>rw [hl] at h;cases h
   | some l=>rw [jM hl,←hl];exact h
 | .any,y,h=>h
 | .j8,y,h=>h
 | .int _ _,y,h=>h
 | .bool _,y,h=>h
 | .str _,y,h=>h
 | .aT _,y,h=>h
 | .bS,y,h=>h
 | .ptr _ _,y,h=>h
 | .cz _ _ _ _,y,h=>h
 | .dd _,y,h=>h
 | .ah _ _ _,y,h=>h
 | .b8 _,y,h=>h
 | .fn _ _ _,y,h=>h
 | .ep,y,h=>h
 | .gj _,y,h=>h
 | .lh _ _ _,y,h=>h
 | .fL _ _ _,y,h=>h
 | .cF _,y,h=>h
 | .kD _,y,h=>h
 | .gX,y,h=>h
theorem jM: ∀{l l':List AV},dq bs l=some l'→dq bs' l=some l'
 | [],l',h=>h
 | v::r,l',h=>by
  simp only [dq] at h⊢;split at h
  ·rename_i a l2 ha hl;rw [Iy ha,jM hl];exact h
  ·cases h
end
theorem pw {v:AV}: ∀{l:List AV},dJ v bs l=true→dJ v bs' l=true
 | [],_=>rfl
 | x::r,h=>by
  have here: ∀k,(oX v (ad.at bs k)&&dJ v bs r)=true→(oX v (ad.at bs' k)&&dJ v bs' r)=true:=fun k h=>by
   rw [Bool.and_eq_true] at h⊢;refine ⟨?_,pw h.2⟩;have h1:=h.1;rw [hs k (fun hd=>by rw [hd] at h1;cases h1)];exact h1
  cases x with
  | ay k n=>exact here k (by simpa only [dJ] using h)
  | fN k n lo hi=>exact here k (by simpa only [dJ] using h)
  | _=>simp only [dJ] at h⊢;exact pw h
theorem qD {k:Bool} {v r:AV} {args:List AV} (h:cX k v args bs=some (r,.none)):cX k v args bs'=some (r,.none):=by
 unfold cX at h⊢;split at h
 ·rename_i hh
  have:(v.flat || !lx args || (k&&dJ v bs' args))=true:=by rw [Bool.or_eq_true] at hh⊢;refine hh.imp_right fun h1=> ?_;rw [Bool.and_eq_true] at h1⊢;exact ⟨h1.1,pw hs h1.2⟩
  rw [this];exact h
 ·cases h
theorem Bs {x:AV} {p:List (AV×AV×Nat)} (h:fR x bs=some p):fR x bs'=some p:=by
 unfold fR at h⊢;split at h
 ·exact h
 ·split at h
  ·rename_i hb;rw [hs _ (by rw [hb];simp),hb];exact h
  ·cases h
 ·cases h
theorem Gk {i:Option TI} {x r:AV} {id:Nat} {e:cY} (h:ly i x bs id=some (r,e)):ly i x bs' id=some (r,e):=by
 unfold ly at h⊢;split at h
 ·split at h
  ·exact h
  ·split at h
   ·rename_i hb;rw [hs _ (by rw [hb];simp),hb];exact h
   ·cases h
  ·cases h
 ·cases h
theorem Gl {x r:AV} {e:cY} (h:mv x bs=some (r,e)):mv x bs'=some (r,e):=by
 unfold mv at h⊢;split at h
 ·split at h
  ·rename_i hb;rw [hs _ (by rw [hb];simp),hb];simp only;split at h
   ·rename_i h1 h2;rw [hs _ (by rw [h2];simp),h1,h2];exact h
   ·cases h
  ·cases h
 ·cases h
theorem Dy {c:ax} {i:Option TI} {x k r:AV} {ok:Bool} {e:cY} (h:dW c i x k ok bs=some (r,e)):dW c i x k ok bs'=some (r,e):=by
 unfold dW at h⊢;split at h
 ·split at h
  ·split at h
   ·rename_i he;rw [Bs hs he];exact h
   ·cases h
  ·cases h
 ·cases h
omit hs in
theorem mV {c:ax} {i:Option TI} {m k x r:AV} {e:cY} (h:aX c i m k x bs=some (r,e)): ¬ e.soft:=by
 unfold aX at h;split at h
 ·split at h
  ·split at h
   ·split at h
    ·split at h
     ·split at h
      ·split at h
       ·cases h;exact id
       ·cases h
      ·cases h;exact id
      ·cases h
     ·cases h
    ·cases h
   ·cases h
  ·cases h
 ·cases h
omit hs in
theorem wI {c:ax} {i:Option TI} {m k r:AV} {e:cY} (h:iN c i m k bs=some (r,e)): ¬ e.soft:=by
 unfold iN at h;split at h
 ·split at h
  ·split at h
   ·split at h
    ·split at h
     ·split at h
      ·split at h
       ·cases h;exact id
       ·cases h
      ·split at h
       ·split at h
        ·split at h
         ·cases h;exact id
         ·cases h
        ·cases h
       ·cases h
      ·cases h
     ·cases h
    ·cases h
   ·cases h
  ·cases h
 ·cases h
omit hs in
theorem tI {m s x r:AV} {e:cY} (h:fD m s x bs=some (r,e)): ¬ e.soft:=by
 unfold fD at h;split at h
 ·split at h
  ·split at h
   ·split at h
    ·cases h;exact id
    ·cases h
   ·cases h
  ·cases h
 ·cases h
theorem Bt {x r:AV} {o:Nat} {e:cY} (h:sJ x o bs=some (r,e)):sJ x o bs'=some (r,e):=by
 unfold sJ at h⊢;split at h
 ·exact h
 ·split at h
  ·rename_i hb;rw [hs.sl hb];exact h
  ·cases h
 ·exact h
 ·cases h
theorem Iz {i:Option TI} {x r:AV} {e:cY} (h:mq i x bs=some (r,e)):mq i x bs'=some (r,e):=by
 unfold mq at h⊢;split at h
 ·split at h
  ·split at h
   ·rename_i hb;rw [hs.var hb];exact h
   ·cases h
  ·split at h
   ·rename_i hb;rw [hs.sl hb];exact h
   ·cases h
  ·exact h
  ·cases h
 ·cases h
theorem KU {d:TypeDesc} {x r:AV} {e:cY} (h:oU d x bs=some (r,e)):oU d x bs'=some (r,e):=by
 unfold oU at h⊢;split at h
 ·exact h
 ·split at h
  ·rename_i hel;rw [iQ hs hel];exact h
  ·cases h
 ·exact h
 ·cases h
omit hs in
theorem qE {i:TI} {el:TypeId} {s r:AV} {xs:List AV} {id:Nat} {e:cY} (he:e.soft) (h:eI i el bs s xs id=some (r,e)):eI i el bs' s xs id=some (r,e):=by
 unfold eI at h⊢;split at h
 ·exact h
 ·exact h
 ·split at h
  ·split at h
   ·cases h;exact he.elim
   ·cases h
  ·cases h
 ·split at h
  ·split at h
   ·cases h;exact he.elim
   ·cases h
  ·cases h
 ·cases h
theorem Dz {c:ax} {st xt:TypeId} {s x r:AV} {id:Nat} {e:cY} (he:e.soft) (h:gD c bs st xt s x id=some (r,e)):gD c bs' st xt s x id=some (r,e):=by
 unfold gD at h⊢;split at h
 ·split at h
  ·split at h
   ·split at h
    ·split at h
     ·rename_i hel;rw [iQ hs hel];simp only;split at h
      ·rename_i hc;rw [if_pos hc];exact qE he h
      ·cases h
     ·cases h
    ·split at h
     ·split at h
      ·rename_i hc;rw [if_pos hc];exact qE he h
      ·cases h
     ·cases h
    ·cases h
   ·cases h
  ·cases h
 ·cases h
omit hs in
theorem Gm {x r:AV} {str:Bool} {e:cY} (h:uB x str bs=some (r,e)): ¬ e.soft:=by
 unfold uB at h;split at h
 ·split at h
  ·split at h <;> (cases h;exact fun h=>h)
  ·cases h
 ·cases h
omit hs in
theorem vG {c:ax} {i:Option TI} {len:Nat} {ps:List (Nat×AV)} {id:Nat} {r:AV} {e:cY} (he:e.soft) (h:eK c i len ps id bs=some (r,e)):eK c i len ps id bs'=some (r,e):=by
 unfold eK fT at h⊢;split at h
 ·exact h
 ·split at h
  ·split at h
   ·cases h;exact he.elim
   ·cases h
  ·cases h
theorem Bu {c:ax} {src dst:Option TI} {x r:AV} {id:Nat} {e:cY} (h:dI c src dst x bs id=some (r,e)):dI c src dst x bs' id=some (r,e):=by
 unfold dI at h⊢;split at h
 ·split at h
  ·split at h
   ·rename_i hd hb;rw [hs.var hb,hd];exact h
   ·cases h
  ·split at h
   ·rename_i hd hb;rw [hs.var hb,hd];exact h
   ·cases h
  ·exact h
  ·exact h
  ·exact h
  ·exact h
  ·split at h
   ·split at h
    ·rename_i hd hel;rw [iQ hs hel,hd];exact h
    ·cases h
   ·cases h
  ·cases h
 ·cases h
theorem qF {i:TI} {el:TypeId} {s r:AV} {xs:List AV} {id:Nat} {e:cY} (h:eI i el bs s xs id=some (r,e)):eI i el bs' s xs id=some (r,e):=by
 unfold eI at h⊢;split at h
 ·exact h
 ·exact h
 ·split at h
  ·rename_i hb;rw [hs.sl hb];exact h
  ·cases h
 ·split at h
  ·rename_i hb;rw [hs.sl hb];exact h
  ·cases h
 ·cases h
theorem C7 {c:ax} {st xt:TypeId} {s x r:AV} {id:Nat} {e:cY} (h:gD c bs st xt s x id=some (r,e)):gD c bs' st xt s x id=some (r,e):=by
 unfold gD at h⊢;split at h
 ·split at h
  ·split at h
   ·split at h
    ·split at h
     ·rename_i hel;rw [iQ hs hel];simp only;split at h
      ·rename_i hc;rw [if_pos hc];exact qF hs h
      ·cases h
     ·cases h
    ·split at h
     ·split at h
      ·rename_i hc;rw [if_pos hc];exact qF hs h
      ·cases h
     ·cases h
    ·cases h
   ·cases h
  ·cases h
 ·cases h
theorem uS {c:ax} {d:TypeDesc} {x r:AV} {lo hi:Option AV} {e:cY} (h:dz c d x lo hi bs=some (r,e)):dz c d x lo hi bs'=some (r,e):=by
 unfold dz at h⊢;split at h
 ·exact h
 ·exact h
 ·split at h
  ·rename_i hb;rw [hs.sl hb];exact h
  ·cases h
 ·split at h
  ·rename_i hb;rw [hs.sl hb];exact h
  ·cases h
 ·cases h
theorem DB {c:ax} {d:TypeDesc} {x r:AV} {lo hi:Option AV} {e:cY} (_:e.soft) (h:dz c d x lo hi bs=some (r,e)):dz c d x lo hi bs'=some (r,e):=uS hs h
theorem DC {c:ax} {d:TypeDesc} {x r:AV} {lo hi mx:Option AV} {e:cY} (h:jG c d x lo hi mx bs=some (r,e)):jG c d x lo hi mx bs'=some (r,e):=by
 unfold jG at h⊢;split at h
 ·split at h
  ·rename_i hel hj;rw [iQ hs hel,hj];exact h
  ·cases h
 ·cases h
theorem wJ {i:Option TI} {x r:AV} {f:Nat} {e:cY} (h:ea i x f bs=some (r,e)):ea i x f bs'=some (r,e):=by
 unfold ea at h⊢;split at h
 ·split at h
  ·split at h
   ·split at h
    ·cases h
    ·exact Bt hs h
   ·cases h
  ·cases h
 ·cases h
theorem wK {c:ax} {i:Option TI} {x y r:AV} {e:cY} (h:eb c i x y bs=some (r,e)):eb c i x y bs'=some (r,e):=by
 unfold eb at h⊢;split at h
 ·split at h
  ·split at h
   ·rename_i hc;split at h
    ·rw [if_pos hc];exact Bt hs h
    ·cases h
   ·cases h
  ·split at h
   ·split at h
    ·exact h
    ·split at h
     ·rename_i hb;rw [hs.sl hb];exact h
     ·cases h
    ·split at h
     ·rename_i hb;rw [hs.sl hb];exact h
     ·cases h
    ·cases h
   ·cases h
  ·cases h
 ·cases h
theorem IA {c:ax} {st:TypeId} {d x r:AV} {e:cY} (he:e.soft) (h:uy c bs st d x=some (r,e)):uy c bs' st d x=some (r,e):=by
 unfold uy at h⊢;split at h
 ·split at h
  ·split at h
   ·split at h
    ·rename_i hel;rw [iQ hs hel];simp only;split at h
     ·rename_i hc;rw [if_pos hc];unfold yJ at h⊢;split at h
      ·split at h
       ·rename_i hb;rw [hs.sl hb];simp only;split at h
        ·rename_i hcc;rw [if_pos hcc];split at h
         ·rename_i h0;rw [if_pos h0];exact h
         ·cases h;exact he.elim
        ·cases h
       ·cases h
      ·exact h
     ·cases h
    ·cases h
   ·cases h
  ·cases h
 ·cases h
theorem Bv {c:ax} {b:Builtin} {ts:List TypeId} {xs:List AV} {id:Nat} {r:AV} {e:cY} (he:e.soft) (h:er c b ts xs bs id=some (r,e)):er c b ts xs bs' id=some (r,e):=by
 unfold er at h⊢;split at h
 ·split at h
  ·split at h
   ·exact KU hs h
   ·cases h
  ·cases h
 ·split at h
  ·exact Dz hs he h
  ·cases h
 ·exact h
 ·exact h
 ·split at h
  ·unfold Al at h⊢;split at h
   ·exact h
   ·split at h
    ·rename_i hb;rw [hs.sl hb];exact h
    ·cases h
   ·cases h
  ·cases h
 ·split at h
  ·split at h
   ·unfold An at h⊢;split at h
    ·exact h
    ·split at h
     ·split at h
      ·rename_i es _ _ _ _;cases hb:j9 es with
       | none=>rw [hb] at h;cases h
       | some s=>rw [hb] at h;cases h;exact he.elim
      ·cases h
     ·cases h
    ·cases h
   ·cases h
  ·cases h
 ·split at h
  ·exact IA hs he h
  ·cases h
 ·cases h
theorem E5 {c:ax} {op:Op} {t:Env} {id:Nat} {r:AV} {e:cY} (he:e.soft) (h:fw c op t bs id=some (r,e)):fw c op t bs' id=some (r,e):=by
 cases op with
 | load ty a=>exact Iz hs h
 | store ty a x=>
  exfalso;simp only [fw] at h;unfold mr at h;split at h
  ·split at h
   ·split at h
    ·split at h
     ·split at h
      ·cases h;exact he
      ·cases h
     ·cases h
    ·split at h
     ·split at h
      ·split at h
       ·rename_i el _;split at h
        ·obtain ⟨b,rfl⟩:=ka h;exact he
        cases hst:cP el _ (ev t x).cells with
        | none=>rw [hst] at h;cases h
        | some y=>rw [hst] at h;cases h;exact he
       ·cases h
      ·cases h
     ·cases h
    ·cases h
   ·cases h
  ·cases h
 | convert src dst x=>exact Bu hs h
 | buildSlice ty len ps=>exact vG he h
 | next x str=>exact absurd he (Gm h)
 | slice ty x lo hi mx=>
  simp only [fw] at h⊢;split at h
  ·split at h
   ·exact DB hs he h
   ·exact DC hs h
  ·cases h
 | fieldAddr ty x f=>exact wJ hs h
 | indexAddr ty x ix=>exact wK hs h
 | call k=>
  simp only [fw] at h⊢;split at h
  ·exact Bv hs he h
  ·cases h
 | makeFunc fn a b=>cases fn <;> exact h
 | lookup ty x k ok=>exact Dy hs h
 | range ty x=>exact Gk hs h
 | mapUpdate ty m k x=>exact absurd he (mV h)
 | insert ty m k x=>exact absurd he (mV h)
 | mapEntry ty m k=>exact absurd he (wI h)
 | entryStore ty m s x=>exact absurd he (tI h)
 | entry x=>exact Gl hs h
 | _=>exact h
theorem uU {c:ax} {cf:aL} {op:Op} {t:Env} {id:Nat} {r:AV} {e:cY} (he:e.soft) (h:bV c cf op t bs id=some (r,e)):bV c cf op t bs' id=some (r,e):=by
 unfold bV at h⊢;split at h
 ·split at h
  ·split at h
   ·split at h
    ·exact h
    have all: ∀{v:AV} {b:List ad},(some (v,cY.all b):Out)=some (r,e)→False:=fun hx=>by cases hx;exact he
    have app: ∀{v:AV} {b:ad},(some (v,cY.app b):Out)=some (r,e)→False:=fun hx=>by cases hx;exact he
    unfold ou at h⊢;split at h
    ·split at h
     ·exact (all h).elim
     ·cases h
    unfold pT at h⊢;split at h
    ·split at h
     ·exact (all h).elim
     ·cases h
    unfold xi at h⊢;split at h
    ·rename_i l hl;rw [jM hs hl];simp only;split at h
     ·split at h
      ·split at h
       ·split at h
        ·rename_i hp;rw [if_pos hp];cases hlb:cX (c.EG _) _ _ bs with
         | none=>rw [hlb] at h;cases h
         | some p=>
          obtain ⟨p1,p2⟩:=p;rw [hlb] at h;unfold cX at hlb;split at hlb
          ·cases hlb;rw [qD hs (by unfold cX;rw [‹(_ || _)=true›])];exact h
          ·cases hlb;exact (all h).elim
        ·cases h
       ·cases h
      ·split at h
       ·split at h
        ·rename_i hp;rw [if_pos hp];cases hlb:cX (c.EG _) _ _ bs with
         | none=>rw [hlb] at h;cases h
         | some p=>
          obtain ⟨p1,p2⟩:=p;rw [hlb] at h;unfold cX at hlb;split at hlb
          ·cases hlb;rw [qD hs (by unfold cX;rw [‹(_ || _)=true›])];exact h
          ·cases hlb;exact (all h).elim
        ·cases h
       ·split at h
        ·split at h
         ·exact (all h).elim
         ·exact (app h).elim
        ·split at h
         ·exact (all h).elim
         ·cases h
       ·cases h
     ·split at h
      ·exact (all h).elim
      ·cases h
    ·cases h
   ·split at h
    ·cases h;exact he.elim
    ·cases h
   ·cases h
  ·exact E5 hs he h
 ·exact E5 hs he h
end
theorem jS {t t':Env} {l:List Operand} (h: ∀x∈l,ev t x=ev t' x):l6 t l=l6 t' l:=List.map_congr_left h
theorem th {t t':Env} {l:List (Nat×Operand)} (h: ∀x∈l.map (·.2),ev t x=ev t' x):(l.map fun p=>(p.1,ev t p.2))=l.map fun p=>(p.1,ev t' p.2):=
 List.map_congr_left fun p hp=>by rw [h p.2 (List.mem_map_of_mem hp)]
theorem rW {t t':Env} {x:Option Operand} (h: ∀y∈x.toArray,ev t y=ev t' y):x.map (ev t)=x.map (ev t'):=by
 cases x with
 | none=>rfl
 | some x=>simp only [Option.map_some];rw [h x (by simp)]
theorem rX (c:ax) {op:Op} {t t':Env} (h: ∀x∈op.operands,ev t x=ev t' x) (bs:List ad) (id:Nat):fw c op t bs id=fw c op t' bs id:=by
 cases op <;> simp only [Op.operands] at h
 case move x=>simp only [fw];rw [h x (by simp)]
 case assign x=>simp only [fw];rw [h x (by simp)]
 case pick x y z=>simp only [fw];rw [h x (by simp),h y (by simp),h z (by simp)]
 case box e x=>simp only [fw];rw [h x (by simp)]
 case build ty ps=>simp only [fw];rw [th (fun x hx=>h x (by simpa using hx))]
 case buildSlice ty n ps=>simp only [fw];rw [th (fun x hx=>h x (by simpa using hx))]
 case load ty x=>simp only [fw];rw [h x (by simp)]
 case store ty x y=>simp only [fw];rw [h x (by simp),h y (by simp)]
 case nilCheck x=>simp only [fw];rw [h x (by simp)]
 case makeInterface ty x=>simp only [fw];rw [h x (by simp)]
 case binOp o ty x y ty'=>simp only [fw];rw [h x (by simp),h y (by simp)]
 case unOp o ty x=>simp only [fw];rw [h x (by simp)]
 case convert s d x=>simp only [fw];rw [h x (by simp)]
 case makeFunc fn first caps=>
  cases fn <;> first
   | rfl
   | (simp only [fw];rw [jS (fun x hx=>h x (by simp at hx⊢;exact .inl hx)),jS (fun x hx=>h x (by simp at hx⊢;exact .inr hx))])
 case makeSlice ty x y=>simp only [fw];rw [h x (by simp),h y (by simp)]
 case slice ty x lo hi mx=>
  have h1:=rW (x:=lo) (fun y hy=>h y (by simp only [Array.mem_append];exact .inl (.inl (.inr hy))));have h2:=rW (x:=hi) (fun y hy=>h y (by simp only [Array.mem_append];exact .inl (.inr hy)));simp only [fw];rw [h x (by simp),h1,h2];cases mx with
  | none=>rfl
  | some m=>simp only;rw [h m (by simp)]
 case fieldAddr ty x f=>simp only [fw];rw [h x (by simp)]
 case field ty x f=>simp only [fw];rw [h x (by simp)]
 case indexAddr ty x y=>simp only [fw];rw [h x (by simp),h y (by simp)]
 case index ty x y=>simp only [fw];rw [h x (by simp),h y (by simp)]
 case extract x i=>simp only [fw];rw [h x (by simp)]
 case makeMap ty r=>simp only [fw];rw [rW h]
 case range ty x=>simp only [fw];rw [h x (by simp)]
 case next x str=>simp only [fw];rw [h x (by simp)]
 case lookup ty x k ok=>simp only [fw];rw [h x (by simp),h k (by simp)]
 case mapUpdate ty m k x=>simp only [fw];rw [h m (by simp),h k (by simp),h x (by simp)]
 case insert ty m k x=>simp only [fw];rw [h m (by simp),h k (by simp),h x (by simp)]
 case mapEntry ty m k=>simp only [fw];rw [h m (by simp),h k (by simp)]
 case entryStore ty m s x=>simp only [fw];rw [h m (by simp),h s (by simp),h x (by simp)]
 case entry x=>simp only [fw];rw [h x (by simp)]
 case call k=>
  obtain ⟨callee,args,ts⟩:=k;simp only [fw];rw [jS (fun x hx=>h x (by simp only [Call.operands,Array.mem_append];exact .inr (by simpa using hx)))]
 all_goals rfl
theorem DD (c:ax) (cf:aL) {op:Op} {t t':Env} (h: ∀x∈op.operands,ev t x=ev t' x) (bs:List ad) (id:Nat):bV c cf op t bs id=bV c cf op t' bs id:=by
 unfold bV;split
 ·rename_i k;obtain ⟨callee,args,ts⟩:=k;simp only;cases callee with
  | value f=>simp only;rw [h f (by simp [Op.operands,Call.operands]),jS (fun x hx=>h x (by simp only [Op.operands,Call.operands,Array.mem_append];exact .inr (by simpa using hx)))]
  | invoke r m=>exact rX c h bs id
  | builtin b=>exact rX c h bs id
 ·exact rX c h bs id
theorem Tr.set_comm {α:Type} (t:Tr α): ∀{i j:Nat} (x y:α),i≠j→(t.set i x).set j y=(t.set j y).set i x:=by
 induction t with
 | lf=>intro i j x y _;rfl
 | nd v l r ihl ihr=>
  intro i j x y h;cases i with
  | zero=>cases j with
   | zero=>exact absurd rfl h
   | succ j=>rcases Nat.mod_two_eq_zero_or_one j with hj | hj <;> simp only [Tr.set,hj]
  | succ i=>cases j with
   | zero=>rcases Nat.mod_two_eq_zero_or_one i with hi | hi <;> simp only [Tr.set,hi]
   | succ j=>
    rcases Nat.mod_two_eq_zero_or_one i with hi | hi <;> rcases Nat.mod_two_eq_zero_or_one j with hj | hj <;> simp only [Tr.set,hi,hj]
    ·rw [ihl x y (tZ (by omega) (by omega))]
    ·rw [ihr x y (tZ (by omega) (by omega))]
theorem OS {t:Env} {d:Option Tmp} {v:AV} {x:Operand} (h: ∀i,d=some i→x≠ .tmp i):ev (bu t d v) x=ev t x:=by
 cases d with
 | none=>rfl
 | some d=>
  cases x with
  | tmp i=>exact Tr.bo _ _ _ (fun e=>h d rfl (by rw [e]))
  | _=>rfl
theorem F2 (t:Env) {d d':Option Tmp} (v v':AV) (h: ∀i,d=some i→d'≠some i):bu (bu t d v) d' v'=bu (bu t d' v') d v:=by
 cases d with
 | none=>rfl
 | some d=>
  cases d' with
  | none=>rfl
  | some d'=>exact Tr.set_comm t v v' (fun e=>h d rfl (by rw [e]))
theorem qc {c:ax} {cf:aL} {ops:Array Oper} {x y:Oper} (h: ∀d,x.dst=some d→d∉y.looksAt ops) (t:Env) (v:AV) (bs:List ad) (id:Nat):
  bV c cf y.op (bu t x.dst v) bs id=bV c cf y.op t bs id∧bL ops (bu t x.dst v) y.guard=bL ops t y.guard:=by
 refine ⟨DD c cf (fun z hz=>OS (fun i hi e=> ?_)) bs id,?_⟩
 ·refine h i hi ?_;subst e;simp only [Oper.looksAt,List.mem_append,List.mem_filterMap];exact .inl ⟨.tmp i,by simpa using hz,rfl⟩
 ·unfold bL;cases hg:y.guard with
  | none=>rfl
  | some p=>
   obtain ⟨j,want⟩:=p;simp only;cases hd:(ops[j]?).bind (·.dst) with
   | none=>rfl
   | some d=>
    simp only
    have:Tr.get AV.any (bu t x.dst v) d=Tr.get AV.any t d:=by
     cases hx:x.dst with
     | none=>rfl
     | some i=>refine Tr.bo _ _ _ (fun e=>h i hx ?_);subst e;simp only [Oper.looksAt,List.mem_append];exact .inr (by simp [hg,hd])
    rw [this]
end Go.Am
