/-
 An operation of the abstract machine hangs on its operands and on the boxes that are there: more boxes turn nothing.
-/
import Derived.Test.YtfnkchadeaedlaaGreatDoorAmStep
set_option linter.all false
namespace Go.Am
def Sub (bs bs':List ab):Prop:= ∀k,ab.at bs k≠ .dead→ab.at bs' k=ab.at bs k
theorem Sub.var {bs bs':List ab} (h:Sub bs bs') {k:Nat} {ty:TypeId} {cs:List AV} (hb:ab.at bs k= .var ty cs):ab.at bs' k= .var ty cs:=by rw [h k (by rw [hb];simp),hb]
theorem Sub.sl {bs bs':List ab} (h:Sub bs bs') {k:Nat} {sh:Hd} {sz:Nat} {es:List AV} (hb:ab.at bs k= .sl sh sz es):ab.at bs' k= .sl sh sz es:=by rw [h k (by rw [hb];simp),hb]
def cQ.soft:cQ→Prop
 | .none=>True
 | .new _=>True
 | _=>False
section
variable {bs bs':List ab} (hs:Sub bs bs')
include hs
theorem iH {x:AV} {p:Nat×List AV} (h:elems bs x=some p):elems bs' x=some p:=by
 unfold elems at h⊢;split at h
 ·exact h
 ·exact h
 ·split at h
  ·rename_i hb;rw [hs.sl hb];exact h
  ·cases h
 ·split at h
  ·rename_i hb;rw [hs.sl hb];exact h
  ·cases h
 ·cases h
mutual
theorem HK: ∀{x y:AV},eA bs x=some y→eA bs' x=some y
 | .az k n,y,h=>by
  simp only [eA] at h⊢;split at h
  ·rename_i hb;rw [hs.sl hb];exact h
  ·cases h
 | .fE k n lo hi,y,h=>by
  simp only [eA] at h⊢;split at h
  ·rename_i hb;rw [hs.sl hb];exact h
  ·cases h
 | .agg cs,y,h=>by
  simp only [eA] at h⊢;split at h
  ·exact h
  ·cases hl:dd bs cs with
   | none=>rw [hl] at h;cases h
   | some l=>rw [jI hl,←hl];exact h
 | .any,y,h=>h
 | .j4,y,h=>h
 | .int _ _,y,h=>h
 | .bool _,y,h=>h
 | .str _,y,h=>h
 | .aO _,y,h=>h
 | .bJ,y,h=>h
 | .ptr _ _,y,h=>h
 | .cg _ _ _ _,y,h=>h
 | .cW _,y,h=>h
 | .ah _ _ _,y,h=>h
 | .bS _,y,h=>h
 | .fn _ _ _,y,h=>h
 | .dZ,y,h=>h
 | .fq _,y,h=>h
 | .kT _ _ _,y,h=>h
 | .fB _ _ _,y,h=>h
 | .cw _,y,h=>h
 | .kq _,y,h=>h
 | .gR,y,h=>h
theorem jI: ∀{l l':List AV},dd bs l=some l'→dd bs' l=some l'
 | [],l',h=>h
 | v::r,l',h=>by
  simp only [dd] at h⊢;split at h
  ·rename_i a l2 ha hl;rw [HK ha,jI hl];exact h
  ·cases h
end
theorem pd {v:AV}: ∀{l:List AV},dE v bs l=true→dE v bs' l=true
 | [],_=>rfl
 | x::r,h=>by
  have here: ∀k,(oL v (ab.at bs k)&&dE v bs r)=true→(oL v (ab.at bs' k)&&dE v bs' r)=true:=fun k h=>by
   rw [Bool.and_eq_true] at h⊢;refine ⟨?_,pd h.2⟩;have h1:=h.1;rw [hs k (fun hd=>by rw [hd] at h1;cases h1)];exact h1
  cases x with
  | az k n=>exact here k (by simpa only [dE] using h)
  | fE k n lo hi=>exact here k (by simpa only [dE] using h)
  | _=>simp only [dE] at h⊢;exact pd h
theorem qp {k:Bool} {v r:AV} {args:List AV} (h:cP k v args bs=some (r,.none)):cP k v args bs'=some (r,.none):=by
 unfold cP at h⊢;split at h
 ·rename_i hh
  have:(v.flat || !k8 args || (k&&dE v bs' args))=true:=by rw [Bool.or_eq_true] at hh⊢;refine hh.imp_right fun h1=> ?_;rw [Bool.and_eq_true] at h1⊢;exact ⟨h1.1,pd hs h1.2⟩
  rw [this];exact h
 ·cases h
theorem AQ {x:AV} {p:List (AV×AV×Nat)} (h:fJ x bs=some p):fJ x bs'=some p:=by
 unfold fJ at h⊢;split at h
 ·exact h
 ·split at h
  ·rename_i hb;rw [hs _ (by rw [hb];simp),hb];exact h
  ·cases h
 ·cases h
theorem FG {i:Option TI} {x r:AV} {id:Nat} {e:cQ} (h:k9 i x bs id=some (r,e)):k9 i x bs' id=some (r,e):=by
 unfold k9 at h⊢;split at h
 ·split at h
  ·exact h
  ·split at h
   ·rename_i hb;rw [hs _ (by rw [hb];simp),hb];exact h
   ·cases h
  ·cases h
 ·cases h
theorem FH {x r:AV} {e:cQ} (h:mc x bs=some (r,e)):mc x bs'=some (r,e):=by
 unfold mc at h⊢;split at h
 ·split at h
  ·rename_i hb;rw [hs _ (by rw [hb];simp),hb];simp only;split at h
   ·rename_i h1 h2;rw [hs _ (by rw [h2];simp),h1,h2];exact h
   ·cases h
  ·cases h
 ·cases h
theorem CP {c:ax} {i:Option TI} {x k r:AV} {ok:Bool} {e:cQ} (h:dM c i x k ok bs=some (r,e)):dM c i x k ok bs'=some (r,e):=by
 unfold dM at h⊢;split at h
 ·split at h
  ·split at h
   ·rename_i he;rw [AQ hs he];exact h
   ·cases h
  ·cases h
 ·cases h
omit hs in
theorem mK {c:ax} {i:Option TI} {m k x r:AV} {e:cQ} (h:aQ c i m k x bs=some (r,e)): ¬ e.soft:=by
 unfold aQ at h;split at h
 ·split at h
  ·split at h
   ·split at h
    ·split at h
     ·split at h
      ·split at h
       ·cases h;exact id
       ·cases h
      ·cases h;exact id
      ·cases h
     ·cases h
    ·cases h
   ·cases h
  ·cases h
 ·cases h
omit hs in
theorem vX {c:ax} {i:Option TI} {m k r:AV} {e:cQ} (h:iE c i m k bs=some (r,e)): ¬ e.soft:=by
 unfold iE at h;split at h
 ·split at h
  ·split at h
   ·split at h
    ·split at h
     ·split at h
      ·split at h
       ·cases h;exact id
       ·cases h
      ·split at h
       ·split at h
        ·split at h
         ·cases h;exact id
         ·cases h
        ·cases h
       ·cases h
      ·cases h
     ·cases h
    ·cases h
   ·cases h
  ·cases h
 ·cases h
omit hs in
theorem th {m s x r:AV} {e:cQ} (h:ft m s x bs=some (r,e)): ¬ e.soft:=by
 unfold ft at h;split at h
 ·split at h
  ·split at h
   ·split at h
    ·cases h;exact id
    ·cases h
   ·cases h
  ·cases h
 ·cases h
theorem AR {x r:AV} {o:Nat} {e:cQ} (h:se x o bs=some (r,e)):se x o bs'=some (r,e):=by
 unfold se at h⊢;split at h
 ·exact h
 ·split at h
  ·rename_i hb;rw [hs.sl hb];exact h
  ·cases h
 ·exact h
 ·cases h
theorem HL {i:Option TI} {x r:AV} {e:cQ} (h:ma i x bs=some (r,e)):ma i x bs'=some (r,e):=by
 unfold ma at h⊢;split at h
 ·split at h
  ·split at h
   ·rename_i hb;rw [hs.var hb];exact h
   ·cases h
  ·split at h
   ·rename_i hb;rw [hs.sl hb];exact h
   ·cases h
  ·exact h
  ·cases h
 ·cases h
theorem JT {d:TypeDesc} {x r:AV} {e:cQ} (h:oI d x bs=some (r,e)):oI d x bs'=some (r,e):=by
 unfold oI at h⊢;split at h
 ·exact h
 ·split at h
  ·rename_i hel;rw [iH hs hel];exact h
  ·cases h
 ·exact h
 ·cases h
omit hs in
theorem qq {i:TI} {el:TypeId} {s r:AV} {xs:List AV} {id:Nat} {e:cQ} (he:e.soft) (h:ez i el bs s xs id=some (r,e)):ez i el bs' s xs id=some (r,e):=by
 unfold ez at h⊢;split at h
 ·exact h
 ·exact h
 ·split at h
  ·split at h
   ·cases h;exact he.elim
   ·cases h
  ·cases h
 ·split at h
  ·split at h
   ·cases h;exact he.elim
   ·cases h
  ·cases h
 ·cases h
theorem CQ {c:ax} {st xt:TypeId} {s x r:AV} {id:Nat} {e:cQ} (he:e.soft) (h:gv c bs st xt s x id=some (r,e)):gv c bs' st xt s x id=some (r,e):=by
 unfold gv at h⊢;split at h
 ·split at h
  ·split at h
   ·split at h
    ·split at h
     ·rename_i hel;rw [iH hs hel];simp only;split at h
      ·rename_i hc;rw [if_pos hc];exact qq he h
      ·cases h
     ·cases h
    ·split at h
     ·split at h
      ·rename_i hc;rw [if_pos hc];exact qq he h
      ·cases h
     ·cases h
    ·cases h
   ·cases h
  ·cases h
 ·cases h
omit hs in
theorem FI {x r:AV} {str:Bool} {e:cQ} (h:uc x str bs=some (r,e)): ¬ e.soft:=by
 unfold uc at h;split at h
 ·split at h
  ·split at h <;> (cases h;exact fun h=>h)
  ·cases h
 ·cases h
omit hs in
theorem vd {c:ax} {i:Option TI} {len:Nat} {ps:List (Nat×AV)} {id:Nat} {r:AV} {e:cQ} (he:e.soft) (h:eB c i len ps id bs=some (r,e)):eB c i len ps id bs'=some (r,e):=by
 unfold eB fL at h⊢;split at h
 ·exact h
 ·split at h
  ·split at h
   ·cases h;exact he.elim
   ·cases h
  ·cases h
theorem AT {c:ax} {src dst:Option TI} {x r:AV} {id:Nat} {e:cQ} (h:dD c src dst x bs id=some (r,e)):dD c src dst x bs' id=some (r,e):=by
 unfold dD at h⊢;split at h
 ·split at h
  ·split at h
   ·rename_i hd hb;rw [hs.var hb,hd];exact h
   ·cases h
  ·split at h
   ·rename_i hd hb;rw [hs.var hb,hd];exact h
   ·cases h
  ·exact h
  ·exact h
  ·exact h
  ·exact h
  ·split at h
   ·split at h
    ·rename_i hd hel;rw [iH hs hel,hd];exact h
    ·cases h
   ·cases h
  ·cases h
 ·cases h
theorem qt {i:TI} {el:TypeId} {s r:AV} {xs:List AV} {id:Nat} {e:cQ} (h:ez i el bs s xs id=some (r,e)):ez i el bs' s xs id=some (r,e):=by
 unfold ez at h⊢;split at h
 ·exact h
 ·exact h
 ·split at h
  ·rename_i hb;rw [hs.sl hb];exact h
  ·cases h
 ·split at h
  ·rename_i hb;rw [hs.sl hb];exact h
  ·cases h
 ·cases h
theorem Cn {c:ax} {st xt:TypeId} {s x r:AV} {id:Nat} {e:cQ} (h:gv c bs st xt s x id=some (r,e)):gv c bs' st xt s x id=some (r,e):=by
 unfold gv at h⊢;split at h
 ·split at h
  ·split at h
   ·split at h
    ·split at h
     ·rename_i hel;rw [iH hs hel];simp only;split at h
      ·rename_i hc;rw [if_pos hc];exact qt hs h
      ·cases h
     ·cases h
    ·split at h
     ·split at h
      ·rename_i hc;rw [if_pos hc];exact qt hs h
      ·cases h
     ·cases h
    ·cases h
   ·cases h
  ·cases h
 ·cases h
theorem uy {c:ax} {d:TypeDesc} {x r:AV} {lo hi:Option AV} {e:cQ} (h:dn c d x lo hi bs=some (r,e)):dn c d x lo hi bs'=some (r,e):=by
 unfold dn at h⊢;split at h
 ·exact h
 ·exact h
 ·split at h
  ·rename_i hb;rw [hs.sl hb];exact h
  ·cases h
 ·split at h
  ·rename_i hb;rw [hs.sl hb];exact h
  ·cases h
 ·cases h
theorem CR {c:ax} {d:TypeDesc} {x r:AV} {lo hi:Option AV} {e:cQ} (_:e.soft) (h:dn c d x lo hi bs=some (r,e)):dn c d x lo hi bs'=some (r,e):=uy hs h
theorem CS {c:ax} {d:TypeDesc} {x r:AV} {lo hi mx:Option AV} {e:cQ} (h:jC c d x lo hi mx bs=some (r,e)):jC c d x lo hi mx bs'=some (r,e):=by
 unfold jC at h⊢;split at h
 ·split at h
  ·rename_i hel hj;rw [iH hs hel,hj];exact h
  ·cases h
 ·cases h
theorem vY {i:Option TI} {x r:AV} {f:Nat} {e:cQ} (h:dQ i x f bs=some (r,e)):dQ i x f bs'=some (r,e):=by
 unfold dQ at h⊢;split at h
 ·split at h
  ·split at h
   ·split at h
    ·cases h
    ·exact AR hs h
   ·cases h
  ·cases h
 ·cases h
theorem vZ {c:ax} {i:Option TI} {x y r:AV} {e:cQ} (h:dR c i x y bs=some (r,e)):dR c i x y bs'=some (r,e):=by
 unfold dR at h⊢;split at h
 ·split at h
  ·split at h
   ·rename_i hc;split at h
    ·rw [if_pos hc];exact AR hs h
    ·cases h
   ·cases h
  ·split at h
   ·split at h
    ·exact h
    ·split at h
     ·rename_i hb;rw [hs.sl hb];exact h
     ·cases h
    ·split at h
     ·rename_i hb;rw [hs.sl hb];exact h
     ·cases h
    ·cases h
   ·cases h
  ·cases h
 ·cases h
theorem HM {c:ax} {st:TypeId} {d x r:AV} {e:cQ} (he:e.soft) (h:tZ c bs st d x=some (r,e)):tZ c bs' st d x=some (r,e):=by
 unfold tZ at h⊢;split at h
 ·split at h
  ·split at h
   ·split at h
    ·rename_i hel;rw [iH hs hel];simp only;split at h
     ·rename_i hc;rw [if_pos hc];unfold ye at h⊢;split at h
      ·split at h
       ·rename_i hb;rw [hs.sl hb];simp only;split at h
        ·rename_i hcc;rw [if_pos hcc];split at h
         ·rename_i h0;rw [if_pos h0];exact h
         ·cases h;exact he.elim
        ·cases h
       ·cases h
      ·exact h
     ·cases h
    ·cases h
   ·cases h
  ·cases h
 ·cases h
theorem AU {c:ax} {b:Builtin} {ts:List TypeId} {xs:List AV} {id:Nat} {r:AV} {e:cQ} (he:e.soft) (h:ea c b ts xs bs id=some (r,e)):ea c b ts xs bs' id=some (r,e):=by
 unfold ea at h⊢;split at h
 ·split at h
  ·split at h
   ·exact JT hs h
   ·cases h
  ·cases h
 ·split at h
  ·exact CQ hs he h
  ·cases h
 ·exact h
 ·exact h
 ·split at h
  ·unfold zF at h⊢;split at h
   ·exact h
   ·split at h
    ·rename_i hb;rw [hs.sl hb];exact h
    ·cases h
   ·cases h
  ·cases h
 ·split at h
  ·split at h
   ·unfold zG at h⊢;split at h
    ·exact h
    ·split at h
     ·split at h
      ·rename_i es _ _ _ _;cases hb:j5 es with
       | none=>rw [hb] at h;cases h
       | some s=>rw [hb] at h;cases h;exact he.elim
      ·cases h
     ·cases h
    ·cases h
   ·cases h
  ·cases h
 ·split at h
  ·exact HM hs he h
  ·cases h
 ·cases h
theorem En {c:ax} {op:Op} {t:Env} {id:Nat} {r:AV} {e:cQ} (he:e.soft) (h:fj c op t bs id=some (r,e)):fj c op t bs' id=some (r,e):=by
 cases op with
 | load ty a=>exact HL hs h
 | store ty a x=>
  exfalso;simp only [fj] at h;unfold mb at h;split at h
  ·split at h
   ·split at h
    ·split at h
     ·split at h
      ·cases h;exact he
      ·cases h
     ·cases h
    ·split at h
     ·split at h
      ·split at h
       ·rename_i el _;split at h
        ·obtain ⟨b,rfl⟩:=j6 h;exact he
        cases hst:cF el _ (ev t x).cells with
        | none=>rw [hst] at h;cases h
        | some y=>rw [hst] at h;cases h;exact he
       ·cases h
      ·cases h
     ·cases h
    ·cases h
   ·cases h
  ·cases h
 | convert src dst x=>exact AT hs h
 | buildSlice ty len ps=>exact vd he h
 | next x str=>exact absurd he (FI h)
 | slice ty x lo hi mx=>
  simp only [fj] at h⊢;split at h
  ·split at h
   ·exact CR hs he h
   ·exact CS hs h
  ·cases h
 | fieldAddr ty x f=>exact vY hs h
 | indexAddr ty x ix=>exact vZ hs h
 | call k=>
  simp only [fj] at h⊢;split at h
  ·exact AU hs he h
  ·cases h
 | makeFunc fn a b=>cases fn <;> exact h
 | lookup ty x k ok=>exact CP hs h
 | range ty x=>exact FG hs h
 | mapUpdate ty m k x=>exact absurd he (mK h)
 | insert ty m k x=>exact absurd he (mK h)
 | mapEntry ty m k=>exact absurd he (vX h)
 | entryStore ty m s x=>exact absurd he (th h)
 | entry x=>exact FH hs h
 | _=>exact h
theorem uA {c:ax} {cf:aG} {op:Op} {t:Env} {id:Nat} {r:AV} {e:cQ} (he:e.soft) (h:bN c cf op t bs id=some (r,e)):bN c cf op t bs' id=some (r,e):=by
 unfold bN at h⊢;split at h
 ·split at h
  ·split at h
   ·split at h
    ·exact h
    have all: ∀{v:AV} {b:List ab},(some (v,cQ.all b):Out)=some (r,e)→False:=fun hx=>by cases hx;exact he
    have app: ∀{v:AV} {b:ab},(some (v,cQ.app b):Out)=some (r,e)→False:=fun hx=>by cases hx;exact he
    unfold oc at h⊢;split at h
    ·split at h
     ·exact (all h).elim
     ·cases h
    unfold pH at h⊢;split at h
    ·split at h
     ·exact (all h).elim
     ·cases h
    unfold wG at h⊢;split at h
    ·rename_i l hl;rw [jI hs hl];simp only;split at h
     ·split at h
      ·split at h
       ·split at h
        ·rename_i hp;rw [if_pos hp];cases hlb:cP (c.DZ _) _ _ bs with
         | none=>rw [hlb] at h;cases h
         | some p=>
          obtain ⟨p1,p2⟩:=p;rw [hlb] at h;unfold cP at hlb;split at hlb
          ·cases hlb;rw [qp hs (by unfold cP;rw [‹(_ || _)=true›])];exact h
          ·cases hlb;exact (all h).elim
        ·cases h
       ·cases h
      ·split at h
       ·split at h
        ·rename_i hp;rw [if_pos hp];cases hlb:cP (c.DZ _) _ _ bs with
         | none=>rw [hlb] at h;cases h
         | some p=>
          obtain ⟨p1,p2⟩:=p;rw [hlb] at h;unfold cP at hlb;split at hlb
          ·cases hlb;rw [qp hs (by unfold cP;rw [‹(_ || _)=true›])];exact h
          ·cases hlb;exact (all h).elim
        ·cases h
       ·split at h
        ·split at h
         ·exact (all h).elim
         ·exact (app h).elim
        ·split at h
         ·exact (all h).elim
         ·cases h
       ·cases h
     ·split at h
      ·exact (all h).elim
      ·cases h
    ·cases h
   ·split at h
    ·cases h;exact he.elim
    ·cases h
   ·cases h
  ·exact En hs he h
 ·exact En hs he h
end
theorem jO {t t':Env} {l:List Operand} (h: ∀x∈l,ev t x=ev t' x):lR t l=lR t' l:=List.map_congr_left h
theorem sI {t t':Env} {l:List (Nat×Operand)} (h: ∀x∈l.map (·.2),ev t x=ev t' x):(l.map fun p=>(p.1,ev t p.2))=l.map fun p=>(p.1,ev t' p.2):=
 List.map_congr_left fun p hp=>by rw [h p.2 (List.mem_map_of_mem hp)]
theorem rJ {t t':Env} {x:Option Operand} (h: ∀y∈x.toArray,ev t y=ev t' y):x.map (ev t)=x.map (ev t'):=by
 cases x with
 | none=>rfl
 | some x=>simp only [Option.map_some];rw [h x (by simp)]
theorem rK (c:ax) {op:Op} {t t':Env} (h: ∀x∈op.operands,ev t x=ev t' x) (bs:List ab) (id:Nat):fj c op t bs id=fj c op t' bs id:=by
 cases op <;> simp only [Op.operands] at h
 case move x=>simp only [fj];rw [h x (by simp)]
 case assign x=>simp only [fj];rw [h x (by simp)]
 case pick x y z=>simp only [fj];rw [h x (by simp),h y (by simp),h z (by simp)]
 case box e x=>simp only [fj];rw [h x (by simp)]
 case build ty ps=>simp only [fj];rw [sI (fun x hx=>h x (by simpa using hx))]
 case buildSlice ty n ps=>simp only [fj];rw [sI (fun x hx=>h x (by simpa using hx))]
 case load ty x=>simp only [fj];rw [h x (by simp)]
 case store ty x y=>simp only [fj];rw [h x (by simp),h y (by simp)]
 case nilCheck x=>simp only [fj];rw [h x (by simp)]
 case makeInterface ty x=>simp only [fj];rw [h x (by simp)]
 case binOp o ty x y ty'=>simp only [fj];rw [h x (by simp),h y (by simp)]
 case unOp o ty x=>simp only [fj];rw [h x (by simp)]
 case convert s d x=>simp only [fj];rw [h x (by simp)]
 case makeFunc fn first caps=>
  cases fn <;> first
   | rfl
   | (simp only [fj];rw [jO (fun x hx=>h x (by simp at hx⊢;exact .inl hx)),jO (fun x hx=>h x (by simp at hx⊢;exact .inr hx))])
 case makeSlice ty x y=>simp only [fj];rw [h x (by simp),h y (by simp)]
 case slice ty x lo hi mx=>
  have h1:=rJ (x:=lo) (fun y hy=>h y (by simp only [Array.mem_append];exact .inl (.inl (.inr hy))));have h2:=rJ (x:=hi) (fun y hy=>h y (by simp only [Array.mem_append];exact .inl (.inr hy)));simp only [fj];rw [h x (by simp),h1,h2];cases mx with
  | none=>rfl
  | some m=>simp only;rw [h m (by simp)]
 case fieldAddr ty x f=>simp only [fj];rw [h x (by simp)]
 case field ty x f=>simp only [fj];rw [h x (by simp)]
 case indexAddr ty x y=>simp only [fj];rw [h x (by simp),h y (by simp)]
 case index ty x y=>simp only [fj];rw [h x (by simp),h y (by simp)]
 case extract x i=>simp only [fj];rw [h x (by simp)]
 case makeMap ty r=>simp only [fj];rw [rJ h]
 case range ty x=>simp only [fj];rw [h x (by simp)]
 case next x str=>simp only [fj];rw [h x (by simp)]
 case lookup ty x k ok=>simp only [fj];rw [h x (by simp),h k (by simp)]
 case mapUpdate ty m k x=>simp only [fj];rw [h m (by simp),h k (by simp),h x (by simp)]
 case insert ty m k x=>simp only [fj];rw [h m (by simp),h k (by simp),h x (by simp)]
 case mapEntry ty m k=>simp only [fj];rw [h m (by simp),h k (by simp)]
 case entryStore ty m s x=>simp only [fj];rw [h m (by simp),h s (by simp),h x (by simp)]
 case entry x=>simp only [fj];rw [h x (by simp)]
 case call k=>
  obtain ⟨callee,args,ts⟩:=k;simp only [fj];rw [jO (fun x hx=>h x (by simp only [Call.operands,Array.mem_append];exact .inr (by simpa using hx)))]
 all_goals rfl
theorem CT (c:ax) (cf:aG) {op:Op} {t t':Env} (h: ∀x∈op.operands,ev t x=ev t' x) (bs:List ab) (id:Nat):bN c cf op t bs id=bN c cf op t' bs id:=by
 unfold bN;split
 ·rename_i k;obtain ⟨callee,args,ts⟩:=k;simp only;cases callee with
  | value f=>simp only;rw [h f (by simp [Op.operands,Call.operands]),jO (fun x hx=>h x (by simp only [Op.operands,Call.operands,Array.mem_append];exact .inr (by simpa using hx)))]
  | invoke r m=>exact rK c h bs id
  | builtin b=>exact rK c h bs id
 ·exact rK c h bs id
theorem Tr.set_comm {α:Type} (t:Tr α): ∀{i j:Nat} (x y:α),i≠j→(t.set i x).set j y=(t.set j y).set i x:=by
 induction t with
 | lf=>intro i j x y _;rfl
 | nd v l r ihl ihr=>
  intro i j x y h;cases i with
  | zero=>cases j with
   | zero=>exact absurd rfl h
   | succ j=>rcases Nat.mod_two_eq_zero_or_one j with hj | hj <;> simp only [Tr.set,hj]
  | succ i=>cases j with
   | zero=>rcases Nat.mod_two_eq_zero_or_one i with hi | hi <;> simp only [Tr.set,hi]
   | succ j=>
    rcases Nat.mod_two_eq_zero_or_one i with hi | hi <;> rcases Nat.mod_two_eq_zero_or_one j with hj | hj <;> simp only [Tr.set,hi,hj]
    ·rw [ihl x y (tH (by omega) (by omega))]
    ·rw [ihr x y (tH (by omega) (by omega))]
theorem Nt {t:Env} {d:Option Tmp} {v:AV} {x:Operand} (h: ∀i,d=some i→x≠ .tmp i):ev (bo t d v) x=ev t x:=by
 cases d with
 | none=>rfl
 | some d=>
  cases x with
  | tmp i=>exact Tr.bc _ _ _ (fun e=>h d rfl (by rw [e]))
  | _=>rfl
theorem Fk (t:Env) {d d':Option Tmp} (v v':AV) (h: ∀i,d=some i→d'≠some i):bo (bo t d v) d' v'=bo (bo t d' v') d v:=by
 cases d with
 | none=>rfl
 | some d=>
  cases d' with
  | none=>rfl
  | some d'=>exact Tr.set_comm t v v' (fun e=>h d rfl (by rw [e]))
theorem pQ {c:ax} {cf:aG} {ops:Array Oper} {x y:Oper} (h: ∀d,x.dst=some d→d∉y.looksAt ops) (t:Env) (v:AV) (bs:List ab) (id:Nat):
  bN c cf y.op (bo t x.dst v) bs id=bN c cf y.op t bs id∧bF ops (bo t x.dst v) y.guard=bF ops t y.guard:=by
 refine ⟨CT c cf (fun z hz=>Nt (fun i hi e=> ?_)) bs id,?_⟩
 ·refine h i hi ?_;subst e;simp only [Oper.looksAt,List.mem_append,List.mem_filterMap];exact .inl ⟨.tmp i,by simpa using hz,rfl⟩
 ·unfold bF;cases hg:y.guard with
  | none=>rfl
  | some p=>
   obtain ⟨j,want⟩:=p;simp only;cases hd:(ops[j]?).bind (·.dst) with
   | none=>rfl
   | some d=>
    simp only
    have:Tr.get AV.any (bo t x.dst v) d=Tr.get AV.any t d:=by
     cases hx:x.dst with
     | none=>rfl
     | some i=>refine Tr.bc _ _ _ (fun e=>h i hx ?_);subst e;simp only [Oper.looksAt,List.mem_append];exact .inr (by simp [hg,hd])
    rw [this]
end Go.Am
