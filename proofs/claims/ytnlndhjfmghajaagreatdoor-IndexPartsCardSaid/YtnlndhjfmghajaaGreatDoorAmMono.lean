/- An operation of the abstract machine hangs on its operands and on the boxes that are .. -/
import Derived.Test.YtnlndhjfmghajaaGreatDoorAmStep
set_option linter.all false
namespace Go.Am
def Sub (bs bs':List Box):Prop:= ∀k,Box.at bs k≠ .dead→Box.at bs' k=Box.at bs k
theorem Sub.var {bs bs':List Box} (h:Sub bs bs') {k:Nat} {ty:TypeId} {cs:List AV} (hb:Box.at bs k= .var ty cs):Box.at bs' k= .var ty cs:=by rw [h k (by rw [hb];simp),hb]
theorem Sub.sl {bs bs':List Box} (h:Sub bs bs') {k:Nat} {sh:Hd} {sz:Nat} {es:List AV} (hb:Box.at bs k= .sl sh sz es):Box.at bs' k= .sl sh sz es:=by rw [h k (by rw [hb];simp),hb]
def Eff.soft:Eff→Prop
 | .none=>True
 | .new _=>True
 | _=>False
section
variable {bs bs':List Box} (hs:Sub bs bs')
include hs
theorem elems_sub {x:AV} {p:Nat×List AV} (h:elems bs x=some p):elems bs' x=some p:=by
 unfold elems at h⊢
 split at h
 ·exact h
 ·exact h
 ·split at h
  ·rename_i hb;rw [hs.sl hb];exact h
  ·cases h
 ·split at h
  ·rename_i hb;rw [hs.sl hb];exact h
  ·cases h
 ·cases h
mutual
theorem lend_sub: ∀{x y:AV},lend bs x=some y→lend bs' x=some y
 | .osl k n,y,h=>by
  simp only [lend] at h⊢
  split at h
  ·rename_i hb;rw [hs.sl hb];exact h
  ·cases h
 | .osv k n lo hi,y,h=>by
  simp only [lend] at h⊢
  split at h
  ·rename_i hb;rw [hs.sl hb];exact h
  ·cases h
 | .agg cs,y,h=>by
  simp only [lend] at h⊢
  split at h
  ·exact h
  ·cases hl:lendAll bs cs with
   | none=>rw [hl] at h;cases h
   | some l=>rw [lendAll_sub hl,←hl];exact h
 | .any,y,h=>h
 | .unk,y,h=>h
 | .int _ _,y,h=>h
 | .bool _,y,h=>h
 | .str _,y,h=>h
 | .tup _,y,h=>h
 | .nilp,y,h=>h
 | .ptr _ _,y,h=>h
 | .sptr _ _ _ _,y,h=>h
 | .eptr _,y,h=>h
 | .lst _ _ _,y,h=>h
 | .cap0 _,y,h=>h
 | .fn _ _ _,y,h=>h
 | .nilf,y,h=>h
 | .ifc _,y,h=>h
 | .ifi _ _ _,y,h=>h
 | .yld _ _ _,y,h=>h
 | .mapv _,y,h=>h
 | .itv _,y,h=>h
 | .nilm,y,h=>h
theorem lendAll_sub: ∀{l l':List AV},lendAll bs l=some l'→lendAll bs' l=some l'
 | [],l',h=>h
 | v::r,l',h=>by
  simp only [lendAll] at h⊢
  split at h
  ·rename_i a l2 ha hl
   rw [lend_sub ha,lendAll_sub hl];exact h
  ·cases h
end
theorem apartB_sub {v:AV}: ∀{l:List AV},apartB v bs l=true→apartB v bs' l=true
 | [],_=>rfl
 | x::r,h=>by
  have here: ∀k,(apart1 v (Box.at bs k)&&apartB v bs r)=true→(apart1 v (Box.at bs' k)&&apartB v bs' r)=true:=fun k h=>by
   rw [Bool.and_eq_true] at h⊢
   refine ⟨?_,apartB_sub h.2⟩
   have h1:=h.1
   rw [hs k (fun hd=>by rw [hd] at h1;cases h1)]
   exact h1
  cases x with
  | osl k n=>exact here k (by simpa only [apartB] using h)
  | osv k n lo hi=>exact here k (by simpa only [apartB] using h)
  | _=>simp only [apartB] at h⊢;exact apartB_sub h
theorem lentBack_sub {k:Bool} {v r:AV} {args:List AV} (h:lentBack k v args bs=some (r,.none)):lentBack k v args bs'=some (r,.none):=by
 unfold lentBack at h⊢
 split at h
 ·rename_i hh
  have:(v.flat || !hasOsl args || (k&&apartB v bs' args))=true:=by
   rw [Bool.or_eq_true] at hh⊢
   refine hh.imp_right fun h1=> ?_
   rw [Bool.and_eq_true] at h1⊢
   exact ⟨h1.1,apartB_sub hs h1.2⟩
  rw [this]
  exact h
 ·cases h
theorem entries_sub {x:AV} {p:List (AV×AV×Nat)} (h:entriesA x bs=some p):entriesA x bs'=some p:=by
 unfold entriesA at h⊢
 split at h
 ·exact h
 ·split at h
  ·rename_i hb;rw [hs _ (by rw [hb];simp),hb];exact h
  ·cases h
 ·cases h
theorem range_sub {i:Option TI} {x r:AV} {id:Nat} {e:Eff} (h:rangeA i x bs id=some (r,e)):rangeA i x bs' id=some (r,e):=by
 unfold rangeA at h⊢
 split at h
 ·split at h
  ·exact h
  ·split at h
   ·rename_i hb;rw [hs _ (by rw [hb];simp),hb];exact h
   ·cases h
  ·cases h
 ·cases h
theorem entry_sub {x r:AV} {e:Eff} (h:entryA x bs=some (r,e)):entryA x bs'=some (r,e):=by
 unfold entryA at h⊢
 split at h
 ·split at h
  ·rename_i hb
   rw [hs _ (by rw [hb];simp),hb]
   simp only
   split at h
   ·rename_i h1 h2
    rw [hs _ (by rw [h2];simp),h1,h2]
    exact h
   ·cases h
  ·cases h
 ·cases h
theorem lookup_sub {c:Cfg} {i:Option TI} {x k r:AV} {ok:Bool} {e:Eff} (h:lookupA c i x k ok bs=some (r,e)):lookupA c i x k ok bs'=some (r,e):=by
 unfold lookupA at h⊢
 split at h
 ·split at h
  ·split at h
   ·rename_i he;rw [entries_sub hs he];exact h
   ·cases h
  ·cases h
 ·cases h
omit hs in
theorem mapUpdate_hard {c:Cfg} {i:Option TI} {m k x r:AV} {e:Eff} (h:mapUpdateA c i m k x bs=some (r,e)): ¬ e.soft:=by
 unfold mapUpdateA at h
 split at h
 ·split at h
  ·split at h
   ·split at h
    ·split at h
     ·split at h
      ·split at h
       ·cases h;exact id
       ·cases h
      ·cases h;exact id
      ·cases h
     ·cases h
    ·cases h
   ·cases h
  ·cases h
 ·cases h
omit hs in
theorem mapEntry_hard {c:Cfg} {i:Option TI} {m k r:AV} {e:Eff} (h:mapEntryA c i m k bs=some (r,e)): ¬ e.soft:=by
 unfold mapEntryA at h
 split at h
 ·split at h
  ·split at h
   ·split at h
    ·split at h
     ·split at h
      ·split at h
       ·cases h;exact id
       ·cases h
      ·split at h
       ·split at h
        ·split at h
         ·cases h;exact id
         ·cases h
        ·cases h
       ·cases h
      ·cases h
     ·cases h
    ·cases h
   ·cases h
  ·cases h
 ·cases h
omit hs in
theorem entryStore_hard {m s x r:AV} {e:Eff} (h:entryStoreA m s x bs=some (r,e)): ¬ e.soft:=by
 unfold entryStoreA at h
 split at h
 ·split at h
  ·split at h
   ·split at h
    ·cases h;exact id
    ·cases h
   ·cases h
  ·cases h
 ·cases h
theorem move_sub {x r:AV} {o:Nat} {e:Eff} (h:moveA x o bs=some (r,e)):moveA x o bs'=some (r,e):=by
 unfold moveA at h⊢
 split at h
 ·exact h
 ·split at h
  ·rename_i hb;rw [hs.sl hb];exact h
  ·cases h
 ·exact h
 ·cases h
theorem load_sub {i:Option TI} {x r:AV} {e:Eff} (h:loadA i x bs=some (r,e)):loadA i x bs'=some (r,e):=by
 unfold loadA at h⊢
 split at h
 ·split at h
  ·split at h
   ·rename_i hb;rw [hs.var hb];exact h
   ·cases h
  ·split at h
   ·rename_i hb;rw [hs.sl hb];exact h
   ·cases h
  ·exact h
  ·cases h
 ·cases h
theorem mapLen_sub {x:AV} {n:Nat} (h:mapLen bs x=some n):mapLen bs' x=some n:=by
 unfold mapLen at h⊢
 split at h
 ·exact h
 ·split at h
  ·rename_i hb;rw [hs _ (by rw [hb];simp),hb];exact h
  ·cases h
 ·cases h
theorem len_sub {d:TypeDesc} {x r:AV} {e:Eff} (h:lenA d x bs=some (r,e)):lenA d x bs'=some (r,e):=by
 unfold lenA at h⊢
 split at h
 ·exact h
 ·split at h
  ·rename_i hel;rw [elems_sub hs hel];exact h
  ·cases h
 ·exact h
 ·split at h
  ·rename_i hel;rw [mapLen_sub hs hel];exact h
  ·cases h
 ·cases h
omit hs in
theorem appendTo_sub {i:TI} {el:TypeId} {s r:AV} {xs:List AV} {id:Nat} {e:Eff} (he:e.soft) (h:appendTo i el bs s xs id=some (r,e)):appendTo i el bs' s xs id=some (r,e):=by
 unfold appendTo at h⊢
 split at h
 ·exact h
 ·exact h
 ·split at h
  ·split at h
   ·cases h;exact he.elim
   ·cases h
  ·cases h
 ·split at h
  ·split at h
   ·cases h;exact he.elim
   ·cases h
  ·cases h
 ·cases h
theorem append_sub {c:Cfg} {st xt:TypeId} {s x r:AV} {id:Nat} {e:Eff} (he:e.soft) (h:appendA c bs st xt s x id=some (r,e)):appendA c bs' st xt s x id=some (r,e):=by
 unfold appendA at h⊢
 split at h
 ·split at h
  ·split at h
   ·split at h
    ·split at h
     ·rename_i hel
      rw [elems_sub hs hel]
      simp only
      split at h
      ·rename_i hc;rw [if_pos hc];exact appendTo_sub he h
      ·cases h
     ·cases h
    ·split at h
     ·split at h
      ·rename_i hc;rw [if_pos hc];exact appendTo_sub he h
      ·cases h
     ·cases h
    ·cases h
   ·cases h
  ·cases h
 ·cases h
omit hs in
theorem next_hard {x r:AV} {str:Bool} {e:Eff} (h:nextA x str bs=some (r,e)): ¬ e.soft:=by
 unfold nextA at h
 split at h
 ·split at h
  ·split at h <;> (cases h;exact fun h=>h)
  ·cases h
 ·cases h
omit hs in
theorem buildSlice_sub {c:Cfg} {i:Option TI} {len:Nat} {ps:List (Nat×AV)} {id:Nat} {r:AV} {e:Eff} (he:e.soft) (h:buildSliceL c i len ps id bs=some (r,e)):buildSliceL c i len ps id bs'=some (r,e):=by
 unfold buildSliceL buildSliceL0 at h⊢
 split at h
 ·exact h
 ·split at h
  ·split at h
   ·cases h;exact he.elim
   ·cases h
  ·cases h
theorem convert_sub {c:Cfg} {src dst:Option TI} {x r:AV} {id:Nat} {e:Eff} (h:convertA c src dst x bs id=some (r,e)):convertA c src dst x bs' id=some (r,e):=by
 unfold convertA at h⊢
 split at h
 ·split at h
  ·split at h
   ·rename_i hd hb;rw [hs.var hb,hd];exact h
   ·cases h
  ·split at h
   ·rename_i hd hb;rw [hs.var hb,hd];exact h
   ·cases h
  ·exact h
  ·exact h
  ·exact h
  ·exact h
  ·split at h
   ·split at h
    ·rename_i hd hel
     rw [elems_sub hs hel,hd];exact h
    ·cases h
   ·cases h
  ·cases h
 ·cases h
theorem appendTo_any {i:TI} {el:TypeId} {s r:AV} {xs:List AV} {id:Nat} {e:Eff} (h:appendTo i el bs s xs id=some (r,e)):appendTo i el bs' s xs id=some (r,e):=by
 unfold appendTo at h⊢
 split at h
 ·exact h
 ·exact h
 ·split at h
  ·rename_i hb;rw [hs.sl hb];exact h
  ·cases h
 ·split at h
  ·rename_i hb;rw [hs.sl hb];exact h
  ·cases h
 ·cases h
theorem append_any {c:Cfg} {st xt:TypeId} {s x r:AV} {id:Nat} {e:Eff} (h:appendA c bs st xt s x id=some (r,e)):appendA c bs' st xt s x id=some (r,e):=by
 unfold appendA at h⊢
 split at h
 ·split at h
  ·split at h
   ·split at h
    ·split at h
     ·rename_i hel
      rw [elems_sub hs hel]
      simp only
      split at h
      ·rename_i hc;rw [if_pos hc];exact appendTo_any hs h
      ·cases h
     ·cases h
    ·split at h
     ·split at h
      ·rename_i hc;rw [if_pos hc];exact appendTo_any hs h
      ·cases h
     ·cases h
    ·cases h
   ·cases h
  ·cases h
 ·cases h
theorem slice2_any {c:Cfg} {d:TypeDesc} {x r:AV} {lo hi:Option AV} {e:Eff} (h:slice2A c d x lo hi bs=some (r,e)):slice2A c d x lo hi bs'=some (r,e):=by
 unfold slice2A at h⊢
 split at h
 ·exact h
 ·exact h
 ·split at h
  ·rename_i hb;rw [hs.sl hb];exact h
  ·cases h
 ·split at h
  ·rename_i hb;rw [hs.sl hb];exact h
  ·cases h
 ·cases h
theorem slice2_sub {c:Cfg} {d:TypeDesc} {x r:AV} {lo hi:Option AV} {e:Eff} (_:e.soft) (h:slice2A c d x lo hi bs=some (r,e)):slice2A c d x lo hi bs'=some (r,e):=slice2_any hs h
theorem slice3_sub {c:Cfg} {d:TypeDesc} {x r:AV} {lo hi mx:Option AV} {e:Eff} (h:slice3A c d x lo hi mx bs=some (r,e)):slice3A c d x lo hi mx bs'=some (r,e):=by
 unfold slice3A at h⊢
 split at h
 ·split at h
  ·rename_i hel hj
   rw [elems_sub hs hel,hj];exact h
  ·cases h
 ·cases h
theorem fieldAddr_sub {i:Option TI} {x r:AV} {f:Nat} {e:Eff} (h:fieldAddrA i x f bs=some (r,e)):fieldAddrA i x f bs'=some (r,e):=by
 unfold fieldAddrA at h⊢
 split at h
 ·split at h
  ·split at h
   ·split at h
    ·cases h
    ·exact move_sub hs h
   ·cases h
  ·cases h
 ·cases h
theorem indexAddr_sub {c:Cfg} {i:Option TI} {x y r:AV} {e:Eff} (h:indexAddrA c i x y bs=some (r,e)):indexAddrA c i x y bs'=some (r,e):=by
 unfold indexAddrA at h⊢
 split at h
 ·split at h
  ·split at h
   ·rename_i hc
    split at h
    ·rw [if_pos hc];exact move_sub hs h
    ·cases h
   ·cases h
  ·split at h
   ·split at h
    ·exact h
    ·split at h
     ·rename_i hb;rw [hs.sl hb];exact h
     ·cases h
    ·split at h
     ·rename_i hb;rw [hs.sl hb];exact h
     ·cases h
    ·cases h
   ·cases h
  ·cases h
 ·cases h
theorem copy_sub {c:Cfg} {st:TypeId} {d x r:AV} {e:Eff} (he:e.soft) (h:copyA c bs st d x=some (r,e)):copyA c bs' st d x=some (r,e):=by
 unfold copyA at h⊢
 split at h
 ·split at h
  ·split at h
   ·split at h
    ·rename_i hel
     rw [elems_sub hs hel]
     simp only
     split at h
     ·rename_i hc
      rw [if_pos hc]
      unfold copyTo at h⊢
      split at h
      ·split at h
       ·rename_i hb
        rw [hs.sl hb]
        simp only
        split at h
        ·rename_i hcc
         rw [if_pos hcc]
         split at h
         ·rename_i h0;rw [if_pos h0];exact h
         ·cases h;exact he.elim
        ·cases h
       ·cases h
      ·exact h
     ·cases h
    ·cases h
   ·cases h
  ·cases h
 ·cases h
theorem builtin_sub {c:Cfg} {b:Builtin} {ts:List TypeId} {xs:List AV} {id:Nat} {r:AV} {e:Eff} (he:e.soft) (h:builtinA c b ts xs bs id=some (r,e)):builtinA c b ts xs bs' id=some (r,e):=by
 unfold builtinA at h⊢
 split at h
 ·split at h
  ·split at h
   ·exact len_sub hs h
   ·cases h
  ·cases h
 ·split at h
  ·exact append_sub hs he h
  ·cases h
 ·exact h
 ·exact h
 ·split at h
  ·unfold dataA at h⊢
   split at h
   ·exact h
   ·split at h
    ·rename_i hb;rw [hs.sl hb];exact h
    ·cases h
   ·cases h
  ·cases h
 ·split at h
  ·split at h
   ·unfold textA at h⊢
    split at h
    ·exact h
    ·split at h
     ·split at h
      ·rename_i es _ _ _ _
       cases hb:bytesN es with
       | none=>rw [hb] at h;cases h
       | some s=>rw [hb] at h;cases h;exact he.elim
      ·cases h
     ·cases h
    ·cases h
   ·cases h
  ·cases h
 ·split at h
  ·exact copy_sub hs he h
  ·cases h
 ·cases h
theorem aop_sub {c:Cfg} {op:Op} {t:Env} {id:Nat} {r:AV} {e:Eff} (he:e.soft) (h:aop c op t bs id=some (r,e)):aop c op t bs' id=some (r,e):=by
 cases op with
 | load ty a=>exact load_sub hs h
 | store ty a x=>
  exfalso
  simp only [aop] at h
  unfold storeA at h
  split at h
  ·split at h
   ·split at h
    ·split at h
     ·split at h
      ·cases h;exact he
      ·cases h
     ·cases h
    ·split at h
     ·split at h
      ·split at h
       ·rename_i el _
        split at h
        ·obtain ⟨b,rfl⟩:=storeLink_all h;exact he
        cases hst:storeElem el _ (ev t x).cells with
        | none=>rw [hst] at h;cases h
        | some y=>rw [hst] at h;cases h;exact he
       ·cases h
      ·cases h
     ·cases h
    ·cases h
   ·cases h
  ·cases h
 | convert src dst x=>exact convert_sub hs h
 | buildSlice ty len ps=>exact buildSlice_sub he h
 | next x str=>exact absurd he (next_hard h)
 | slice ty x lo hi mx=>
  simp only [aop] at h⊢
  split at h
  ·split at h
   ·exact slice2_sub hs he h
   ·exact slice3_sub hs h
  ·cases h
 | fieldAddr ty x f=>exact fieldAddr_sub hs h
 | indexAddr ty x ix=>exact indexAddr_sub hs h
 | call k=>
  simp only [aop] at h⊢
  split at h
  ·exact builtin_sub hs he h
  ·cases h
 | makeFunc fn a b=>cases fn <;> exact h
 | lookup ty x k ok=>exact lookup_sub hs h
 | range ty x=>exact range_sub hs h
 | mapUpdate ty m k x=>exact absurd he (mapUpdate_hard h)
 | insert ty m k x=>exact absurd he (mapUpdate_hard h)
 | mapEntry ty m k=>exact absurd he (mapEntry_hard h)
 | entryStore ty m s x=>exact absurd he (entryStore_hard h)
 | entry x=>exact entry_sub hs h
 | _=>exact h
theorem doOp_sub {c:Cfg} {cf:CallF} {op:Op} {t:Env} {id:Nat} {r:AV} {e:Eff} (he:e.soft) (h:doOp c cf op t bs id=some (r,e)):doOp c cf op t bs' id=some (r,e):=by
 unfold doOp at h⊢
 split at h
 ·split at h
  ·split at h
   ·split at h
    ·exact h
    have all: ∀{v:AV} {b:List Box},(some (v,Eff.all b):Out)=some (r,e)→False:=fun hx=>by cases hx;exact he
    have app: ∀{v:AV} {b:Box},(some (v,Eff.app b):Out)=some (r,e)→False:=fun hx=>by cases hx;exact he
    have eat: ∀{v:AV} {b:Nat},(some (v,Eff.eat b):Out)=some (r,e)→False:=fun hx=>by cases hx;exact he
    unfold callA at h⊢
    split at h
    ·split at h
     ·exact (all h).elim
     ·cases h
    unfold callP at h⊢
    split at h
    ·split at h
     ·split at h
      ·exact (eat h).elim
      ·cases h
     ·split at h
      ·exact (all h).elim
      ·cases h
    unfold callL at h⊢
    split at h
    ·rename_i l hl
     rw [lendAll_sub hs hl]
     simp only
     split at h
     ·split at h
      ·split at h
       ·split at h
        ·rename_i hp
         rw [if_pos hp]
         cases hlb:lentBack (c.brw _) _ _ bs with
         | none=>rw [hlb] at h;cases h
         | some p=>
          obtain ⟨p1,p2⟩:=p
          rw [hlb] at h
          unfold lentBack at hlb
          split at hlb
          ·cases hlb
           rw [lentBack_sub hs (by unfold lentBack;rw [‹(_ || _)=true›])]
           exact h
          ·cases hlb;exact (all h).elim
        ·cases h
       ·cases h
      ·split at h
       ·split at h
        ·rename_i hp
         rw [if_pos hp]
         cases hlb:lentBack (c.brw _) _ _ bs with
         | none=>rw [hlb] at h;cases h
         | some p=>
          obtain ⟨p1,p2⟩:=p
          rw [hlb] at h
          unfold lentBack at hlb
          split at hlb
          ·cases hlb
           rw [lentBack_sub hs (by unfold lentBack;rw [‹(_ || _)=true›])]
           exact h
          ·cases hlb;exact (all h).elim
        ·cases h
       ·split at h
        ·split at h
         ·exact (all h).elim
         ·exact (app h).elim
        ·split at h
         ·exact (all h).elim
         ·cases h
       ·cases h
     ·split at h
      ·exact (all h).elim
      ·cases h
    ·cases h
   ·split at h
    ·cases h;exact he.elim
    ·cases h
   ·cases h
  ·exact aop_sub hs he h
 ·exact aop_sub hs he h
end
theorem evAll_congr {t t':Env} {l:List Operand} (h: ∀x∈l,ev t x=ev t' x):evAll t l=evAll t' l:=List.map_congr_left h
theorem parts_congr {t t':Env} {l:List (Nat×Operand)} (h: ∀x∈l.map (·.2),ev t x=ev t' x):(l.map fun p=>(p.1,ev t p.2))=l.map fun p=>(p.1,ev t' p.2):=
 List.map_congr_left fun p hp=>by rw [h p.2 (List.mem_map_of_mem hp)]
theorem opt_congr {t t':Env} {x:Option Operand} (h: ∀y∈x.toArray,ev t y=ev t' y):x.map (ev t)=x.map (ev t'):=by
 cases x with
 | none=>rfl
 | some x=>simp only [Option.map_some];rw [h x (by simp)]
theorem aop_congr (c:Cfg) {op:Op} {t t':Env} (h: ∀x∈op.operands,ev t x=ev t' x) (bs:List Box) (id:Nat):aop c op t bs id=aop c op t' bs id:=by
 cases op <;> simp only [Op.operands] at h
 case move x=>simp only [aop];rw [h x (by simp)]
 case assign x=>simp only [aop];rw [h x (by simp)]
 case pick x y z=>simp only [aop];rw [h x (by simp),h y (by simp),h z (by simp)]
 case box e x=>simp only [aop];rw [h x (by simp)]
 case build ty ps=>simp only [aop];rw [parts_congr (fun x hx=>h x (by simpa using hx))]
 case buildSlice ty n ps=>simp only [aop];rw [parts_congr (fun x hx=>h x (by simpa using hx))]
 case load ty x=>simp only [aop];rw [h x (by simp)]
 case store ty x y=>simp only [aop];rw [h x (by simp),h y (by simp)]
 case nilCheck x=>simp only [aop];rw [h x (by simp)]
 case makeInterface ty x=>simp only [aop];rw [h x (by simp)]
 case binOp o ty x y ty'=>simp only [aop];rw [h x (by simp),h y (by simp)]
 case unOp o ty x=>simp only [aop];rw [h x (by simp)]
 case convert s d x=>simp only [aop];rw [h x (by simp)]
 case makeFunc fn first caps=>
  cases fn <;> first
   | rfl
   | (simp only [aop];rw [evAll_congr (fun x hx=>h x (by simp at hx⊢;exact .inl hx)),evAll_congr (fun x hx=>h x (by simp at hx⊢;exact .inr hx))])
 case makeSlice ty x y=>simp only [aop];rw [h x (by simp),h y (by simp)]
 case slice ty x lo hi mx=>
  have h1:=opt_congr (x:=lo) (fun y hy=>h y (by simp only [Array.mem_append];exact .inl (.inl (.inr hy))))
  have h2:=opt_congr (x:=hi) (fun y hy=>h y (by simp only [Array.mem_append];exact .inl (.inr hy)))
  simp only [aop]
  rw [h x (by simp),h1,h2]
  cases mx with
  | none=>rfl
  | some m=>simp only;rw [h m (by simp)]
 case fieldAddr ty x f=>simp only [aop];rw [h x (by simp)]
 case field ty x f=>simp only [aop];rw [h x (by simp)]
 case indexAddr ty x y=>simp only [aop];rw [h x (by simp),h y (by simp)]
 case index ty x y=>simp only [aop];rw [h x (by simp),h y (by simp)]
 case extract x i=>simp only [aop];rw [h x (by simp)]
 case makeMap ty r=>simp only [aop];rw [opt_congr h]
 case range ty x=>simp only [aop];rw [h x (by simp)]
 case next x str=>simp only [aop];rw [h x (by simp)]
 case lookup ty x k ok=>simp only [aop];rw [h x (by simp),h k (by simp)]
 case mapUpdate ty m k x=>simp only [aop];rw [h m (by simp),h k (by simp),h x (by simp)]
 case insert ty m k x=>simp only [aop];rw [h m (by simp),h k (by simp),h x (by simp)]
 case mapEntry ty m k=>simp only [aop];rw [h m (by simp),h k (by simp)]
 case entryStore ty m s x=>simp only [aop];rw [h m (by simp),h s (by simp),h x (by simp)]
 case entry x=>simp only [aop];rw [h x (by simp)]
 case call k=>
  obtain ⟨callee,args,ts⟩:=k
  simp only [aop]
  rw [evAll_congr (fun x hx=>h x (by simp only [Call.operands,Array.mem_append];exact .inr (by simpa using hx)))]
 all_goals rfl
theorem doOp_congr (c:Cfg) (cf:CallF) {op:Op} {t t':Env} (h: ∀x∈op.operands,ev t x=ev t' x) (bs:List Box) (id:Nat):doOp c cf op t bs id=doOp c cf op t' bs id:=by
 unfold doOp
 split
 ·rename_i k
  obtain ⟨callee,args,ts⟩:=k
  simp only
  cases callee with
  | value f=>
   simp only
   rw [h f (by simp [Op.operands,Call.operands]),evAll_congr (fun x hx=>h x (by simp only [Op.operands,Call.operands,Array.mem_append];exact .inr (by simpa using hx)))]
  | invoke r m=>exact aop_congr c h bs id
  | builtin b=>exact aop_congr c h bs id
 ·exact aop_congr c h bs id
theorem Tr.set_comm {α:Type} (t:Tr α): ∀{i j:Nat} (x y:α),i≠j→(t.set i x).set j y=(t.set j y).set i x:=by
 induction t with
 | lf=>intro i j x y _;rfl
 | nd v l r ihl ihr=>
  intro i j x y h
  cases i with
  | zero=>cases j with
   | zero=>exact absurd rfl h
   | succ j=>rcases Nat.mod_two_eq_zero_or_one j with hj | hj <;> simp only [Tr.set,hj]
  | succ i=>cases j with
   | zero=>rcases Nat.mod_two_eq_zero_or_one i with hi | hi <;> simp only [Tr.set,hi]
   | succ j=>
    rcases Nat.mod_two_eq_zero_or_one i with hi | hi <;> rcases Nat.mod_two_eq_zero_or_one j with hj | hj <;> simp only [Tr.set,hi,hj]
    ·rw [ihl x y (half_ne (by omega) (by omega))]
    ·rw [ihr x y (half_ne (by omega) (by omega))]
theorem ev_put {t:Env} {d:Option Tmp} {v:AV} {x:Operand} (h: ∀i,d=some i→x≠ .tmp i):ev (putA t d v) x=ev t x:=by
 cases d with
 | none=>rfl
 | some d=>
  cases x with
  | tmp i=>exact Tr.get_set_ne _ _ _ (fun e=>h d rfl (by rw [e]))
  | _=>rfl
theorem putA_comm (t:Env) {d d':Option Tmp} (v v':AV) (h: ∀i,d=some i→d'≠some i):putA (putA t d v) d' v'=putA (putA t d' v') d v:=by
 cases d with
 | none=>rfl
 | some d=>
  cases d' with
  | none=>rfl
  | some d'=>exact Tr.set_comm t v v' (fun e=>h d rfl (by rw [e]))
theorem op_apart {c:Cfg} {cf:CallF} {ops:Array Oper} {x y:Oper} (h: ∀d,x.dst=some d→d∉y.looksAt ops) (t:Env) (v:AV) (bs:List Box) (id:Nat):
  doOp c cf y.op (putA t x.dst v) bs id=doOp c cf y.op t bs id∧wantedA ops (putA t x.dst v) y.guard=wantedA ops t y.guard:=by
 refine ⟨doOp_congr c cf (fun z hz=>ev_put (fun i hi e=> ?_)) bs id,?_⟩
 ·refine h i hi ?_
  subst e
  simp only [Oper.looksAt,List.mem_append,List.mem_filterMap]
  exact .inl ⟨.tmp i,by simpa using hz,rfl⟩
 ·unfold wantedA
  cases hg:y.guard with
  | none=>rfl
  | some p=>
   obtain ⟨j,want⟩:=p
   simp only
   cases hd:(ops[j]?).bind (·.dst) with
   | none=>rfl
   | some d=>
    simp only
    have:Tr.get AV.any (putA t x.dst v) d=Tr.get AV.any t d:=by
     cases hx:x.dst with
     | none=>rfl
     | some i=>
      refine Tr.get_set_ne _ _ _ (fun e=>h i hx ?_)
      subst e
      simp only [Oper.looksAt,List.mem_append]
      exact .inr (by simp [hg,hd])
    rw [this]
end Go.Am
