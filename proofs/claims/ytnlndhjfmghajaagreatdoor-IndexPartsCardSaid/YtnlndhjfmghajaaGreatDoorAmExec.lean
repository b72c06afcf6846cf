/- The abstract machine is sound: -/
import Derived.Test.YtnlndhjfmghajaaGreatDoorAmDraw
import Derived.LoopN
set_option linter.all false
namespace Go.Am
variable [Kn]
structure CfgOk (c:Cfg) (P:Program):Prop where
 ty:CfgTy c P
 fn: ∀f fn,c.fn.get none f=some fn→P.funcs[f]?=some fn∧(fn.name== "runtime.NumGoroutine")=false
 mixed:P.follows .mixedOrders=true
 ov:OvAll P c
section
variable {P:Program} {c:Cfg}
theorem cut_mem {g:Gh} {w:World} {s:St} {a:Act} (hm:Mem g s.b w) (ht:TRel g w s.t a) (n:Nat): ∃g',Mem g' (s.cut n).b w∧TRel g' w (s.cut n).t a∧(∀g0 w0 bs0,Mem g0 bs0 w0→bs0.length≤n→Le g0 w0 g w→Le g0 w0 g' w)∧Fr g w g' w:=by
 unfold St.cut
 split
 ·exact ⟨g,hm,ht,fun _ _ _ _ _ h=>h,Fr.refl g w⟩
 ·obtain ⟨m',f'⟩:=hm.hand n
  refine ⟨g.hand s.b n,m',fun i hi=> ?_,fun g0 w0 bs0 hm0 hn hl=> ?_,f'⟩
  ·rw [Tr.has_map] at hi
   obtain ⟨h1,h2⟩:=ht i hi
   refine ⟨h1,?_⟩
   have:(s.t.map (forget n)).get .any i=forget n (s.t.get .any i):=Tr.get_map (forget n) .any s.t i
   rw [this]
   exact h2.hand_forget n
  ·refine ⟨fun b o hs=> .inl (hl.S b o hs),hl.cell,fun k=> ?_⟩
   simp only [Gh.hand]
   split
   ·exact hl.e k
   ·rw [hm0.no k (by simp [Box.at,List.getD_eq_getElem?_getD,List.getElem?_eq_none (by omega:bs0.length≤k)])];exact .no _
def ExIs:Ex→Exit→Prop
 | .normal,.normal=>True
 | .ret,.ret=>True
 | .exit i,.exit j=>i=j
 | _,_=>False
theorem putArgs_rel {g:Gh} {w:World}: ∀(xs:List AV) (vs:List Value) (t:Env) (i:Nat) (a:Act),RdAll g w xs vs→(∀j,t.has j=true→j<a.tmps.size∧(j<i∨i+vs.length≤j→Rd g w (t.get .any j) (a.tmps.getD j undef)))→(∀j v,vs[j]?=some v→a.tmps.getD (i+j) undef=v)→TRel g w (putArgs t i xs) a
 | [],vs,t,i,a,h,ht,_=>by
  cases h
  exact fun j hj=>⟨(ht j hj).1,(ht j hj).2 (by simp;omega)⟩
 | x::xs,vs,t,i,a,h,ht,hv=>by
  cases h with
  | @cons _ v _ vs h h'=>
   simp only [putArgs]
   refine putArgs_rel xs vs (t.set i x) (i+1) a h' (fun j hj=> ?_) (fun j u hu=>by have:=hv (j+1) u (by simpa using hu);rwa [show i+(j+1)=i+1+j by omega] at this)
   rw [Tr.has_set] at hj
   obtain ⟨h1,h2⟩:=ht j hj
   refine ⟨h1,fun hr=> ?_⟩
   by_cases e:i=j
   ·subst e
    rw [Tr.get_set_eq _ _ _ hj]
    have:=hv 0 v rfl
    rw [Nat.add_zero] at this
    rw [this];exact h
   ·rw [Tr.get_set_ne _ _ _ e]
    exact h2 (by simp;omega)
theorem start_rel {g:Gh} {w:World} {xs:List AV} {vs:Array Value} (h:RdAll g w xs vs.toList) (n:Nat):TRel g w (start n xs) {tmps:=vs++Array.replicate (n-vs.size) undef,defers:= []}:=by
 refine putArgs_rel xs vs.toList (Tr.mk .any 24 n) 0 _ h (fun j hj=>⟨?_,fun _=> ?_⟩) (fun j v hv=> ?_)
 ·have:=Tr.has_mk _ _ _ _ hj
  simp;omega
 ·rw [Tr.get_mk];exact .any _
 ·have hlt:=getElem?_lt hv
  simp only [Array.length_toList] at hlt
  rw [Nat.zero_add,Array.getD_eq_getD_getElem?,Array.getElem?_append_left hlt]
  simp at hv
  simp [hv]
theorem rounds_mono {x:Code} {Q Q':Exit→Act→World→Prop} (hq: ∀e a w,Q e a w→Q' e a w): ∀(n:Nat) (a:Act) (w:World),Code.rounds P x Q n a w→Code.rounds P x Q' n a w
 | 0,_,_,h=>h.elim
 | n+1,a,w,h=>by
  rw [rounds_succ] at h⊢
  refine Code.wp_mono ?_ h
  intro e a' w' hp
  cases e with
  | normal=>exact rounds_mono hq n a' w' hp
  | exit i=>exact hq _ _ _ hp
  | goto l=>exact hq _ _ _ hp
  | ret=>exact hq _ _ _ hp
  | panic ch=>exact hq _ _ _ hp
  | outgrown=>exact hq _ _ _ hp
end
end Go.Am
