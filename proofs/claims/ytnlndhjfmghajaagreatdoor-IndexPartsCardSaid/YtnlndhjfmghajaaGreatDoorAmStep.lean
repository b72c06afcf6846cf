/- One operation of the abstract machine, calls among them, as a step of the model. -/
import Derived.Test.YtnlndhjfmghajaaGreatDoorAmCall2
import Derived.Tactics
import Derived.TacticsIn
import Derived.OrdersIn
import Derived.LoopNIn
set_option linter.all false
namespace Go.Am
variable [Kn]
def FW (ro:Option Nat):Fence:={Fence.wide with round:=ro}
theorem callsIn_FW {ro:Option Nat} {n:Nat} {P:Program} {f:FuncId} {args:Array Value} {w:World} {R:Ending→World→Prop} (h:Calls P f args w R):CallsIn (FW ro) n P f args w R:=
 (callsIn_wide (n:=n)).2 h
theorem roundIn_FW {ro:Option Nat} {n:Nat} {P:Program} {l:Nat} {f:FuncId} {tmps:Array Value} {assign body:Code} {w:World} {R:Ending→World→Prop} (h:RoundIn Fence.wide 0 P l f tmps assign body w R):RoundIn (FW ro) n P l f tmps assign body w R:=
 ⟨trivial,fun c cs _=>h.2 c cs (room_wide _)⟩
section
variable {P:Program} {g:Gh} {bs:List Box} {w:World}
theorem RdAll.append {xs ys:List AV} {us vs:List Value} (h:RdAll g w xs us) (k:RdAll g w ys vs):RdAll g w (xs++ys) (us++vs):=by
 induction h with
 | nil=>exact k
 | cons h _ ih=>exact .cons h ih
theorem RdAll.of_get: ∀{xs:List AV} {vs:List Value},xs.length=vs.length→(∀(i:Nat) (x:AV) (v:Value),xs[i]?=some x→vs[i]?=some v→Rd g w x v)→RdAll g w xs vs
 | [], [],_,_=> .nil
 | [],_::_,h,_=>by simp at h
 | _::_, [],h,_=>by simp at h
 | x::xs,v::vs,h,k=> .cons (k 0 x v rfl rfl) (RdAll.of_get (by simpa using h) (fun i x v hx hv=>k (i+1) x v (by simpa using hx) (by simpa using hv)))
theorem enter_run {f:FuncId} (h:Enters P f) (args:Array Value) (w:World):(callFunc f args).run P w= .ok (.enter f args) w:=by
 obtain ⟨fn,h1,h2,h3⟩:=h
 simp only [callFunc,Sem.run_bind,run_program,Result.andThen_ok,h1,h2,h3]
 rfl
theorem doOp_wp {c:Cfg} (hc:CfgTy c P) {cf:CallF} (hcf:CfOk P cf) (hov:OvAll P c) (hm:Mem g bs w) {t:Env} {a:Act} (ht:TRel g w t a) {o:Oper} {r:AV} {e:Eff} {id:Nat}
  (h:doOp c cf o.op t bs id=some (r,e)) {bs':List Box} (he:e.on bs id=some bs') {K:Act→World→Prop} {Q:Exit→Act→World→Prop}
  (hK: ∀v w' g',Mem g' bs' w'→Le g w g' w'→Fr g w g' w'→Rd g' w' r v→K (a.put o.dst v) w') (ro:Option Nat):o.wpIn (FW ro) 0 P a w K Q:=by
 have hnd: ∀x,o.op≠ .defer x:=fun x hx=>by rw [hx] at h;simp [doOp,aop] at h
 refine ⟨fun _ _=>trivial,?_⟩
 rw [Oper.semAt_eq _ _ _ hnd]
 have plain:aop c o.op t bs id=some (r,e)→o.uponIn (FW ro) 0 P a K Q ((execOp a.eval o).run P w):=fun h1=>by
  obtain ⟨nx,v,w',g',h2,h3,h4,h5,h6,h7⟩:=aop_sound (P:=P) hc hm ht (o:=o) h1 he
  rw [h2]
  rcases h3 with rfl | ⟨rfl,rfl⟩
  ·exact hK v w' g' h4 h5 h6 h7
  ·exact hK undef w' g' h4 h5 h6 h7
 obtain ⟨dst,op,type,pos,after,guard⟩:=o
 unfold doOp at h
 simp only at h plain hK⊢
 split at h
 ·rename_i k
  split at h
  ·rename_i f hf
   split at h
   ·rename_i fid first caps hev
    obtain ⟨callee,args,argTypes⟩:=k
    simp only at hf
    subst hf
    have hfv:=ht.ev f
    rw [hev] at hfv
    generalize hfu:a.eval f=fu at hfv
    cases hfv with
    | fn _ _ _ vs us hn hm' h1 h2=>
     have hra:RdAll g w (first++evAll t args.toList++caps) (vs++args.map a.eval++us).toList:=by
      simp only [Array.toList_append]
      refine ((RdAll.of_get (by simpa using hn.symm) (fun i x v hx hv=>h1 i x v hx (by simpa using hv))).append ?_).append (RdAll.of_get (by simpa using hm'.symm) (fun i x v hx hv=>h2 i x v hx (by simpa using hv)))
      simpa using RdAll.of_ev ht args.toList
     split at h
     ·rename_i G hG
      split at h
      ·rename_i v hv
       cases h;cases he
       obtain ⟨z,h5,h6⟩:=hov.ext fid G hG _ _ hv g w (vs++args.map a.eval++us) hra
       have hrun:(execOp a.eval ⟨dst,.call ⟨.value f,args,argTypes⟩,type,pos,after,guard⟩).run P w= .ok (.value z) w:=by
        simp only [execOp,resolve,hfu,Deferred.ofValue,Sem.run_bind,Sem.run_pure,Result.andThen_ok,invoke]
        exact h5
       rw [hrun]
       exact hK z w g hm (Le.refl g w) (Fr.refl g w) h6
      ·cases h
     obtain ⟨h3,h4⟩:=callA_sound hcf hov hm (vs:=vs++args.map a.eval++us) hra h he
     have hrun:(execOp a.eval ⟨dst,.call ⟨.value f,args,argTypes⟩,type,pos,after,guard⟩).run P w= .ok (.enter fid (vs++args.map a.eval++us)) w:=by
      simp only [execOp,resolve,hfu,Deferred.ofValue,Sem.run_bind,Sem.run_pure,Result.andThen_ok,invoke]
      exact enter_run h3 _ w
     rw [hrun]
     refine ⟨fun h=>(by cases h),callsIn_FW (h4.mono fun en w' hp=> ?_)⟩
     obtain ⟨v,g',rfl,k1,k2,k3,k4⟩:=hp
     exact hK v w' g' k1 k2 k3 k4
   ·rename_i l s env hev
    obtain ⟨callee,args,argTypes⟩:=k
    simp only at hf
    subst hf
    have hfv:=ht.ev f
    rw [hev] at hfv
    split at h
    ·rename_i v1 bs1 hcall
     cases h;cases he
     have hra:RdAll g w (evAll t args.toList) (args.map a.eval).toList:=by simpa using RdAll.of_ev ht args.toList
     obtain ⟨b,fn,tmps,asg,body,hv,hy,hR⟩:=hcf.yld l s env _ bs _ _ hcall g w _ (args.map a.eval) hm hfv hra
     have hrun:(execOp a.eval ⟨dst,.call ⟨.value f,args,argTypes⟩,type,pos,after,guard⟩).run P w= .ok (.round b fn tmps asg body) w:=by
      simp only [execOp,resolve,hv,Deferred.ofValue,Sem.run_bind,Sem.run_pure,Result.andThen_ok,invoke]
      simpa using hy
     rw [hrun]
     refine ⟨fun h=>(by cases h),roundIn_FW (hR.mono fun en w' hp=> ?_)⟩
     obtain ⟨v,g',rfl,k1,k2,k3,k4⟩:=hp
     exact hK v w' g' k1 k2 k3 k4
    ·cases h
   ·cases h
  ·exact plain h
 ·exact plain h
theorem wanted_run {ops:Array Oper} {t:Env} {a:Act} (ht:TRel g w t a) {o:Oper} {b:Bool} (h:wantedA ops t o.guard=some b):Region.wanted o (yielded ops a.tmps)=b:=by
 unfold wantedA at h
 unfold Region.wanted
 split at h
 ·rename_i hg;rw [hg];cases h;rfl
 ·rename_i j want hg
  rw [hg]
  simp only [yielded]
  split at h
  ·rename_i hd;rw [hd];cases h;rfl
  ·rename_i d hd
   rw [hd]
   simp only [Option.bind_some]
   have hr:=ht.get d
   split at h
   ·rename_i x hx
    rw [hx] at hr
    have hb:=hr.bool_inv
    cases h
    have hlt:d<a.tmps.size:=by
     rcases Nat.lt_or_ge d a.tmps.size with h' | h'
     ·exact h'
     ·simp [Array.getElem?_eq_none h',undef] at hb
    have hget:a.tmps[d]?=some (.bool x):=by
     simp [hlt] at hb⊢
     exact hb
    rw [hget]
    cases x <;> cases want <;> rfl
   ·rename_i vs hx
    rw [hx] at hr
    obtain ⟨us,hu,_⟩:=hr.tup_inv
    cases h
    cases hg2:a.tmps[d]? with
    | none=>rfl
    | some z=>
     have:z= .tuple us:=by
      have:=hu
      simp [Array.getD_eq_getD_getElem?,hg2] at this
      exact this
     rw [this]
     rfl
   ·cases h
theorem at_pad (bs:List Box) (n k:Nat):Box.at (bs++List.replicate n .dead) k=Box.at bs k:=by
 simp only [Box.at,List.getD_eq_getElem?_getD,List.getElem?_append]
 split
 ·rfl
 ·rename_i h
  rw [List.getElem?_eq_none (by omega:bs.length≤k),List.getElem?_replicate]
  split <;> rfl
theorem Mem.pad (hm:Mem g bs w) (n:Nat):Mem g (bs++List.replicate n .dead) w:=
 ⟨fun k hk=>hm.no k (by rwa [at_pad] at hk),fun k ty cs hk=>hm.var k ty cs (by rwa [at_pad] at hk),fun k sh sz es hk=>hm.sl k sh sz es (by rwa [at_pad] at hk),fun k st hk=>hm.loop k st (by rwa [at_pad] at hk),fun k es clock hk=>hm.mp k es clock (by rwa [at_pad] at hk),fun k hk=>hm.gone k (by rwa [at_pad] at hk),fun k o hk=>hm.it k o (by rwa [at_pad] at hk),hm.inj,fun b o hs=>by
  obtain ⟨h1,h2⟩:=hm.stab b o hs
  exact ⟨h1,fun k hk=>by obtain ⟨ty,sz,es,h3,h4⟩:=h2 k hk;exact ⟨ty,sz,es,by rw [at_pad];exact h3,h4⟩⟩,hm.kn⟩
def SPost (ds:List Deferred) (g:Gh) (w:World) (s':St) (a':Act) (w':World):Prop:=a'.defers=ds∧ ∃g',Mem g' s'.b w'∧TRel g' w' s'.t a'∧Le g w g' w'∧Fr g w g' w'
theorem put_defers (a:Act) (d:Option Tmp) (v:Value):(a.put d v).defers=a.defers:=by cases d <;> rfl
theorem runOps_wp {c:Cfg} (hc:CfgTy c P) {cf:CallF} (hcf:CfOk P cf) (hov:OvAll P c) {ops:Array Oper} {Q:Exit→Act→World→Prop} {s':St} {g0:Gh} {w0:World} {ds:List Deferred} {ro:Option Nat}
  (hQ: ∀a' w',SPost ds g0 w0 s' a' w'→Q .normal a' w'):
  ∀(l:List Oper) (id:Nat) (t:Env) (bs:List Box) (g:Gh) (w:World) (a:Act),runOps c cf ops l id t bs=some s'→Mem g bs w→TRel g w t a→a.defers=ds→Le g0 w0 g w→Fr g0 w0 g w→wpListIn (FW ro) 0 P ops Q l a w
 | [],id,t,bs,g,w,a,h,hm,ht,hd,hl,hf=>by
  cases h
  exact hQ a w ⟨hd,g,hm,ht,hl,hf⟩
 | o::r,id,t,bs,g,w,a,h,hm,ht,hd,hl,hf=>by
  simp only [runOps] at h
  unfold wpListIn
  split at h
  ·rename_i hw
   rw [wanted_run ht hw,if_pos rfl]
   split at h
   ·rename_i v e hop
    split at h
    ·rename_i bs' he
     refine doOp_wp hc hcf hov hm ht hop he (fun v' w' g' k1 k2 k3 k4=> ?_) ro
     exact runOps_wp hc hcf hov hQ r _ _ _ g' w' _ h k1 ((ht.mono k2).put o.dst k4) (by rw [put_defers];exact hd) (hl.trans k2) (hf.trans k3)
    ·cases h
   ·cases h
  ·rename_i hw
   rw [wanted_run ht hw,if_neg (by simp)]
   refine ⟨fun _ _=>trivial,?_⟩
   exact runOps_wp hc hcf hov hQ r _ _ _ g w _ h hm (ht.put o.dst (.tup [] #[] rfl (fun i c v h=>by simp at h))) (by rw [put_defers];exact hd) hl hf
  ·cases h
end
end Go.Am
