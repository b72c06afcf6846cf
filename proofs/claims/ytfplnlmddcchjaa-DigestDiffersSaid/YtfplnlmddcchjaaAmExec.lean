/-
  The abstract machine is sound: what its evaluator returns for a function and arguments, the function returns in the model, in every memory, and nothing that was there is turned.
-/
import Derived.Test.YtfplnlmddcchjaaAmDraw
import Derived.LoopN
namespace Go.Am

/-- the machine's tables are the program's -/
structure CfgOk (c : Cfg) (P : Program) : Prop where
  ty : CfgTy c P
  fn : ∀ f fn, c.fn.get none f = some fn → P.funcs[f]? = some fn ∧ (fn.name == "runtime.NumGoroutine") = false
  mixed : P.follows .mixedOrders = true
  ov : OvAll P c

section
variable {P : Program} {c : Cfg}

theorem cut_mem {g : Gh} {w : World} {s : St} {a : Act} (hm : Mem g s.b w) (ht : TRel g w s.t a) (n : Nat) : ∃ g', Mem g' (s.cut n).b w ∧ TRel g' w (s.cut n).t a ∧ (∀ g0 w0 bs0, Mem g0 bs0 w0 → bs0.length ≤ n → Le g0 w0 g w → Le g0 w0 g' w) ∧ Fr g w g' w := by
  unfold St.cut
  split
  · exact ⟨g, hm, ht, fun _ _ _ _ _ h => h, Fr.refl g w⟩
  · obtain ⟨m', f'⟩ := hm.hand n
    refine ⟨g.hand s.b n, m', fun i hi => ?_, fun g0 w0 bs0 hm0 hn hl => ?_, f'⟩
    · rw [Tr.has_map] at hi
      obtain ⟨h1, h2⟩ := ht i hi
      refine ⟨h1, ?_⟩
      have : (s.t.map (forget n)).get .any i = forget n (s.t.get .any i) := Tr.get_map (forget n) .any s.t i
      rw [this]
      exact h2.hand_forget n
    · refine ⟨fun b o hs => .inl (hl.S b o hs), hl.cell, fun k => ?_⟩
      simp only [Gh.hand]
      split
      · exact hl.e k
      · rw [hm0.no k (by simp [Box.at, List.getD_eq_getElem?_getD, List.getElem?_eq_none (by omega : bs0.length ≤ k)])]; exact .no _

/-- how a piece of code has ended -/
def ExIs : Ex → Exit → Prop
  | .normal, .normal => True
  | .ret, .ret => True
  | .exit i, .exit j => i = j
  | _, _ => False

theorem putArgs_rel {g : Gh} {w : World} : ∀ (xs : List AV) (vs : List Value) (t : Env) (i : Nat) (a : Act), RdAll g w xs vs → (∀ j, t.has j = true → j < a.tmps.size ∧ (j < i ∨ i + vs.length ≤ j → Rd g w (t.get .any j) (a.tmps.getD j undef))) → (∀ j v, vs[j]? = some v → a.tmps.getD (i + j) undef = v) → TRel g w (putArgs t i xs) a
  | [], vs, t, i, a, h, ht, _ => by
    cases h
    exact fun j hj => ⟨(ht j hj).1, (ht j hj).2 (by simp; omega)⟩
  | x :: xs, vs, t, i, a, h, ht, hv => by
    cases h with
    | @cons _ v _ vs h h' =>
      simp only [putArgs]
      refine putArgs_rel xs vs (t.set i x) (i + 1) a h' (fun j hj => ?_) (fun j u hu => by have := hv (j + 1) u (by simpa using hu); rwa [show i + (j + 1) = i + 1 + j by omega] at this)
      rw [Tr.has_set] at hj
      obtain ⟨h1, h2⟩ := ht j hj
      refine ⟨h1, fun hr => ?_⟩
      by_cases e : i = j
      · subst e
        rw [Tr.get_set_eq _ _ _ hj]
        have := hv 0 v rfl
        rw [Nat.add_zero] at this
        rw [this]; exact h
      · rw [Tr.get_set_ne _ _ _ e]
        exact h2 (by simp; omega)

theorem start_rel {g : Gh} {w : World} {xs : List AV} {vs : Array Value} (h : RdAll g w xs vs.toList) (n : Nat) : TRel g w (start n xs) { tmps := vs ++ Array.replicate (n - vs.size) undef, defers := [] } := by
  refine putArgs_rel xs vs.toList (Tr.mk .any 24 n) 0 _ h (fun j hj => ⟨?_, fun _ => ?_⟩) (fun j v hv => ?_)
  · have := Tr.has_mk _ _ _ _ hj
    simp; omega
  · rw [Tr.get_mk]; exact .any _
  · have hlt := getElem?_lt hv
    simp only [Array.length_toList] at hlt
    rw [Nat.zero_add, Array.getD_eq_getD_getElem?, Array.getElem?_append_left hlt]
    simp at hv
    simp [hv]

theorem rounds_mono {x : Code} {Q Q' : Exit → Act → World → Prop} (hq : ∀ e a w, Q e a w → Q' e a w) : ∀ (n : Nat) (a : Act) (w : World), Code.rounds P x Q n a w → Code.rounds P x Q' n a w
  | 0, _, _, h => h.elim
  | n + 1, a, w, h => by
    rw [rounds_succ] at h ⊢
    refine Code.wp_mono ?_ h
    intro e a' w' hp
    cases e with
    | normal => exact rounds_mono hq n a' w' hp
    | exit i => exact hq _ _ _ hp
    | goto l => exact hq _ _ _ hp
    | ret => exact hq _ _ _ hp
    | panic ch => exact hq _ _ _ hp
    | outgrown => exact hq _ _ _ hp

theorem exec_sound (hc : CfgOk c P) : ∀ (n : Nat), CfOk P (callBody c (exec c n)) ∧
    ∀ (code : Code) (s : St) (ex : Ex) (s' : St) (g : Gh) (a : Act) (w : World), exec c n code s = some (ex, s') → Mem g s.b w → TRel g w s.t a → a.defers = [] → code.wp P (fun e a' w' => ExIs ex e ∧ SPost g w s' a' w') a w := by
  intro n
  have calls : ∀ m, (∀ (code : Code) (s : St) (ex : Ex) (s' : St) (g : Gh) (a : Act) (w : World), exec c m code s = some (ex, s') → Mem g s.b w → TRel g w s.t a → a.defers = [] → code.wp P (fun e a' w' => ExIs ex e ∧ SPost g w s' a' w') a w) → CfOk P (callBody c (exec c m)) := by
    intro m hex f xs bs r bs' h
    unfold callBody at h
    split at h
    · rename_i fn hfn
      obtain ⟨hf1, hf2⟩ := hc.fn f fn hfn
      split at h
      · rename_i body hb
        refine ⟨⟨fn, hf1, hf2, by rw [hb]; rfl⟩, fun g w vs hm hx => ?_⟩
        have ends : ∀ (ex : Ex) (s' : St), exec c m body { t := start fn.ntmps xs, b := bs } = some (ex, s') → (ex = .normal ∨ ex = .ret) → (∃ rs, resultsA c s'.t s'.b fn.results.toList = some rs ∧ handOver bs.length s' (oneOr rs) = some (r, bs')) → Calls P f vs w (CPost g w bs' r) := by
          intro ex s' he hex' hres
          obtain ⟨rs, hrs, hho⟩ := hres
          refine calls_of_wp hf1 hb (Code.wp_mono ?_ (hex body _ ex s' g _ w he hm (start_rel hx fn.ntmps) rfl))
          intro e a' w' hpost
          obtain ⟨hexi, hd, g', hm', ht', hl', hf'⟩ := hpost
          obtain ⟨v, hv, rv⟩ := oneOr_run (P := P) hc.ty hm' ht' hrs
          obtain ⟨g'', k1, k2, k3, k4⟩ := handOver_run hm hm' hl' hf' rv hho
          rcases hex' with rfl | rfl
          · cases e <;> simp only [ExIs] at hexi
            exact ⟨hd, v, hv, v, g'', rfl, k1, k2, k3, k4⟩
          · cases e <;> simp only [ExIs] at hexi
            exact ⟨hd, v, hv, v, g'', rfl, k1, k2, k3, k4⟩
        unfold endCall at h
        split at h
        · rename_i s' he
          split at h
          · rename_i rs hrs; exact ends .normal s' he (.inl rfl) ⟨rs, hrs, h⟩
          · cases h
        · rename_i s' he
          split at h
          · rename_i rs hrs; exact ends .ret s' he (.inr rfl) ⟨rs, hrs, h⟩
          · cases h
        · cases h
      · cases h
    · cases h
  have code : ∀ m, (∀ (code : Code) (s : St) (ex : Ex) (s' : St) (g : Gh) (a : Act) (w : World), exec c m code s = some (ex, s') → Mem g s.b w → TRel g w s.t a → a.defers = [] → code.wp P (fun e a' w' => ExIs ex e ∧ SPost g w s' a' w') a w) ∧
      ∀ (x : Code) (s : St) (ex : Ex) (s' : St) (g : Gh) (a : Act) (w : World), exec c m (.loop x) s = some (ex, s') → Mem g s.b w → TRel g w s.t a → a.defers = [] → Code.rounds P x (fun e a' w' => ExIs ex e ∧ SPost g w s' a' w') m a w := by
    intro m
    induction m with
    | zero => exact ⟨(fun code s ex s' g a w h => by cases h), (fun x s ex s' g a w h => by cases h)⟩
    | succ m ih' =>
      have ih := ih'.1
      have loops : ∀ (x : Code) (s : St) (ex : Ex) (s' : St) (g : Gh) (a : Act) (w : World), exec c (m + 1) (.loop x) s = some (ex, s') → Mem g s.b w → TRel g w s.t a → a.defers = [] → Code.rounds P x (fun e a' w' => ExIs ex e ∧ SPost g w s' a' w') (m + 1) a w := by
        intro x s ex s' g a w h hm ht hd
        rw [rounds_succ]
        simp only [exec] at h
        cases hx : exec c m x s with
        | none => rw [hx] at h; cases h
        | some p =>
          obtain ⟨ex1, s1⟩ := p
          have h1 := ih x s ex1 s1 g a w hx hm ht hd
          rw [hx] at h
          cases ex1 with
          | normal =>
            simp only [thenX] at h
            refine Code.wp_mono ?_ h1
            intro e a' w' ⟨he, hd', g', hm', ht', hl', hf'⟩
            cases e <;> simp only [ExIs] at he
            obtain ⟨g2, hm2, ht2, hl2, hf2⟩ := cut_mem hm' ht' s.b.length
            refine rounds_mono ?_ m a' w' (ih'.2 x (s1.cut s.b.length) ex s' g2 a' w' h hm2 ht2 hd')
            intro e a3 w3 ⟨he3, hd3, g3, hm3, ht3, hl3, hf3⟩
            exact ⟨he3, hd3, g3, hm3, ht3, (hl2 g w s.b hm (Nat.le_refl _) hl').trans hl3, (hf'.trans hf2).trans hf3⟩
          | ret =>
            cases h
            refine Code.wp_mono ?_ h1
            intro e a' w' hp
            have he := hp.1
            cases e <;> simp only [ExIs] at he
            exact hp
          | exit id =>
            cases h
            refine Code.wp_mono ?_ h1
            intro e a' w' hp
            have he := hp.1
            cases e <;> simp only [ExIs] at he
            exact hp
      refine ⟨?_, loops⟩
      intro code s ex s' g a w h hm ht hd
      have hcf := calls m ih
      cases code with
      | skip => cases h; exact wp_skip ⟨trivial, hd, g, hm, ht, Le.refl g w, Fr.refl g w⟩
      | label l => cases h; exact wp_label ⟨trivial, hd, g, hm, ht, Le.refl g w, Fr.refl g w⟩
      | ret => cases h; exact wp_ret ⟨trivial, hd, g, hm, ht, Le.refl g w, Fr.refl g w⟩
      | exit id => cases h; exact wp_exit ⟨rfl, hd, g, hm, ht, Le.refl g w, Fr.refl g w⟩
      | seq x y =>
        simp only [exec] at h
        refine wp_seq ?_
        cases hx : exec c m x s with
        | none => rw [hx] at h; cases h
        | some p =>
          obtain ⟨ex1, s1⟩ := p
          have h1 := ih x s ex1 s1 g a w hx hm ht hd
          rw [hx] at h
          cases ex1 with
          | normal =>
            simp only [thenX] at h
            refine Code.wp_mono ?_ h1
            intro e a' w' ⟨he, hd', g', hm', ht', hl', hf'⟩
            cases e <;> simp only [ExIs] at he
            refine Code.wp_mono ?_ (ih y s1 ex s' g' a' w' h hm' ht' hd')
            intro e a2 w2 ⟨he2, hd2, g2, hm2, ht2, hl2, hf2⟩
            exact ⟨he2, hd2, g2, hm2, ht2, hl'.trans hl2, hf'.trans hf2⟩
          | ret =>
            cases h
            refine Code.wp_mono ?_ h1
            intro e a' w' hp
            have he := hp.1
            cases e <;> simp only [ExIs] at he
            exact hp
          | exit id =>
            cases h
            refine Code.wp_mono ?_ h1
            intro e a' w' hp
            have he := hp.1
            cases e <;> simp only [ExIs] at he
            exact hp
      | cond x y z =>
        simp only [exec, condX] at h
        have hr := ht.ev x
        split at h
        · rename_i hv
          rw [hv] at hr
          exact wp_cond_true hr.bool_inv (ih y s ex s' g a w h hm ht hd)
        · rename_i hv
          rw [hv] at hr
          exact wp_cond_false hr.bool_inv (ih z s ex s' g a w h hm ht hd)
        · cases h
      | block id x =>
        simp only [exec] at h
        refine wp_block ?_
        cases hx : exec c m x s with
        | none => rw [hx] at h; cases h
        | some p =>
          obtain ⟨ex1, s1⟩ := p
          have h1 := ih x s ex1 s1 g a w hx hm ht hd
          rw [hx] at h
          refine Code.wp_mono ?_ h1
          intro e a' w' hp
          have he := hp.1
          cases ex1 with
          | normal => cases h; cases e <;> simp only [ExIs] at he; exact hp
          | ret => cases h; cases e <;> simp only [ExIs] at he; exact hp
          | exit i =>
            simp only [blockX] at h
            cases e <;> simp only [ExIs] at he
            subst he
            simp only [Exit.inBlock]
            split at h
            · rename_i hid
              cases h
              rw [if_pos hid]
              exact ⟨trivial, hp.2⟩
            · rename_i hid
              cases h
              rw [if_neg hid]
              exact hp
      | loop x => exact wp_loop_rounds (m + 1) (loops x s ex s' g a w h hm ht hd)
      | region id ops draw =>
        simp only [exec] at h
        cases hr : region c (callBody c (exec c m)) ops draw s with
        | none => rw [hr] at h; cases h
        | some s1 =>
          rw [hr] at h
          cases h
          unfold region at hr
          cases draw with
          | false =>
            exact wp_region_list (runOps_wp hc.ty hcf hc.ov (g0 := g) (w0 := w) (fun a' w' hp => ⟨trivial, hp⟩) ops.toList _ _ _ g w a hr (hm.pad _) ht hd (Le.refl g w) (Fr.refl g w))
          | true =>
            simp only at hr
            split at hr
            · rename_i hdr
              rw [steps_of_run ops.toList 0 _ (fun j => by simp)] at hr
              have hl : Le g w g w.drew := ⟨fun _ _ h => h, fun _ _ _ => rfl, fun _ => .same _⟩
              have hf : Fr g w g w.drew := ⟨Nat.le_refl _, fun _ _ h => ⟨rfl, h, fun _ h => h⟩, rfl, rfl, rfl⟩
              have hmd : Mem g (s.b ++ List.replicate (askCount ops.toList) .dead) w.drew := ⟨(hm.pad _).no, fun k ty cs hk => by
                  obtain ⟨b, h1, h2⟩ := (hm.pad _).var k ty cs hk
                  exact ⟨b, h1, h2.mono hl rfl⟩, fun k sh sz es hk => by
                  obtain ⟨loc, h1, h2⟩ := (hm.pad _).sl k sh sz es hk
                  exact ⟨loc, h1, h2.mono hl (fun _ _ => rfl)⟩, hm.inj, (hm.pad _).stab⟩
              refine wp_region_any hc.mixed (draw_any hc.ty hcf hc.ov hdr (g0 := g) (w0 := w) (fun a' w' hp => ⟨trivial, hp⟩) ops.size (List.range' 0 ops.toList.length) (Array.replicate ops.size false) _ g w.drew a (by simp) (List.pairwise_lt_range') (by simp) (fun j => ?_) (fun j x hj hlj => ?_) hr hmd (ht.mono hl) hd hl hf)
              · simp only [List.mem_range'_1, Array.length_toList]
                constructor
                · intro hj; exact ⟨by omega, by simp [show j < ops.size by omega]⟩
                · intro hj; omega
              · simp [hj] at hlj
            · cases hr
      | rangeFunc f ps as b => cases h
      | scope b => cases h
      | goto l => cases h
      | refuse why => cases h
  exact ⟨calls n (code n).1, (code n).1⟩
end
end Go.Am
