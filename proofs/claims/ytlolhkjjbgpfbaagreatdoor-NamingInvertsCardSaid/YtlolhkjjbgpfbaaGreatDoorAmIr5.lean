/-
  The plainer form of a region is sound: the operations one by one.
-/
import Derived.Test.YtlolhkjjbgpfbaaGreatDoorAmIr4
set_option linter.all false
namespace Go.Am

section
variable {c : Cfg} {cf : CallF} {ops : Array Oper}

/-- one operation in the order of the text -/
def step1 (c : Cfg) (cf : CallF) (ops : Array Oper) (id : Nat) (o : Oper) (s : St) : Option St :=
  match wantedA ops s.t o.guard with
  | some true => match doOp c cf o.op s.t s.b id with
    | some (v, e) => match e.on s.b id with
      | some bs' => some { t := putA s.t o.dst v, b := bs' }
      | .none => .none
    | .none => .none
  | some false => some { t := putA s.t o.dst (.tup []), b := s.b }
  | .none => .none

def stepU (c : Cfg) (cf : CallF) (ops : Array Oper) (dr : Bool) (base i : Nat) (o : Oper) (s : St) : Option St :=
  match dr with
  | true => stepO c cf ops base i o s
  | false => step1 c cf ops (idOf ops.toList i base) o s

def runU (c : Cfg) (cf : CallF) (ops : Array Oper) (dr : Bool) (base : Nat) : List Oper → Nat → St → Option St
  | [], _, s => some s
  | o :: r, i, s => match stepU c cf ops dr base i o s with
    | some s' => runU c cf ops dr base r (i + 1) s'
    | .none => .none

theorem runD_U (base : Nat) : ∀ (l : List Oper) (i : Nat) (s : St), runD c cf ops base l i s = runU c cf ops true base l i s
  | [], _, _ => rfl
  | o :: r, i, s => by
    simp only [runD, runU, stepU]
    cases stepO c cf ops base i o s with
    | none => rfl
    | some s' => exact runD_U base r _ _

theorem idOf_succ : ∀ (l : List Oper) (i base : Nat) (o : Oper), l[i]? = some o → idOf l (i + 1) base = next (idOf l i base) o.op
  | [], i, base, o, h => by simp at h
  | p :: r, 0, base, o, h => by
    simp at h; subst h
    cases r <;> rfl
  | p :: r, i + 1, base, o, h => by
    simp at h
    simp only [idOf]
    exact idOf_succ r i _ o h

theorem next_add (b k : Nat) (op : Op) : next (b + k) op = b + next k op := by unfold next; split <;> omega

theorem idOf_add (b : Nat) : ∀ (l : List Oper) (i k : Nat), idOf l i (b + k) = b + idOf l i k
  | _, 0, _ => by cases ‹List Oper› <;> rfl
  | [], _ + 1, _ => rfl
  | o :: r, i + 1, k => by simp only [idOf]; rw [next_add]; exact idOf_add b r i _

theorem maskIds_add (bf : List Nat) (i b : Nat) : ∀ (l : List Oper) (j k : Nat), maskIds bf i l j (b + k) = (maskIds bf i l j k).map (b + ·)
  | [], _, _ => rfl
  | o :: r, j, k => by
    simp only [maskIds]
    split <;> simp only [next_add, maskIds_add bf i b r, List.map_cons]

theorem runOps_U (base : Nat) : ∀ (l : List Oper) (i : Nat) (t : Env) (bs : List Box), (∀ j, l[j]? = ops.toList[i + j]?) → runOps c cf ops l (idOf ops.toList i base) t bs = runU c cf ops false base l i ⟨t, bs⟩
  | [], _, _, _, _ => rfl
  | o :: r, i, t, bs, h => by
    have ho : ops.toList[i]? = some o := by have := h 0; rw [Nat.add_zero] at this; rw [← this]; rfl
    have hr : ∀ j, r[j]? = ops.toList[i + 1 + j]? := fun j => by rw [show i + 1 + j = i + (j + 1) by omega, ← h (j + 1)]; rfl
    simp only [runOps, runU, stepU, step1]
    rw [← idOf_succ _ _ _ _ ho]
    cases wantedA ops t o.guard with
    | none => rfl
    | some b => cases b with
      | false => exact runOps_U base r _ _ _ hr
      | true =>
        simp only
        cases doOp c cf o.op t bs (idOf ops.toList i base) with
        | none => rfl
        | some p =>
          obtain ⟨v, e⟩ := p
          simp only
          cases e.on bs (idOf ops.toList i base) with
          | none => rfl
          | some bs' => exact runOps_U base r _ _ _ hr

theorem killAll_mono {L M : List Nat} (h : ∀ x ∈ M, x ∈ L) (bs : List Box) : Sub (killAll L bs) (killAll M bs) := fun k hk => by
  simp only [Box.at, List.getD_eq_getElem?_getD] at hk ⊢
  rw [killAll_get] at hk
  rw [killAll_get, killAll_get]
  by_cases h1 : k ∈ L ∧ k < bs.length
  · rw [if_pos h1] at hk; simp at hk
  · rw [if_neg h1, if_neg (fun h2 => h1 ⟨h _ h2.1, h2.2⟩)]

variable {base : Nat} {kl : List Nat} {keep : List Nat} {nt : Nat} {env : List (Option AV)} {bs : List Box} {σ : List (Nat × E)} {t : Env}

/-- what a guard says -/
theorem RelE.want (h : RelE c keep nt env bs σ t) {g : Option (Nat × Bool)} {x : E} {w : Bool} (hg : guardOf ops keep σ g = some (some (x, w))) {u : AV} (hu : evE c env bs x = some u) : wantedA ops t g = wantV (some u) w := by
  unfold guardOf at hg
  split at hg
  · cases hg
  · split at hg
    · cases hg
    · rename_i d hd
      split at hg
      · rename_i e he
        cases hg
        simp only [wantedA, hd]
        rw [h.res he hu]
        simp only [wantV]
        cases u <;> rfl
      · cases hg

theorem want_none {g : Option (Nat × Bool)} (hg : guardOf ops keep σ g = some none) : wantedA ops t g = some true := by
  unfold guardOf at hg
  split at hg
  · rfl
  · split at hg
    · cases hg
    · split at hg <;> cases hg

theorem has_put (hs : ∀ i, i < nt → t.has i = true) (d : Option Nat) (v : AV) : ∀ i, i < nt → (putA t d v).has i = true := fun i hi => by
  cases d with
  | none => exact hs i hi
  | some j => simp only [putA]; rw [Tr.has_set]; exact hs i hi

/-- what a load or a length looks through leads where its root leads -/
theorem rootE_ok (h : RelE c keep nt env bs σ t) {g : Option (E × Bool)} {op : Op} {e : E} {v : AV} (hp : pureOf c (fun x => (resO keep σ x).map (stripG g)) op = some e) (hgs : ∀ x, evE c env bs (stripG g x) = evE c env bs x) (hv : evE c env bs e = some v) (hr : rootE c ops keep σ true op = true) : rootOk c ops op t = true := by
  cases hany : appAny c ops with
  | false => exact root_any hany
  | true =>
  unfold rootOk
  split
  · rfl
  · rename_i p hpk
    split
    · rfl
    · rename_i q hq
      unfold rootE at hr
      rw [hpk, hany] at hr
      simp only [Bool.and_self, hq] at hr
      split at hr
      · rename_i a b ha hb
        have hab := sameE_eq hr
        subst hab
        have arg : ∃ u, evE c env bs a = some u := by
          have one : ∀ x, ((resO keep σ (.tmp p)).map (stripG g)) = some x → (∃ u, evE c env bs x = some u) → ∃ u, evE c env bs a = some u := fun x hx ⟨u, hu⟩ => by
            simp only [resO, ha, Option.map_some, Option.some.injEq] at hx
            subst hx
            exact ⟨u, by rw [← hgs]; exact hu⟩
          unfold peekTmp at hpk
          split at hpk
          · cases hpk
            simp only [pureOf, bind1, Option.map_eq_some_iff] at hp
            obtain ⟨x, hx, rfl⟩ := hp
            refine one x (by simpa using hx) ?_
            simp only [evE] at hv
            cases hx2 : evE c env bs x with
            | none => rw [hx2] at hv; cases hv
            | some u => exact ⟨u, rfl⟩
          · rename_i args ts
            split at hpk
            · rename_i p' hargs
              cases hpk
              simp only [pureOf, hargs] at hp
              split at hp
              · rename_i x _ _ hxx
                simp only [List.cons.injEq, and_true] at hxx
                subst hxx
                split at hp
                · simp only [bind1, Option.map_eq_some_iff] at hp
                  obtain ⟨x, hx, rfl⟩ := hp
                  refine one x (by simpa using hx) ?_
                  simp only [evE] at hv
                  cases hx2 : evE c env bs x with
                  | none => rw [hx2] at hv; cases hv
                  | some u => exact ⟨u, rfl⟩
                · simp only [bind1, Option.map_eq_some_iff] at hp
                  obtain ⟨x, hx, rfl⟩ := hp
                  refine one x (by simpa using hx) ?_
                  simp only [evE] at hv
                  cases hx2 : evE c env bs x with
                  | none => rw [hx2] at hv; cases hv
                  | some u => exact ⟨u, rfl⟩
              · cases hp
            · cases hpk
          · cases hpk
        obtain ⟨u, hu⟩ := arg
        rw [h.res ha hu, h.res hb hu]
        simp
      · cases hr

/-- a step that turns no box -/
theorem stepU_pure {dr : Bool} {i : Nat} {o : Oper} {v : AV} (hw : wantedA ops t o.guard = some true) (hd : ∀ (cf : CallF) bs' id, Sub (seen base kl bs) bs' → doOp c cf o.op t bs' id = some (v, .none)) (hk : dr = true → ∀ x ∈ maskIds (bef ops) i ops.toList 0 0, x ∈ kl) (hroot : dr = true → rootOk c ops o.op t = true) :
    stepU c cf ops dr base i o ⟨t, bs⟩ = some ⟨putA t o.dst v, bs⟩ := by
  cases dr with
  | false =>
    simp only [stepU, step1, hw]
    rw [hd _ _ _ (killAll_sub _ _)]
    rfl
  | true =>
    simp only [stepU, stepO, hw]
    split
    · rw [hd _ _ _ (killAll_sub _ _)]; rfl
    · rw [hd _ _ _ ?_]
      · simp only [hroot rfl]
      unfold maskB
      refine killAll_mono (fun x hx => ?_) bs
      rw [show base = base + 0 from rfl, maskIds_add] at hx
      obtain ⟨y, hy, rfl⟩ := List.mem_map.1 hx
      exact List.mem_map_of_mem (hk rfl y hy)

theorem stepU_no {dr : Bool} {i : Nat} {o : Oper} (hw : wantedA ops t o.guard = some false) : stepU c cf ops dr base i o ⟨t, bs⟩ = some ⟨putA t o.dst (.tup []), bs⟩ := by
  cases dr <;> simp only [stepU, step1, stepO, hw]

theorem look_mem {i : Nat} {v : AV} : ∀ {vs : List (Nat × AV)}, (∀ p ∈ vs, p.1 = i → p.2 = v) → (∃ p ∈ vs, p.1 = i) → look vs i = v
  | [], _, ⟨_, h, _⟩ => by cases h
  | (j, u) :: r, h1, ⟨p, hp, hpi⟩ => by
    simp only [look]
    split
    · rename_i hij; exact h1 (j, u) List.mem_cons_self hij.symm
    · rename_i hij
      refine look_mem (fun q hq => h1 q (List.mem_cons_of_mem _ hq)) ?_
      rcases List.mem_cons.1 hp with rfl | hp
      · exact absurd hpi.symm hij
      · exact ⟨p, hp, hpi⟩

/-- the operands' values -/
theorem RelE.args (h : RelE c keep nt env bs σ t) {g : Option (E × Bool)} (hg : ∀ e, evE c env bs (stripG g e) = evE c env bs e) : ∀ {l : List Nat} {xs : List (Nat × E)} {vs : List (Nat × AV)}, argsOf keep σ l = some xs → parV c env bs (xs.map fun p => (p.1, stripG g p.2)) = some vs → (∀ p ∈ vs, p.2 = t.get .any p.1) ∧ ∀ i ∈ l, ∃ p ∈ vs, p.1 = i
  | [], xs, vs, h1, h2 => by
    cases h1; cases h2
    exact ⟨fun p hp => (by cases hp), fun i hi => by cases hi⟩
  | i :: r, xs, vs, h1, h2 => by
    simp only [argsOf] at h1
    split at h1
    · rename_i e l he hl
      cases h1
      simp only [List.map_cons, parV] at h2
      split at h2
      · rename_i v hv
        split at h2
        · rename_i vs' hvs'
          cases h2
          obtain ⟨k1, k2⟩ := RelE.args h hg hl hvs'
          rw [hg] at hv
          refine ⟨fun p hp => ?_, fun j hj => ?_⟩
          · rcases List.mem_cons.1 hp with rfl | hp
            · exact (h.res he hv).symm
            · exact k1 p hp
          · rcases List.mem_cons.1 hj with rfl | hj
            · exact ⟨_, List.mem_cons_self, rfl⟩
            · obtain ⟨p, hp, hpi⟩ := k2 j hj
              exact ⟨p, List.mem_cons_of_mem _ hp, hpi⟩
        · cases h2
      · cases h2
    · cases h1

/-- THE OPERATIONS OF A REGION -/
theorem lowOps_ok {dr : Bool} (hk : dr = true → ∀ i, ∀ x ∈ maskIds (bef ops) i ops.toList 0 0, x ∈ kl) : ∀ (l : List Oper) (i : Nat) (σ : List (Nat × E)) (its : List It) (env : List (Option AV)) (bs : List Box) (t : Env) (env' : List (Option AV)) (bs' : List Box),
    lowOps c ops keep nt dr l i σ = some its → RelE c keep nt env (seen base kl bs) σ t → runIts c cf base kl its env bs = some (env', bs') → ∃ t', runU c cf ops dr base l i ⟨t, bs⟩ = some ⟨t', bs'⟩ ∧ RelE c keep nt env' (seen base kl bs') [] t'
  | [], i, σ, its, env, bs, t, env', bs', hl, hr, hrun => by
    simp only [lowOps, Option.some.injEq] at hl
    subst hl
    refine ⟨t, ?_⟩
    have hu : Uniq ([] : List (Nat × E)) := fun i e h => by cases h
    unfold parIf at hrun
    split at hrun
    · rename_i hfl
      simp only [runIts, Option.some.injEq, Prod.mk.injEq] at hrun
      obtain ⟨rfl, rfl⟩ := hrun
      refine ⟨rfl, hr.len, hr.has, hu, fun i e v h => (by cases h), fun i k v _ hk hv => ?_⟩
      exact hr.flush (vs := []) (by rw [hfl]; rfl) i k v hk hv
    · simp only [runIts] at hrun
      split at hrun
      · rename_i vs hvs
        simp only [Option.some.injEq, Prod.mk.injEq] at hrun
        obtain ⟨rfl, rfl⟩ := hrun
        exact ⟨rfl, by rw [setAll_length]; exact hr.len, hr.has, hu, fun i e v h => (by cases h), fun i k v _ hk hv => hr.flush hvs i k v hk hv⟩
      · cases hrun
  | o :: r, i, σ, its, env, bs, t, env', bs', hl, hr, hrun => by
    simp only [lowOps] at hl
    split at hl
    · cases hl
    · rename_i g hg
      split at hl
      · -- an expression
        rename_i e d hpe hdst
        replace hpe := pureIn_some hpe
        split at hl
        · rename_i hdnt
          split at hl
          · rename_i its' hits
            have key : (evE c env (seen base kl bs) (wrapG g e)).isSome = true ∧ runIts c cf base kl its' env bs = some (env', bs') := by
              split at hl
              · rename_i hcov
                cases hl
                refine ⟨?_, hrun⟩
                unfold covered at hcov
                rw [Bool.or_eq_true] at hcov
                rcases hcov with hc | hc
                · cases hw : wrapG g e <;> rw [hw] at hc <;> simp only [E.sure, Bool.false_eq_true] at hc
                  rfl
                · rw [List.any_eq_true] at hc
                  obtain ⟨f, hf, hwf⟩ := hc
                  exact evE_within hwf (demand_ok hrun f hf)
              · cases hl
                simp only [runIts, parV] at hrun
                split at hrun
                · rename_i vs hvs
                  split at hvs
                  · rename_i v hv
                    cases hvs
                    refine ⟨by unfold seen; rw [hv]; rfl, ?_⟩
                    simp only [setAll] at hrun
                    rw [List.set_eq_of_length_le (by rw [hr.len]; exact Nat.le_refl _)] at hrun
                    exact hrun
                  · cases hvs
                · cases hrun
            obtain ⟨hsome, hrun⟩ := key
            obtain ⟨v, hv⟩ := Option.isSome_iff_exists.1 hsome
            have hstep : stepU c cf ops dr base i o ⟨t, bs⟩ = some ⟨putA t o.dst v, bs⟩ := by
              have pure : ∀ (hgs : ∀ x, evE c env (seen base kl bs) (stripG g x) = evE c env (seen base kl bs) x) (hev : evE c env (seen base kl bs) e = some v) (cf : CallF) (bs' : List Box) (id : Nat), Sub (seen base kl bs) bs' → doOp c cf o.op t bs' id = some (v, .none) := by
                intro hgs hev cf bs' id hs
                refine doOp_sub hs trivial ?_
                rw [doOp_E]
                refine pure_ok (ρ := fun x => (resO keep σ x).map (stripG g)) (fun x e v hx hv => ?_) hpe hev id
                simp only [Option.map_eq_some_iff] at hx
                obtain ⟨e0, h0, rfl⟩ := hx
                rw [hgs] at hv
                exact hr.resO h0 hv
              cases g with
              | none => exact stepU_pure (want_none hg) (pure (fun _ => rfl) hv) (fun h => hk h i) (fun h => by subst h; exact rootE_ok hr (g := none) hpe (fun _ => rfl) hv (Bool.and_eq_true _ _ ▸ hdnt : _ ∧ _).2)
              | some q =>
                obtain ⟨x, w⟩ := q
                simp only [wrapG, evE] at hv
                rcases guardV_some hv with ⟨h1, h2⟩ | ⟨h1, rfl⟩ | ⟨⟨l, h1⟩, rfl⟩
                · refine stepU_pure ?_ (pure (fun y => evE_strip h1 y) h2) (fun h => hk h i) (fun h => by subst h; exact rootE_ok hr (g := some (x, w)) hpe (fun y => evE_strip h1 y) h2 (Bool.and_eq_true _ _ ▸ hdnt : _ ∧ _).2)
                  rw [hr.want hg h1]; simp [wantV]
                · refine stepU_no ?_
                  rw [hr.want hg h1]; cases w <;> rfl
                · refine stepU_no ?_
                  rw [hr.want hg h1]; rfl
            rw [hdst] at hstep
            have hd : t.has d = true := hr.has d (by have h := (Bool.and_eq_true _ _ ▸ hdnt : _ ∧ _).1; simpa using h)
            have hrel : RelE c keep nt env (seen base kl bs) ((d, wrapG g e) :: σ.filter fun p => p.1 != d) (t.set d v) := by
              refine ⟨hr.len, fun i hi => by rw [Tr.has_set]; exact hr.has i hi, hr.uniq.cons _ _, fun j f u hj hu => ?_, fun j k u hj hk hu => ?_⟩
              · simp only [lookE] at hj
                split at hj
                · rename_i hjd; subst hjd; cases hj
                  rw [hv] at hu; cases hu
                  exact Tr.get_set_eq _ _ _ hd
                · rename_i hjd
                  rw [Tr.get_set_ne _ _ _ (Ne.symm hjd)]
                  exact hr.opn j f u (hr.uniq.look hj).1 hu
              · simp only [lookE] at hj
                split at hj
                · cases hj
                · rename_i hjd
                  rw [Tr.get_set_ne _ _ _ (Ne.symm hjd)]
                  refine hr.env j k u ?_ hk hu
                  cases hlj : lookE σ j with
                  | none => rfl
                  | some f =>
                    obtain ⟨f', hf'⟩ := lookE_some (σ := σ.filter fun p => p.1 != d) (List.mem_filter.2 ⟨lookE_mem hlj, by simpa using hjd⟩)
                    rw [hj] at hf'; cases hf'
            obtain ⟨t', h1, h2⟩ := lowOps_ok hk r (i + 1) _ _ env bs _ env' bs' hits hrel hrun
            refine ⟨t', ?_, h2⟩
            simp only [runU, hstep]
            exact h1
          · cases hl
        · cases hl
      · -- an operation
        split at hl
        · cases hl
        · rename_i g' hg'
          split at hl
          · cases hl
          · rename_i xs hxs
            split at hl
            · rename_i hdok
              split at hl
              · rename_i its' hits
                simp only [Option.some.injEq] at hl
                subst hl
                -- the variables are set
                obtain ⟨vs, hvs, hrun⟩ : ∃ vs, parV c env (seen base kl bs) (keepOf keep σ keep 0) = some vs ∧ runIts c cf base kl (.eff (maskOpt c ops dr i o.op) (idOf ops.toList i 0) (posD keep o.dst) g' o.op (xs.map fun p => (p.1, stripG g' p.2)) :: its') (setAll env vs) bs = some (env', bs') := by
                  unfold parIf at hrun
                  split at hrun
                  · rename_i hfl; exact ⟨[], by rw [hfl]; rfl, hrun⟩
                  · rw [runIts] at hrun
                    split at hrun
                    · rename_i vs hvs; exact ⟨vs, hvs, hrun⟩
                    · cases hrun
                have hr1 := hr.flushed hvs
                have hall := hr.flush hvs
                -- what is behind the operation
                have after : ∀ (v : AV) (bs2 : List Box), stepU c cf ops dr base i o ⟨t, bs⟩ = some ⟨putA t o.dst v, bs2⟩ → runIts c cf base kl its' (setO (setAll env vs) (posD keep o.dst) v) bs2 = some (env', bs') →
                    ∃ t', runU c cf ops dr base (o :: r) i ⟨t, bs⟩ = some ⟨t', bs'⟩ ∧ RelE c keep nt env' (seen base kl bs') [] t' := by
                  intro v bs2 hstep hrun2
                  have hrel : RelE c keep nt (setO (setAll env vs) (posD keep o.dst) v) (seen base kl bs2) (dropD keep o.dst (dropV keep (keepOf keep σ keep 0) σ)) (putA t o.dst v) := by
                    refine ⟨?_, has_put hr.has _ _, hr1.uniq.filter _, fun j f u hj hu => ?_, fun j k u hj hk hu => ?_⟩
                    · have := hr1.len
                      cases posD keep o.dst with
                      | none => exact this
                      | some p => simp only [setO, List.length_set]; exact this
                    · obtain ⟨h1, h2⟩ := hr1.uniq.look hj
                      simp only [Bool.and_eq_true, Bool.not_eq_true'] at h2
                      rw [evE_noread h2.1 (bs' := seen base kl bs)] at hu
                      cases hd : o.dst with
                      | none =>
                        rw [hd] at hu
                        exact hr1.opn j f u h1 hu
                      | some d =>
                        rw [hd] at hu h2
                        simp only [Bool.and_eq_true, bne_iff_ne] at h2
                        simp only [putA]
                        rw [Tr.get_set_ne _ _ _ (Ne.symm h2.2.1)]
                        refine hr1.opn j f u h1 ?_
                        simp only [posD] at hu
                        cases hp : posOf keep d with
                        | none => rw [hp] at hu; exact hu
                        | some p =>
                          rw [hp] at hu h2
                          simp only [setO] at hu
                          rw [evE_set (by simpa using h2.2.2)] at hu
                          exact hu
                    · cases hd : o.dst with
                      | none =>
                        rw [hd] at hu
                        exact hall j k u hk hu
                      | some d =>
                        rw [hd] at hu
                        have hdn : d < nt := by have hdok0 := (Bool.and_eq_true _ _ ▸ hdok : _ ∧ _).1; have hdok1 := (Bool.and_eq_true _ _ ▸ hdok0 : _ ∧ _).1; rw [hd] at hdok1; simpa [dstOk] using hdok1
                        simp only [putA]
                        by_cases hjd : j = d
                        · subst hjd
                          simp only [posD, hk, setO] at hu
                          have hlt : k < (setAll env vs).length := by rw [hr1.len]; exact (List.getElem?_eq_some_iff.1 (posOf_get hk)).1
                          simp [List.getD_eq_getElem?_getD, hlt] at hu
                          subst hu
                          exact Tr.get_set_eq _ _ _ (hr.has j hdn)
                        · rw [Tr.get_set_ne _ _ _ (Ne.symm hjd)]
                          refine hall j k u hk ?_
                          simp only [posD] at hu
                          cases hp : posOf keep d with
                          | none => rw [hp] at hu; exact hu
                          | some p =>
                            rw [hp] at hu
                            simp only [setO] at hu
                            have : p ≠ k := fun e => hjd (posOf_inj hk (e ▸ hp))
                            simp only [List.getD_eq_getElem?_getD] at hu ⊢
                            rw [List.getElem?_set_ne this] at hu
                            exact hu
                  obtain ⟨t', h1, h2⟩ := lowOps_ok hk r (i + 1) _ _ _ bs2 _ env' bs' hits hrel hrun2
                  refine ⟨t', ?_, h2⟩
                  simp only [runU, hstep]
                  exact h1
                simp only [runIts] at hrun
                split at hrun
                · -- it is wanted
                  rename_i hw
                  have hwant : wantedA ops t o.guard = some true ∧ ∀ e, evE c (setAll env vs) (seen base kl bs) (stripG g' e) = evE c (setAll env vs) (seen base kl bs) e := by
                    cases g' with
                    | none => exact ⟨want_none hg', fun _ => rfl⟩
                    | some q =>
                      obtain ⟨x, w⟩ := q
                      simp only [wantI] at hw
                      cases hx : evE c (setAll env vs) (seen base kl bs) x with
                      | none => rw [hx] at hw; cases hw
                      | some u =>
                        rw [hx] at hw
                        refine ⟨by rw [hr1.want hg' hx]; exact hw, fun e => ?_⟩
                        simp only [wantV] at hw
                        split at hw
                        · rename_i b hb
                          cases hb
                          have : b = w := by simpa using hw
                          subst this
                          exact evE_strip hx e
                        · cases hw
                        · cases hw
                  split at hrun
                  · rename_i vs' hvs'
                    obtain ⟨k1, k2⟩ := hr1.args hwant.2 hxs hvs'
                    have hops : ∀ x ∈ o.op.operands, opv vs' x = ev t x := by
                      intro x hx
                      cases x with
                      | tmp j =>
                        refine look_mem (fun p hp hpj => by rw [k1 p hp, hpj]; rfl) (k2 j (List.mem_append_left _ ?_))
                        exact List.mem_filterMap.2 ⟨.tmp j, by simpa using hx, rfl⟩
                      | const u => rfl
                      | func f => rfl
                      | global g => rfl
                    have hdo : ∀ (cf : CallF) bs3 id, doOpE c cf o.op (opv vs') bs3 id = doOp c cf o.op t bs3 id := fun cf bs3 id => by rw [doOp_E]; exact doOpE_congr c cf hops bs3 id
                    have hid : base + idOf ops.toList i 0 = idOf ops.toList i base := by rw [← idOf_add]; rfl
                    split at hrun
                    · rename_i v bs2 heff
                      refine after v bs2 ?_ hrun
                      unfold effI at heff
                      split at heff
                      · rename_i hm
                        rw [hdo, hid] at heff
                        unfold hardI at heff
                        have hm' : dr = true → alone ops i = true := fun h => by
                          subst h
                          unfold maskOpt at hm
                          split at hm
                          · cases hm
                          · rename_i ha; simpa using ha
                        split at heff
                        · rename_i v' e hdoe
                          split at heff
                          · rename_i bs3 hon
                            cases heff
                            cases dr with
                            | false => simp only [stepU, step1, hwant.1, hdoe, hon]
                            | true => simp only [stepU, stepO, hwant.1, hm' rfl, hdoe, hon]
                          · cases heff
                        · cases heff
                      · rename_i ms hm
                        unfold maskOpt at hm
                        split at hm
                        · rename_i ha
                          simp only [Bool.and_eq_true, Bool.not_eq_true'] at ha
                          cases hm
                          simp only [List.tail_cons, List.headD_cons] at heff
                          rw [mode_app] at heff
                          rw [hdo, hid] at heff
                          have hmask : killAll ((maskIds (bef ops) i ops.toList 0 0).map (base + ·)) bs = maskB ops base i bs := by
                            unfold maskB
                            rw [← maskIds_add]; rfl
                          rw [hmask] at heff
                          rw [ha.1]
                          unfold softI at heff
                          split at heff
                          · rename_i v' hdoe
                            cases heff
                            have hrt : rootOk c ops o.op t = true := by
                              cases hany : appAny c ops with
                              | false => exact root_any hany
                              | true =>
                                have h2 := (Bool.and_eq_true _ _ ▸ hdok : _ ∧ _).2
                                rw [ha.1, hany] at h2
                                simp only [Bool.and_self, Bool.not_true, Bool.false_or, Option.isNone_iff_eq_none] at h2
                                unfold rootOk
                                rw [h2]
                            simp only [stepU, stepO, hwant.1, ha.2, hdoe, hrt]
                          · rename_i v' x hdoe
                            split at heff
                            · rename_i hask
                              split at heff
                              · rename_i hdead
                                cases heff
                                simp only [stepU, stepO, hwant.1, ha.2, hdoe, hask, hdead]
                              · cases heff
                            · cases heff
                          · rename_i v' kk ty cs hdoe
                            split at heff
                            · rename_i hcalm
                              cases heff
                              rw [Bool.and_eq_true] at hcalm
                              have hcond : (dr && !alone ops i && isStore o.op) = true := by rw [ha.1, ha.2, hcalm.1]; rfl
                              have hcond2 : (dr && !alone ops i && (isStore o.op || (isGrow o.op && storeOk ops i o.op))) = true := by rw [ha.1, ha.2, hcalm.1]; rfl
                              have hfit : storeOk ops i o.op = true := by
                                have hdok0 := (Bool.and_eq_true _ _ ▸ hdok : _ ∧ _).1
                                have h2 := (Bool.and_eq_true _ _ ▸ hdok0 : _ ∧ _).2
                                unfold fitOk at h2
                                rw [hcond] at h2
                                exact h2
                              have hnear : nearTs c ops dr i o.op = nears ops i := by unfold nearTs; rw [hcond2]
                              have hall2 : ((nears ops i).all fun p => calmV kk (t.get .any p)) = true := by
                                rw [List.all_eq_true]
                                intro p hp
                                obtain ⟨q, hq, hqp⟩ := k2 p (List.mem_append_right _ (by rw [hnear]; exact hp))
                                have h3 := hcalm.2
                                unfold calmI at h3
                                rw [List.all_eq_true] at h3
                                have h4 := h3 q hq
                                rw [k1 q hq, hqp, nears_out hfit hp, Bool.false_or] at h4
                                exact h4
                              simp only [stepU, stepO, hwant.1, ha.2, hdoe, hfit, okBox, hcalm.1, hall2, Bool.and_self]
                            · cases heff
                          · rename_i v' kk sh sz es hdoe
                            split at heff
                            · rename_i hcalm
                              cases heff
                              rw [Bool.and_eq_true] at hcalm
                              have hgr : (isGrow o.op && storeOk ops i o.op) = true := by
                                have h1 := hcalm.1
                                rw [mode_grow] at h1
                                exact h1
                              have hfit : storeOk ops i o.op = true := (Bool.and_eq_true _ _ ▸ hgr : _ ∧ _).2
                              have hgrow : isGrow o.op = true := (Bool.and_eq_true _ _ ▸ hgr : _ ∧ _).1
                              have hcond2 : (dr && !alone ops i && (isStore o.op || (isGrow o.op && storeOk ops i o.op))) = true := by rw [ha.1, ha.2, hgr]; simp
                              have hnear : nearTs c ops dr i o.op = nears ops i := by unfold nearTs; rw [hcond2]
                              have hall2 : ((nears ops i).all fun p => calmV kk (t.get .any p)) = true := by
                                rw [List.all_eq_true]
                                intro p hp
                                obtain ⟨q, hq, hqp⟩ := k2 p (List.mem_append_right _ (by rw [hnear]; exact hp))
                                have h3 := hcalm.2
                                unfold calmI at h3
                                rw [List.all_eq_true] at h3
                                have h4 := h3 q hq
                                rw [k1 q hq, hqp, nears_out hfit hp, Bool.false_or] at h4
                                exact h4
                              simp only [stepU, stepO, hwant.1, ha.2, hdoe, hfit, okBox, hgrow, hall2, Bool.and_self]
                            · cases heff
                          · rename_i v' bx hdoe
                            split at heff
                            · rename_i hcalm
                              cases heff
                              rw [Bool.and_eq_true, mode_app] at hcalm
                              have hap := hcalm.1
                              have hcv : isCallV o.op = true := by
                                have h1 := hap
                                simp only [appOk, Bool.and_eq_true] at h1
                                exact own_call h1.1.1
                              obtain ⟨hns, hng⟩ := callv_not hcv
                              have hnear : nearTs c ops dr i o.op = peeks ops i := by
                                unfold nearTs
                                rw [hns, hng, ha.1, ha.2, hap]
                                rfl
                              have hall2 : ((peeks ops i).all fun p => lowV bs.length (t.get .any p)) = true := by
                                rw [List.all_eq_true]
                                intro p hp
                                obtain ⟨q, hq, hqp⟩ := k2 p (List.mem_append_right _ (by rw [hnear]; exact hp))
                                have h3 := hcalm.2
                                rw [List.all_eq_true] at h3
                                have h4 := h3 q hq
                                rw [k1 q hq, hqp] at h4
                                exact h4
                              rw [hap] at hdoe
                              simp only [stepU, stepO, hwant.1, ha.2, hap, hdoe, hall2, Bool.and_self]
                            · cases heff
                          · cases heff
                        · cases hm
                    · cases hrun
                  · cases hrun
                · -- it is not
                  rename_i hw
                  refine after (.tup []) bs (stepU_no ?_) hrun
                  cases g' with
                  | none => simp [wantI] at hw
                  | some q =>
                    obtain ⟨x, w⟩ := q
                    simp only [wantI] at hw
                    cases hx : evE c (setAll env vs) (seen base kl bs) x with
                    | none => rw [hx] at hw; cases hw
                    | some u => rw [hx] at hw; rw [hr1.want hg' hx]; exact hw
                · cases hrun
              · cases hl
            · cases hl
end
end Go.Am
