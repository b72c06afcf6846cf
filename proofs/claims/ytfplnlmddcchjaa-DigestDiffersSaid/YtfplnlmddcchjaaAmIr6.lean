/-
  What the plainer form does: an evaluator with fuel, a predicate transformer, and that both are sound for the model.
-/
import Derived.Test.YtfplnlmddcchjaaAmIr5
namespace Go.Am

def cutV (n : Nat) (v : List (Option AV)) (b : List Box) : List (Option AV) :=
  match decide (b.length ≤ n) with
  | true => v
  | false => v.map (Option.map (forget n))

def cutB (n : Nat) (b : List Box) : List Box :=
  match decide (b.length ≤ n) with
  | true => b
  | false => (b.take n).map (forgetBox n)

def killV : List Nat → List (Option AV) → List (Option AV)
  | [], v => v
  | i :: r, v => killV r (v.set i none)

/-- what lies behind a block -/
def leave (i : Nat) : Ex → Ex
  | .exit j => if j = i then .normal else .exit j
  | e => e


/-- nil slices become slices of one's own -/
def own1 (o : Own) (v : List (Option AV)) (b : List Box) : List (Option AV) × List Box :=
  match o.cell with
  | none => match vget v o.slot with
    | some (.lst (some true) _ []) => (v.set o.slot (some (.osl b.length 0)), b ++ [.sl ⟨false, some o.el⟩ o.sz []])
    | _ => (v, b)
  | some off => match vget v o.slot with
    | some (.ptr k base) => match Box.at b k with
      | .var ty cs => match cs[base + off]? with
        | some (.lst (some true) _ []) => (v, b.set k (.var ty (cs.set (base + off) (.osl b.length 0))) ++ [.sl ⟨false, some o.el⟩ o.sz []])
        | _ => (v, b)
      | _ => (v, b)
    | _ => (v, b)

def ownAll : List Own → List (Option AV) → List Box → List (Option AV) × List Box
  | [], v, b => (v, b)
  | o :: r, v, b => ownAll r (own1 o v b).1 (own1 o v b).2

def startV (keep : List Nat) (args : List AV) : List (Option AV) :=
  match keep with
  | [] => []
  | i :: r => args[i]? :: startV r args

def resI (c : Cfg) (v : List (Option AV)) (b : List Box) : Res → Option AV
  | .v i => vget v i
  | .cell i ty => match vget v i with
    | some (.ptr k off) => match Box.at b k, c.ti ty with
      | .var _ cs, some i => partA i cs off
      | _, _ => none
    | _ => none

def resultsI (c : Cfg) (v : List (Option AV)) (b : List Box) : List Res → Option (List AV)
  | [] => some []
  | r :: l => match resI c v b r with
    | some x => match resultsI c v b l with
      | some y => some (x :: y)
      | none => none
    | none => none

def handI (n : Nat) (b : List Box) (v : AV) : Option (AV × List Box) :=
  match v.hand n b with
  | some v' => match v'.under n with
    | true => some (v', cutB n b)
    | false => some (v, b)
  | none => none

def endI (c : Cfg) (res : List Res) (n : Nat) (v : List (Option AV)) (b : List Box) : Option (AV × List Box) :=
  match resultsI c v b res with
  | some vs => handI n b (oneOr vs)
  | none => none


def endX (c : Cfg) (res : List Res) (n : Nat) (r : Option (Ex × List (Option AV) × List Box)) : Option (AV × List Box) :=
  match r with
  | some (.normal, v, b) => endI c res n v b
  | some (.ret, v, b) => endI c res n v b
  | _ => none

/-- a call of a function's plainer form -/
def callI (c : Cfg) (ex : IR → List (Option AV) → List Box → Option (Ex × List (Option AV) × List Box)) : CallF := fun f args bs =>
  match c.fn.get none f with
  | some fn => match lowF c fn with
    | some L => endX c L.res bs.length (ex L.code (startV L.keep args) bs)
    | none => none
  | none => none

def thenE (r : Option (Ex × List (Option AV) × List Box)) (f : List (Option AV) → List Box → Option (Ex × List (Option AV) × List Box)) : Option (Ex × List (Option AV) × List Box) :=
  match r with
  | some (.normal, v, b) => f v b
  | r => r

def leaveE (i : Nat) (r : Option (Ex × List (Option AV) × List Box)) : Option (Ex × List (Option AV) × List Box) :=
  match r with
  | some (e, v, b) => some (leave i e, v, b)
  | none => none

def condE (x : Option AV) (p q : Option (Ex × List (Option AV) × List Box)) : Option (Ex × List (Option AV) × List Box) :=
  match x with
  | some (.bool true) => p
  | some (.bool false) => q
  | _ => none

def regE (r : Option (List (Option AV) × List Box)) : Option (Ex × List (Option AV) × List Box) :=
  match r with
  | some (v, b) => some (.normal, v, b)
  | none => none

def execI (c : Cfg) : Nat → IR → List (Option AV) → List Box → Option (Ex × List (Option AV) × List Box)
  | 0, _, _, _ => none
  | n + 1, ir, v, b =>
    match ir with
    | .skip => some (.normal, v, b)
    | .ret => some (.ret, v, b)
    | .stuck => none
    | .own l => some (.normal, (ownAll l v b).1, (ownAll l v b).2)
    | .exit i => some (.exit i, v, b)
    | .seq x y => thenE (execI c n x v b) (execI c n y)
    | .block i x => leaveE i (execI c n x v b)
    | .reg m kl its => regE (runIts c (callI c (execI c n)) b.length kl its v (b ++ List.replicate m .dead))
    | .cond x p q => condE (vget v x) (execI c n p (v.set x none) b) (execI c n q (v.set x none) b)
    | .loop k x => thenE (execI c n x (killV k v) b) fun v' b' => execI c n (.loop k x) (cutV b.length v' b') (cutB b.length b')

section
variable {c : Cfg} {f g : CallF}

theorem doOpE_le (h : CLe f g) {op : Op} {φ : Operand → AV} {bs : List Box} {id : Nat} {r : AV × Eff} (hr : doOpE c f op φ bs id = some r) : doOpE c g op φ bs id = some r := by
  unfold doOpE at hr ⊢
  split at hr
  · split at hr
    · split at hr
      · split at hr
        · exact hr
        · exact callA_le h hr
      · cases hr
    · exact hr
  · exact hr

theorem effI_le (h : CLe f g) {base : Nat} {mask : Option (List Nat)} {k : Nat} {o : Op} {vs : List (Nat × AV)} {bs : List Box} {r : AV × List Box} (hr : effI c f base mask k o vs bs = some r) : effI c g base mask k o vs bs = some r := by
  unfold effI at hr ⊢
  split at hr
  · unfold hardI at hr ⊢
    split at hr
    · rename_i hd; rw [doOpE_le h hd]; exact hr
    · cases hr
  · unfold softI at hr ⊢
    split at hr
    · rename_i hd; rw [doOpE_le h hd]; exact hr
    · rename_i hd; rw [doOpE_le h hd]; exact hr
    · cases hr

theorem runIts_le (h : CLe f g) {base : Nat} {kl : List Nat} : ∀ (its : List It) (env : List (Option AV)) (bs : List Box) (r : List (Option AV) × List Box), runIts c f base kl its env bs = some r → runIts c g base kl its env bs = some r
  | [], _, _, _, hr => hr
  | .par l :: its, env, bs, r, hr => by
    simp only [runIts] at hr ⊢
    split at hr
    · exact runIts_le h its _ _ r hr
    · cases hr
  | .eff mask k d g' o xs :: its, env, bs, r, hr => by
    simp only [runIts] at hr ⊢
    split at hr
    · split at hr
      · split at hr
        · rename_i he; rw [effI_le h he]; exact runIts_le h its _ _ r hr
        · cases hr
      · cases hr
    · exact runIts_le h its _ _ r hr
    · cases hr

end

/-- the calls with so much fuel -/
abbrev cfN (c : Cfg) (n : Nat) : CallF := callI c (execI c n)

theorem callI_le {c : Cfg} {e e' : IR → List (Option AV) → List Box → Option (Ex × List (Option AV) × List Box)} (h : ∀ x v b r, e x v b = some r → e' x v b = some r) : CLe (callI c e) (callI c e') := fun f args bs r hr => by
  unfold callI at hr ⊢
  split at hr
  · split at hr
    · unfold endX at hr ⊢
      split at hr
      · rename_i hx; rw [h _ _ _ _ hx]; exact hr
      · rename_i hx; rw [h _ _ _ _ hx]; exact hr
      · cases hr
    · cases hr
  · cases hr

theorem thenE_le {x y : Option (Ex × List (Option AV) × List Box)} {k l : List (Option AV) → List Box → Option (Ex × List (Option AV) × List Box)} (h : ∀ r, x = some r → y = some r) (hk : ∀ v b r, k v b = some r → l v b = some r) {r : Ex × List (Option AV) × List Box} (hr : thenE x k = some r) : thenE y l = some r := by
  cases x with
  | none => cases hr
  | some p =>
    rw [h p rfl]
    obtain ⟨e, v, b⟩ := p
    cases e
    · exact hk _ _ _ hr
    · exact hr
    · exact hr

theorem execI_succ (c : Cfg) : ∀ (n : Nat) (x : IR) (v : List (Option AV)) (b : List Box) (r : Ex × List (Option AV) × List Box), execI c n x v b = some r → execI c (n + 1) x v b = some r
  | 0, _, _, _, _, h => by cases h
  | n + 1, x, v, b, r, h => by
    have ih := execI_succ c n
    unfold execI at h ⊢
    cases x with
    | skip => exact h
    | ret => exact h
    | stuck => exact h
    | own l => exact h
    | exit i => exact h
    | seq x y => exact thenE_le (ih x v b) (ih y) h
    | block i x =>
      simp only [leaveE] at h ⊢
      split at h
      · rename_i hx; rw [ih _ _ _ _ hx]; exact h
      · cases h
    | reg m kl its =>
      simp only [regE] at h ⊢
      split at h
      · rename_i hx; rw [runIts_le (callI_le ih) _ _ _ _ hx]; exact h
      · cases h
    | cond x p q =>
      simp only [condE] at h ⊢
      split at h
      · exact ih _ _ _ _ h
      · exact ih _ _ _ _ h
      · cases h
    | loop k x => exact thenE_le (ih x _ b) (fun v' b' => ih _ _ _) h

theorem execI_le (c : Cfg) {n m : Nat} (hnm : n ≤ m) {x : IR} {v : List (Option AV)} {b : List Box} {r : Ex × List (Option AV) × List Box} (h : execI c n x v b = some r) : execI c m x v b = some r := by
  induction hnm with
  | refl => exact h
  | step _ ih => exact execI_succ c _ _ _ _ _ ih

theorem cfN_le {c : Cfg} {n m : Nat} (h : n ≤ m) : CLe (cfN c n) (cfN c m) := callI_le fun _ _ _ _ hx => execI_le c h hx

/-! ### What a function answers, whatever the fuel -/

def AnsI (c : Cfg) (f : FuncId) (args : List AV) (bs : List Box) (r : AV × List Box) : Prop := ∃ n, cfN c n f args bs = some r

theorem AnsI.det {c : Cfg} {f : FuncId} {args : List AV} {bs : List Box} {r r' : AV × List Box} (h : AnsI c f args bs r) (h' : AnsI c f args bs r') : r = r' := by
  obtain ⟨n, hn⟩ := h
  obtain ⟨m, hm⟩ := h'
  have h1 := cfN_le (Nat.le_max_left n m) _ _ _ _ hn
  have h2 := cfN_le (Nat.le_max_right n m) _ _ _ _ hm
  rw [h1] at h2; cases h2; rfl

noncomputable def ansF (c : Cfg) : CallF := fun f args bs =>
  open Classical in if h : ∃ r, AnsI c f args bs r then some (Classical.choose h) else none

theorem ansF_iff {c : Cfg} {f : FuncId} {args : List AV} {bs : List Box} {r : AV × List Box} : ansF c f args bs = some r ↔ AnsI c f args bs r := by
  unfold ansF
  constructor
  · intro h
    split at h
    · rename_i hx; cases h; exact Classical.choose_spec hx
    · cases h
  · intro h
    have hx : ∃ r, AnsI c f args bs r := ⟨r, h⟩
    rw [dif_pos hx]
    rw [AnsI.det (Classical.choose_spec hx) h]

section
variable {c : Cfg}
theorem callA_fin {fn : FuncId} {args : List AV} {bs : List Box} {r : AV × Eff} (hr : callA c (ansF c) fn args bs = some r) : ∃ n, callA c (cfN c n) fn args bs = some r := by
  unfold callA at hr ⊢
  split at hr
  · exact ⟨0, hr⟩
  · unfold callP at hr ⊢
    split at hr
    · split at hr
      · split at hr
        · exact ⟨0, hr⟩
        · split at hr
          · rename_i hf
            obtain ⟨n, hn⟩ := ansF_iff.1 hf
            have hn' : cfN c n fn _ [] = _ := hn
            exact ⟨n, by rw [hn']; exact hr⟩
          · rename_i hf
            split at hr
            · rename_i hf2
              obtain ⟨n, hn⟩ := ansF_iff.1 hf
              obtain ⟨m, hm⟩ := ansF_iff.1 hf2
              have hn' : cfN c (max n m) fn _ [] = _ := cfN_le (Nat.le_max_left n m) _ _ _ _ hn
              have hm' : cfN c (max n m) fn args bs = _ := cfN_le (Nat.le_max_right n m) _ _ _ _ hm
              exact ⟨max n m, by rw [hn']; simp only; rw [hm']; exact hr⟩
            · cases hr
          · cases hr
      · split at hr
        · rename_i hf
          obtain ⟨n, hn⟩ := ansF_iff.1 hf
          have hn' : cfN c n fn args bs = _ := hn
          exact ⟨n, by rw [hn']; exact hr⟩
        · cases hr
    · cases hr

theorem doOpE_fin {op : Op} {φ : Operand → AV} {bs : List Box} {id : Nat} {r : AV × Eff} (hr : doOpE c (ansF c) op φ bs id = some r) : ∃ n, doOpE c (cfN c n) op φ bs id = some r := by
  unfold doOpE at hr ⊢
  split at hr
  · split at hr
    · split at hr
      · split at hr
        · exact ⟨0, hr⟩
        · exact callA_fin hr
      · cases hr
    · exact ⟨0, hr⟩
  · exact ⟨0, hr⟩

theorem effI_fin {base : Nat} {mask : Option (List Nat)} {k : Nat} {o : Op} {vs : List (Nat × AV)} {bs : List Box} {r : AV × List Box} (hr : effI c (ansF c) base mask k o vs bs = some r) : ∃ n, effI c (cfN c n) base mask k o vs bs = some r := by
  unfold effI at hr ⊢
  split at hr
  · unfold hardI at hr ⊢
    split at hr
    · rename_i hd; obtain ⟨n, hn⟩ := doOpE_fin hd; exact ⟨n, by rw [hn]; exact hr⟩
    · cases hr
  · unfold softI at hr ⊢
    split at hr
    · rename_i hd; obtain ⟨n, hn⟩ := doOpE_fin hd; exact ⟨n, by rw [hn]; exact hr⟩
    · rename_i hd; obtain ⟨n, hn⟩ := doOpE_fin hd; exact ⟨n, by rw [hn]; exact hr⟩
    · cases hr

theorem runIts_fin {base : Nat} {kl : List Nat} : ∀ (its : List It) (env : List (Option AV)) (bs : List Box) (r : List (Option AV) × List Box), runIts c (ansF c) base kl its env bs = some r → ∃ n, runIts c (cfN c n) base kl its env bs = some r
  | [], _, _, _, hr => ⟨0, hr⟩
  | .par l :: its, env, bs, r, hr => by
    simp only [runIts] at hr ⊢
    split at hr
    · exact runIts_fin its _ _ r hr
    · cases hr
  | .eff mask k d g' o xs :: its, env, bs, r, hr => by
    simp only [runIts] at hr ⊢
    split at hr
    · split at hr
      · split at hr
        · rename_i he
          obtain ⟨n, hn⟩ := effI_fin he
          obtain ⟨m, hm⟩ := runIts_fin its _ _ r hr
          refine ⟨max n m, ?_⟩
          rw [effI_le (cfN_le (Nat.le_max_left n m)) hn]
          exact runIts_le (cfN_le (Nat.le_max_right n m)) _ _ _ _ hm
        · cases hr
      · cases hr
    · exact runIts_fin its _ _ r hr
    · cases hr
end

/-! ### A predicate transformer -/

abbrev Post := Ex → List (Option AV) → List Box → Prop

def thenW (W : Post → List (Option AV) → List Box → Prop) (Q : Post) : Post := fun e v b =>
  match e with
  | .normal => W Q v b
  | e => Q e v b

def roundsW (W : Post → List (Option AV) → List Box → Prop) (k : List Nat) (Q : Post) : Nat → List (Option AV) → List Box → Prop
  | 0, _, _ => False
  | n + 1, v, b => W (fun e v' b' => match e with
    | .normal => roundsW W k Q n (cutV b.length v' b') (cutB b.length b')
    | e => Q e v' b') (killV k v) b

def regW (r : Option (List (Option AV) × List Box)) (Q : Post) : Prop :=
  match r with
  | some (v, b) => Q .normal v b
  | none => False

def condW (x : Option AV) (p q : Prop) : Prop :=
  match x with
  | some (.bool true) => p
  | some (.bool false) => q
  | _ => False

def Wp (c : Cfg) : IR → Post → List (Option AV) → List Box → Prop
  | .skip, Q, v, b => Q .normal v b
  | .ret, Q, v, b => Q .ret v b
  | .stuck, _, _, _ => False
  | .own l, Q, v, b => Q .normal (ownAll l v b).1 (ownAll l v b).2
  | .exit i, Q, v, b => Q (.exit i) v b
  | .seq x y, Q, v, b => Wp c x (thenW (Wp c y) Q) v b
  | .block i x, Q, v, b => Wp c x (fun e v b => Q (leave i e) v b) v b
  | .reg n kl its, Q, v, b => regW (runIts c (ansF c) b.length kl its v (b ++ List.replicate n .dead)) Q
  | .cond x p q, Q, v, b => condW (vget v x) (Wp c p Q (v.set x none) b) (Wp c q Q (v.set x none) b)
  | .loop k x, Q, v, b => ∃ n, roundsW (Wp c x) k Q n v b

theorem roundsW_mono {W : Post → List (Option AV) → List Box → Prop} (hW : ∀ {Q Q' : Post}, (∀ e v b, Q e v b → Q' e v b) → ∀ v b, W Q v b → W Q' v b) {k : List Nat} {Q Q' : Post} (h : ∀ e v b, Q e v b → Q' e v b) : ∀ (n : Nat) (v : List (Option AV)) (b : List Box), roundsW W k Q n v b → roundsW W k Q' n v b
  | 0, _, _, hr => hr
  | n + 1, v, b, hr => by
    refine hW (fun e v' b' hq => ?_) _ _ hr
    cases e with
    | normal => exact roundsW_mono hW h n _ _ hq
    | ret => exact h _ _ _ hq
    | exit i => exact h _ _ _ hq

theorem Wp.mono {c : Cfg} : ∀ (ir : IR) {Q Q' : Post}, (∀ e v b, Q e v b → Q' e v b) → ∀ v b, Wp c ir Q v b → Wp c ir Q' v b
  | .skip, _, _, h, v, b, hw => h _ _ _ hw
  | .ret, _, _, h, v, b, hw => h _ _ _ hw
  | .stuck, _, _, _, _, _, hw => hw
  | .own l, _, _, h, v, b, hw => h _ _ _ hw
  | .exit _, _, _, h, v, b, hw => h _ _ _ hw
  | .seq x y, Q, Q', h, v, b, hw => Wp.mono x (fun e v b hq => by
      cases e with
      | normal => exact Wp.mono y h v b hq
      | ret => exact h _ _ _ hq
      | exit i => exact h _ _ _ hq) v b hw
  | .block i x, Q, Q', h, v, b, hw => Wp.mono x (fun e v b hq => h _ _ _ hq) v b hw
  | .reg n kl its, Q, Q', h, v, b, hw => by
    simp only [Wp, regW] at hw ⊢
    split at hw
    · exact h _ _ _ hw
    · exact hw
  | .cond x p q, Q, Q', h, v, b, hw => by
    simp only [Wp, condW] at hw ⊢
    split at hw
    · exact Wp.mono p h _ b hw
    · exact Wp.mono q h _ b hw
    · exact hw
  | .loop k x, Q, Q', h, v, b, hw => by
    obtain ⟨n, hn⟩ := hw
    exact ⟨n, roundsW_mono (fun h v b => Wp.mono x h v b) h n v b hn⟩


theorem rounds_exec {c : Cfg} {x : IR} {k : List Nat} (ih : ∀ (Q : Post) (v : List (Option AV)) (b : List Box), Wp c x Q v b → ∃ n e v' b', execI c n x v b = some (e, v', b') ∧ Q e v' b') {Q : Post} :
    ∀ (m : Nat) (v : List (Option AV)) (b : List Box), roundsW (Wp c x) k Q m v b → ∃ n e v' b', execI c n (.loop k x) v b = some (e, v', b') ∧ Q e v' b'
  | 0, _, _, h => h.elim
  | m + 1, v, b, h => by
    obtain ⟨n, e, v', b', h1, h2⟩ := ih _ _ _ h
    have hl : ∀ N, execI c (N + 1) (.loop k x) v b = thenE (execI c N x (killV k v) b) fun v' b' => execI c N (.loop k x) (cutV b.length v' b') (cutB b.length b') := fun _ => rfl
    cases e with
    | normal =>
      obtain ⟨n2, e2, v2, b2, h3, h4⟩ := rounds_exec ih m _ _ h2
      refine ⟨max n n2 + 1, e2, v2, b2, ?_, h4⟩
      rw [hl, execI_le c (Nat.le_max_left n n2) h1]
      exact execI_le c (Nat.le_max_right n n2) h3
    | ret => exact ⟨n + 1, .ret, v', b', by rw [hl, h1]; rfl, h2⟩
    | exit i => exact ⟨n + 1, .exit i, v', b', by rw [hl, h1]; rfl, h2⟩

theorem wp_exec {c : Cfg} : ∀ (x : IR) (Q : Post) (v : List (Option AV)) (b : List Box), Wp c x Q v b → ∃ n e v' b', execI c n x v b = some (e, v', b') ∧ Q e v' b'
  | .skip, Q, v, b, h => ⟨1, .normal, v, b, rfl, h⟩
  | .ret, Q, v, b, h => ⟨1, .ret, v, b, rfl, h⟩
  | .stuck, Q, v, b, h => h.elim
  | .own l, Q, v, b, h => ⟨1, .normal, _, _, rfl, h⟩
  | .exit i, Q, v, b, h => ⟨1, .exit i, v, b, rfl, h⟩
  | .seq x y, Q, v, b, h => by
    obtain ⟨n, e, v', b', h1, h2⟩ := wp_exec x _ v b h
    have hl : ∀ N, execI c (N + 1) (.seq x y) v b = thenE (execI c N x v b) (execI c N y) := fun _ => rfl
    cases e with
    | normal =>
      obtain ⟨n2, e2, v2, b2, h3, h4⟩ := wp_exec y _ v' b' h2
      refine ⟨max n n2 + 1, e2, v2, b2, ?_, h4⟩
      rw [hl, execI_le c (Nat.le_max_left n n2) h1]
      exact execI_le c (Nat.le_max_right n n2) h3
    | ret => exact ⟨n + 1, .ret, v', b', by rw [hl, h1]; rfl, h2⟩
    | exit i => exact ⟨n + 1, .exit i, v', b', by rw [hl, h1]; rfl, h2⟩
  | .block i x, Q, v, b, h => by
    obtain ⟨n, e, v', b', h1, h2⟩ := wp_exec x _ v b h
    refine ⟨n + 1, leave i e, v', b', ?_, h2⟩
    have : execI c (n + 1) (.block i x) v b = leaveE i (execI c n x v b) := rfl
    rw [this, h1]; rfl
  | .reg m kl its, Q, v, b, h => by
    simp only [Wp, regW] at h
    split at h
    · rename_i v' b' hrun
      obtain ⟨n, hn⟩ := runIts_fin _ _ _ _ hrun
      refine ⟨n + 1, .normal, v', b', ?_, h⟩
      have : execI c (n + 1) (.reg m kl its) v b = regE (runIts c (cfN c n) b.length kl its v (b ++ List.replicate m .dead)) := rfl
      rw [this, hn]; rfl
    · exact h.elim
  | .cond x p q, Q, v, b, h => by
    have hl : ∀ N, execI c (N + 1) (.cond x p q) v b = condE (vget v x) (execI c N p (v.set x none) b) (execI c N q (v.set x none) b) := fun _ => rfl
    simp only [Wp, condW] at h
    split at h
    · rename_i hx
      obtain ⟨n, e, v', b', h1, h2⟩ := wp_exec p _ _ b h
      exact ⟨n + 1, e, v', b', by rw [hl, hx]; exact h1, h2⟩
    · rename_i hx
      obtain ⟨n, e, v', b', h1, h2⟩ := wp_exec q _ _ b h
      exact ⟨n + 1, e, v', b', by rw [hl, hx]; exact h1, h2⟩
    · exact h.elim
  | .loop k x, Q, v, b, h => by
    obtain ⟨m, hm⟩ := h
    exact rounds_exec (fun Q v b h => wp_exec x Q v b h) m v b hm

/-- a function's end -/
def endW (c : Cfg) (res : List Res) (n : Nat) (r : AV × List Box) : Post := fun e v b =>
  match e with
  | .exit _ => False
  | _ => endI c res n v b = some r

/-- A FUNCTION, BY ITS PLAINER FORM -/
theorem ans_of_wp {c : Cfg} {f : FuncId} {fn : Func} {L : Low} {args : List AV} {bs : List Box} {r : AV × List Box} (hf : c.fn.get none f = some fn) (hl : lowF c fn = some L)
    (hw : Wp c L.code (endW c L.res bs.length r) (startV L.keep args) bs) : ansF c f args bs = some r := by
  rw [ansF_iff]
  obtain ⟨n, e, v', b', h1, h2⟩ := wp_exec _ _ _ _ hw
  refine ⟨n, ?_⟩
  simp only [cfN, callI, hf, hl, h1, endX]
  cases e with
  | normal => exact h2
  | ret => exact h2
  | exit i => exact h2.elim

/-! ### Soundness -/

structure RelV (keep : List Nat) (nt : Nat) (env : List (Option AV)) (t : Env) : Prop where
  len : env.length = keep.length
  has : ∀ i, i < nt → t.has i = true
  env : ∀ i k v, posOf keep i = some k → env.getD k none = some v → t.get .any i = v

theorem RelV.set_none {keep : List Nat} {nt : Nat} {env : List (Option AV)} {t : Env} (h : RelV keep nt env t) (x : Nat) : RelV keep nt (env.set x none) t where
  len := by rw [List.length_set]; exact h.len
  has := h.has
  env := fun i k v hk hv => by
    by_cases hxk : x = k
    · subst hxk
      simp only [List.getD_eq_getElem?_getD] at hv
      by_cases hlt : x < env.length
      · simp [hlt] at hv
      · simp [hlt] at hv
    · refine h.env i k v hk ?_
      simp only [List.getD_eq_getElem?_getD] at hv ⊢
      rwa [List.getElem?_set_ne hxk] at hv

theorem RelV.kill {keep : List Nat} {nt : Nat} {t : Env} : ∀ (k : List Nat) {env : List (Option AV)}, RelV keep nt env t → RelV keep nt (killV k env) t
  | [], _, h => h
  | i :: r, _, h => RelV.kill r (h.set_none i)

theorem RelV.cut {keep : List Nat} {nt : Nat} {env : List (Option AV)} {s : St} (h : RelV keep nt env s.t) (n : Nat) : RelV keep nt (cutV n env s.b) (s.cut n).t := by
  unfold cutV St.cut
  split
  · rename_i hd; simp only [hd]; exact h
  · rename_i hd
    simp only [hd]
    refine ⟨by rw [List.length_map]; exact h.len, fun i hi => by rw [Tr.has_map]; exact h.has i hi, fun i k v hk hv => ?_⟩
    have : (s.t.map (forget n)).get .any i = forget n (s.t.get .any i) := Tr.get_map (forget n) .any s.t i
    rw [this]
    simp only [List.getD_eq_getElem?_getD, List.getElem?_map] at hv
    cases he : env[k]? with
    | none => rw [he] at hv; cases hv
    | some o => cases o with
      | none => rw [he] at hv; cases hv
      | some u =>
        rw [he] at hv
        simp only [Option.map_some, Option.getD_some, Option.some.injEq] at hv
        rw [h.env i k u hk (by simp [List.getD_eq_getElem?_getD, he]), hv]

theorem cut_b (s : St) (n : Nat) : (s.cut n).b = cutB n s.b := by
  unfold St.cut cutB
  cases decide (s.b.length ≤ n) <;> rfl

theorem maskIds_lt {bf : List Nat} {i x : Nat} : ∀ (l : List Oper) (j k : Nat), x ∈ maskIds bf i l j k → x < k + askCount l
  | [], _, _, h => by cases h
  | o :: r, j, k, h => by
    simp only [maskIds] at h
    simp only [askCount]
    cases ha : asks o.op with
    | false =>
      simp only [ha, Bool.false_and] at h
      have hn : next k o.op = k := by unfold next; rw [ha]
      have := maskIds_lt r _ _ h
      rw [hn] at this
      simp only
      omega
    | true =>
      have hn : next k o.op = k + 1 := by unfold next; rw [ha]
      simp only
      split at h
      · rcases List.mem_cons.1 h with rfl | h
        · omega
        · have := maskIds_lt r _ _ h
          omega
      · have := maskIds_lt r _ _ h
        omega

theorem results_ok {c : Cfg} {keep : List Nat} {nt : Nat} {v : List (Option AV)} {t : Env} (h : RelV keep nt v t) {b : List Box} : ∀ {l : List ResultVar} {rs : List Res} {vs : List AV}, lowRes keep l = some rs → resultsI c v b rs = some vs → resultsA c t b l = some vs
  | [], rs, vs, h1, h2 => by cases h1; cases h2; rfl
  | .tmp i :: r, rs, vs, h1, h2 => by
    simp only [lowRes] at h1
    split at h1
    · rename_i k l hk hl
      cases h1
      simp only [resultsI, resI] at h2
      split at h2
      · rename_i x hx
        split at h2
        · rename_i y hy
          cases h2
          simp only [resultsA, resultA, results_ok h hl hy, h.env i k x hk hx]
        · cases h2
      · cases h2
    · cases h1
  | .cell i ty :: r, rs, vs, h1, h2 => by
    simp only [lowRes] at h1
    split at h1
    · rename_i k l hk hl
      cases h1
      simp only [resultsI] at h2
      split at h2
      · rename_i x hx
        split at h2
        · rename_i y hy
          cases h2
          simp only [resI] at hx
          split at hx
          · rename_i p off hp
            split at hx
            · rename_i hb ht
              simp only [resultsA, resultA, results_ok h hl hy, h.env i k _ hk hp, hb, ht, hx]
            · cases hx
          · cases hx
        · cases h2
      · cases h2
    · cases h1

theorem Tr.has_mk' {α : Type} (d : α) : ∀ (k n i : Nat), i < n → n < 2 ^ k → (Tr.mk d k n).has i = true
  | 0, n, i, h, hk => by omega
  | k + 1, 0, i, h, hk => by omega
  | k + 1, n + 1, 0, h, hk => rfl
  | k + 1, n + 1, i + 1, h, hk => by
    have : 2 ^ (k + 1) = 2 * 2 ^ k := by rw [Nat.pow_succ]; omega
    rcases Nat.mod_two_eq_zero_or_one i with hi | hi <;> simp only [Tr.mk, Tr.has, hi]
    · exact Tr.has_mk' d k _ _ (by omega) (by omega)
    · exact Tr.has_mk' d k _ _ (by omega) (by omega)

theorem putArgs_has : ∀ (l : List AV) (t : Env) (i j : Nat), (putArgs t i l).has j = t.has j
  | [], _, _, _ => rfl
  | v :: r, t, i, j => by simp only [putArgs]; rw [putArgs_has r, Tr.has_set]

theorem putArgs_old : ∀ (l : List AV) (t : Env) (i j : Nat), j < i → (putArgs t i l).get .any j = t.get .any j
  | [], _, _, _, _ => rfl
  | v :: r, t, i, j, h => by
    simp only [putArgs]
    rw [putArgs_old r _ _ _ (by omega), Tr.get_set_ne _ _ _ (by omega)]

theorem putArgs_get : ∀ (l : List AV) (t : Env) (i j : Nat) (v : AV), l[j]? = some v → t.has (i + j) = true → (putArgs t i l).get .any (i + j) = v
  | [], _, _, _, _, h, _ => by simp at h
  | u :: r, t, i, 0, v, h, hh => by
    simp at h; subst h
    simp only [putArgs, Nat.add_zero]
    rw [putArgs_old r _ _ _ (by omega)]
    exact Tr.get_set_eq _ _ _ hh
  | u :: r, t, i, j + 1, v, h, hh => by
    simp only [putArgs]
    rw [show i + (j + 1) = i + 1 + j by omega] at hh ⊢
    exact putArgs_get r _ _ j v (by simpa using h) (by rw [Tr.has_set]; exact hh)

theorem startV_get {args : List AV} : ∀ {keep : List Nat} {k i : Nat} {v : AV}, keep[k]? = some i → (startV keep args).getD k none = some v → args[i]? = some v
  | [], _, _, _, h, _ => by simp at h
  | x :: r, 0, i, v, h, hv => by simp at h; subst h; simpa [startV] using hv
  | x :: r, k + 1, i, v, h, hv => startV_get (by simpa using h) (by simpa [startV] using hv)

theorem startV_length (args : List AV) : ∀ (keep : List Nat), (startV keep args).length = keep.length
  | [] => rfl
  | _ :: r => by simp [startV, startV_length args r]


/-- a piece of code and its plainer form -/
inductive SimC (c : Cfg) (keep : List Nat) (nt : Nat) : Code → IR → Prop where
  | stuck (a : Code) : SimC c keep nt a .stuck
  | own (a : Code) (l : List Own) (x : IR) (h : SimC c keep nt a x) : SimC c keep nt a (.seq (.own l) x)
  | after (a : Code) (l : List Own) (x : IR) (h : SimC c keep nt a x) : SimC c keep nt a (.seq x (.own l))
  | skip : SimC c keep nt .skip .skip
  | label (l : Nat) : SimC c keep nt (.label l) .skip
  | ret : SimC c keep nt .ret .ret
  | exit (i : Nat) : SimC c keep nt (.exit i) (.exit i)
  | seq (a b : Code) (x y : IR) (h1 : SimC c keep nt a x) (h2 : SimC c keep nt b y) : SimC c keep nt (.seq a b) (.seq x y)
  | block (i : Nat) (a : Code) (x : IR) (h : SimC c keep nt a x) : SimC c keep nt (.block i a) (.block i x)
  | cond (t k : Nat) (a b : Code) (x y : IR) (hk : posOf keep t = some k) (h1 : SimC c keep nt a x) (h2 : SimC c keep nt b y) : SimC c keep nt (.cond (.tmp t) a b) (.cond k x y)
  | yes (v : Value) (a b : Code) (x : IR) (hv : ofVal v = .bool true) (h : SimC c keep nt a x) : SimC c keep nt (.cond (.const v) a b) x
  | no (v : Value) (a b : Code) (x : IR) (hv : ofVal v = .bool false) (h : SimC c keep nt b x) : SimC c keep nt (.cond (.const v) a b) x
  | loop (k : List Nat) (a : Code) (x : IR) (h : SimC c keep nt a x) : SimC c keep nt (.loop a) (.loop k x)
  | region (id : Nat) (ops : Array Oper) (dr : Bool) (x : IR) (h : lowR c keep nt ops dr = some x) : SimC c keep nt (.region id ops dr) x

theorem sim_seqOwn {c : Cfg} {keep : List Nat} {nt : Nat} {a : Code} {x : IR} (h : SimC c keep nt a x) (l : List Own) : SimC c keep nt a (seqOwn l x) := by
  unfold seqOwn; split
  · exact h
  · exact .own a _ x h
theorem sim_ownSeq {c : Cfg} {keep : List Nat} {nt : Nat} {a : Code} {x : IR} (h : SimC c keep nt a x) (l : List Own) : SimC c keep nt a (ownSeq x l) := by
  unfold ownSeq; split
  · exact h
  · exact .after a _ x h

theorem sim_low {c : Cfg} {keep : List Nat} {nt n ret : Nat} : ∀ (a : Code) (ir : IR), lowC c keep nt a = some ir → ∀ (xs : List (Nat × Nat)) (out : Nat), SimC c keep nt a (annot c n ret ir xs out) := by
  intro a
  induction a <;> intro ir hl xs out <;> try simp only [lowC] at hl
  case skip => cases hl; exact .skip
  case label => cases hl; exact .label _
  case ret => cases hl; exact .ret
  case exit => cases hl; exact .exit _
  case seq a b ih1 ih2 =>
    split at hl
    · rename_i ha hb; cases hl; exact .seq _ _ _ _ (ih1 _ ha _ _) (ih2 _ hb _ _)
    · cases hl
  case block i a ih =>
    split at hl
    · rename_i ha; cases hl; exact .block _ _ _ (ih _ ha _ _)
    · cases hl
  case cond x a b ih1 ih2 =>
    cases x with
    | tmp x =>
      simp only [lowC] at hl
      split at hl
      · rename_i hk ha hb; cases hl; exact .cond _ _ _ _ _ _ hk (ih1 _ ha _ _) (ih2 _ hb _ _)
      · cases hl
    | const u =>
      simp only [lowC] at hl
      split at hl
      · rename_i hu; exact .yes _ _ _ _ hu (ih1 _ hl _ _)
      · rename_i hu; exact .no _ _ _ _ hu (ih2 _ hl _ _)
      · cases hl; exact .stuck _
    | func f => simp only [lowC] at hl; cases hl; exact .stuck _
    | global g => simp only [lowC] at hl; cases hl; exact .stuck _
  case loop a ih =>
    split at hl
    · rename_i ha; cases hl; exact sim_seqOwn (.loop _ _ _ (ih _ ha _ _)) _
    · cases hl
  case region id ops dr =>
    have hl2 := hl
    unfold lowR at hl2
    split at hl2
    · split at hl2
      · cases hl2; exact sim_ownSeq (.region _ _ _ _ hl) _
      · cases hl2
    · cases hl2
  all_goals (cases hl; exact .stuck _)

/-- the variables say what the temporaries hold in the model -/
def VRel (keep : List Nat) (nt : Nat) (g : Gh) (w : World) (v : List (Option AV)) (a : Act) : Prop := ∃ t, RelV keep nt v t ∧ TRel g w t a

def SPostI (keep : List Nat) (nt : Nat) (g : Gh) (w : World) (v' : List (Option AV)) (b' : List Box) (a' : Act) (w' : World) : Prop :=
  a'.defers = [] ∧ ∃ g', Mem g' b' w' ∧ VRel keep nt g' w' v' a' ∧ Le g w g' w' ∧ Fr g w g' w'

/-! ### Slices of one's own -/

/-- a box for an empty slice without a block -/
def Gh.emp (g : Gh) (k sz : Nat) : Gh := { S := g.S, e := fun j => if j = k then .sl 0 sz none else g.e j }

theorem emp_le {g : Gh} {k : Nat} (hk : g.e k = .no) (sz : Nat) (w : World) : Le g w (g.emp k sz) w where
  S := fun _ _ h => h
  cell := fun _ _ _ => rfl
  e := fun j => by
    simp only [Gh.emp]
    split
    · rename_i h; subst h; rw [hk]; exact .no _
    · exact .same _

theorem emp_blk {g : Gh} {k sz j b : Nat} (h : ((g.emp k sz).e j).blk = some b) : j ≠ k ∧ (g.e j).blk = some b := by
  simp only [Gh.emp] at h
  split at h
  · cases h
  · rename_i hj; exact ⟨hj, h⟩

theorem at_app (b : List Box) (x : Box) (k : Nat) : Box.at (b ++ [x]) k = if k = b.length then x else Box.at b k := by
  simp only [Box.at, List.getD_eq_getElem?_getD]
  by_cases h1 : k < b.length
  · rw [List.getElem?_append_left h1, if_neg (by omega)]
  · by_cases h2 : k = b.length
    · subst h2; simp
    · rw [if_neg h2, List.getElem?_eq_none (by simp; omega), List.getElem?_eq_none (by omega)]

theorem fresh {g : Gh} {b : List Box} {w : World} (hm : Mem g b w) : g.e b.length = .no := hm.no _ (by simp [Box.at])

theorem Mem.emp {g : Gh} {b : List Box} {w : World} (hm : Mem g b w) (el : TypeId) (sz : Nat) : Mem (g.emp b.length sz) (b ++ [.sl ⟨false, some el⟩ sz []]) w := by
  have hle := emp_le (fresh hm) sz w
  refine ⟨fun k hk => ?_, fun k ty cs hk => ?_, fun k sh sz' es hk => ?_, fun k l b' hk hl => ?_, fun b' o hb => ?_⟩
  · rw [at_app] at hk
    split at hk
    · cases hk
    · rename_i h; simp only [Gh.emp, if_neg h]; exact hm.no k hk
  · rw [at_app] at hk
    split at hk
    · cases hk
    · rename_i h
      obtain ⟨b', h1, h2⟩ := hm.var k ty cs hk
      exact ⟨b', by simp only [Gh.emp, if_neg h]; exact h1, h2.mono hle rfl⟩
  · rw [at_app] at hk
    split at hk
    · rename_i h
      cases hk
      exact ⟨none, by simp only [Gh.emp, if_pos h]; rfl, fun i e he => (by simp at he), rfl⟩
    · rename_i h
      obtain ⟨loc, h1, h2⟩ := hm.sl k sh sz' es hk
      exact ⟨loc, by simp only [Gh.emp, if_neg h]; exact h1, h2.mono hle (fun _ _ => rfl)⟩
  · exact hm.inj k l b' (emp_blk hk).2 (emp_blk hl).2
  · obtain ⟨h1, h2⟩ := hm.stab b' o hb
    refine ⟨h1, fun k hk => ?_⟩
    obtain ⟨hne, hk'⟩ := emp_blk hk
    obtain ⟨ty, sz', es, h3, h4⟩ := h2 k hk'
    exact ⟨ty, sz', es, by rw [at_app, if_neg hne]; exact h3, h4⟩

theorem nil_osl {g : Gh} {w : World} {z : Nat} {v : Value} (h : Rd g w (.lst (some true) z []) v) {g' : Gh} {k sz : Nat} (hk : g'.e k = .sl 0 sz none) : Rd g' w (.osl k 0) v := by
  cases h with
  | lst nl sz' es a cap b off vals hnl hnil hcap ha hp hc h =>
    have ha : a = none := by have := hnl true rfl; cases a with
      | none => rfl
      | some x => cases this
    obtain ⟨_, rfl⟩ := hnil ha
    subst ha
    exact .osl k 0 0 sz none _ rfl hk (Nat.le_refl _) (fun _ => .inr ⟨rfl, rfl, none, rfl⟩)

theorem Mem.set_var {g : Gh} {b : List Box} {w : World} (hm : Mem g b w) {k : Nat} {ty : TypeId} {cs : List AV} (hb : Box.at b k = .var ty cs) {i : Nat} {x : AV} (hx : ∀ v, (∀ y, cs[i]? = some y → Rd g w y v) → Rd g w x v) : Mem g (b.set k (.var ty (cs.set i x))) w := by
  have hlt : k < b.length := at_lt (by rw [hb]; simp)
  have hat : ∀ j, Box.at (b.set k (.var ty (cs.set i x))) j = if j = k then .var ty (cs.set i x) else Box.at b j := fun j => by
    simp only [Box.at, List.getD_eq_getElem?_getD]
    by_cases h : j = k
    · subst h; simp [hlt]
    · rw [if_neg h, List.getElem?_set_ne (Ne.symm h)]
  refine ⟨fun j hj => ?_, fun j ty' cs' hj => ?_, fun j sh sz es hj => ?_, hm.inj, fun b' o hs => ?_⟩
  · rw [hat] at hj
    split at hj
    · cases hj
    · exact hm.no j hj
  · rw [hat] at hj
    split at hj
    · rename_i h; subst h
      cases hj
      obtain ⟨b', h1, c, h2, h3, h4⟩ := hm.var _ ty cs hb
      refine ⟨b', h1, c, h2, by simpa using h3, fun l y v hy hv => ?_⟩
      by_cases hl : i = l
      · subst hl
        have hil : i < cs.length := by have := getElem?_lt hy; simpa using this
        simp [hil] at hy
        subst hy
        exact hx v (fun y hy => h4 i y v hy hv)
      · rw [List.getElem?_set_ne hl] at hy
        exact h4 l y v hy hv
    · exact hm.var j ty' cs' hj
  · rw [hat] at hj
    split at hj
    · cases hj
    · exact hm.sl j sh sz es hj
  · obtain ⟨h1, h2⟩ := hm.stab b' o hs
    refine ⟨h1, fun j hj => ?_⟩
    obtain ⟨ty', sz, es, h3, h4⟩ := h2 j hj
    refine ⟨ty', sz, es, ?_, h4⟩
    rw [hat, if_neg]
    · exact h3
    · intro h; subst h; rw [hb] at h3; cases h3

theorem own1_ok {keep : List Nat} {nt : Nat} {g : Gh} {w : World} {v : List (Option AV)} {b : List Box} {a : Act} (hm : Mem g b w) (hv : VRel keep nt g w v a) (o : Own) :
    ∃ g', Mem g' (own1 o v b).2 w ∧ VRel keep nt g' w (own1 o v b).1 a ∧ Le g w g' w ∧ Fr g w g' w := by
  have same : ∃ g', Mem g' b w ∧ VRel keep nt g' w v a ∧ Le g w g' w ∧ Fr g w g' w := ⟨g, hm, hv, Le.refl g w, Fr.refl g w⟩
  have hfr : ∀ sz, Fr g w (g.emp b.length sz) w := fun sz => ⟨Nat.le_refl _, fun b' _ h => ⟨rfl, fun k hk => h k (emp_blk hk).2, fun _ h => h⟩, rfl, rfl, rfl⟩
  unfold own1
  split
  · split
    · rename_i z hs
      obtain ⟨t, hr, ht⟩ := hv
      refine ⟨g.emp b.length o.sz, hm.emp o.el o.sz, ?_, emp_le (fresh hm) _ w, hfr _⟩
      by_cases hex : ∃ j, posOf keep j = some o.slot
      · obtain ⟨j, hj⟩ := hex
        have htj := hr.env j o.slot _ hj hs
        refine ⟨t.set j (.osl b.length 0), ⟨by rw [List.length_set]; exact hr.len, fun i hi => by rw [Tr.has_set]; exact hr.has i hi, fun i k u hk hu => ?_⟩, fun i hi => ?_⟩
        · by_cases hij : i = j
          · subst hij
            rw [hj] at hk; cases hk
            have hlt : o.slot < v.length := by rw [hr.len]; exact (List.getElem?_eq_some_iff.1 (posOf_get hj)).1
            simp [List.getD_eq_getElem?_getD, hlt] at hu
            subst hu
            refine Tr.get_set_eq _ _ _ ?_
            cases hh : t.has i with
            | true => rfl
            | false => rw [Tr.get_has_not _ _ hh] at htj; cases htj
          · rw [Tr.get_set_ne _ _ _ (Ne.symm hij)]
            refine hr.env i k u hk ?_
            have : o.slot ≠ k := fun e => hij (posOf_inj hk (e ▸ hj))
            simp only [List.getD_eq_getElem?_getD] at hu ⊢
            rwa [List.getElem?_set_ne this] at hu
        · rw [Tr.has_set] at hi
          obtain ⟨h1, h2⟩ := ht i hi
          refine ⟨h1, ?_⟩
          by_cases hij : i = j
          · subst hij
            rw [Tr.get_set_eq _ _ _ hi]
            rw [htj] at h2
            exact nil_osl (sz := o.sz) h2 (by simp [Gh.emp])
          · rw [Tr.get_set_ne _ _ _ (Ne.symm hij)]
            exact h2.mono (emp_le (fresh hm) _ w)
      · refine ⟨t, ⟨by rw [List.length_set]; exact hr.len, hr.has, fun i k u hk hu => ?_⟩, ht.mono (emp_le (fresh hm) _ w)⟩
        refine hr.env i k u hk ?_
        have : o.slot ≠ k := fun e => hex ⟨i, e ▸ hk⟩
        simp only [List.getD_eq_getElem?_getD] at hu ⊢
        rwa [List.getElem?_set_ne this] at hu
    · exact same
  · rename_i off hoff
    split
    · rename_i k base hs
      split
      · rename_i ty cs hb
        split
        · rename_i z hc
          obtain ⟨t, hr, ht⟩ := hv
          have hm1 := hm.emp o.el o.sz
          have hlt : k < b.length := at_lt (by rw [hb]; simp)
          have hb1 : Box.at (b ++ [.sl ⟨false, some o.el⟩ o.sz []]) k = .var ty cs := by rw [at_app, if_neg (by omega)]; exact hb
          have hm2 := hm1.set_var hb1 (i := base + off) (x := .osl b.length 0) (fun u hu => nil_osl (sz := o.sz) (hu _ hc) (by simp [Gh.emp]))
          rw [List.set_append_left _ _ hlt] at hm2
          exact ⟨g.emp b.length o.sz, hm2, ⟨t, hr, ht.mono (emp_le (fresh hm) _ w)⟩, emp_le (fresh hm) _ w, hfr _⟩
        · exact same
      · exact same
    · exact same

theorem ownAll_ok {keep : List Nat} {nt : Nat} {w : World} {a : Act} : ∀ (l : List Own) {g : Gh} {v : List (Option AV)} {b : List Box}, Mem g b w → VRel keep nt g w v a →
    ∃ g', Mem g' (ownAll l v b).2 w ∧ VRel keep nt g' w (ownAll l v b).1 a ∧ Le g w g' w ∧ Fr g w g' w
  | [], g, v, b, hm, hv => ⟨g, hm, hv, Le.refl g w, Fr.refl g w⟩
  | o :: r, g, v, b, hm, hv => by
    obtain ⟨g1, h1, h2, h3, h4⟩ := own1_ok hm hv o
    obtain ⟨g2, k1, k2, k3, k4⟩ := ownAll_ok r h1 h2
    exact ⟨g2, k1, k2, h3.trans k3, h4.trans k4⟩

/-! ### The evaluator is sound -/

section
variable {P : Program} {c : Cfg}

theorem VRel.start {g : Gh} {w : World} {xs : List AV} {vs : Array Value} (h : RdAll g w xs vs.toList) {keep : List Nat} {nt : Nat} (hnt : nt < 10000) (hk : ∀ i ∈ keep, i < nt) : VRel keep nt g w (startV keep xs) { tmps := vs ++ Array.replicate (nt - vs.size) undef, defers := [] } := by
  have hpow : nt < 2 ^ 24 := by
    have : (2 : Nat) ^ 24 = 16777216 := by decide
    omega
  refine ⟨Am.start nt xs, ⟨startV_length _ _, fun i hi => ?_, fun i k v hk' hv => ?_⟩, start_rel h nt⟩
  · unfold Am.start; rw [putArgs_has]; exact Tr.has_mk' _ _ _ _ hi hpow
  · have h1 := posOf_get hk'
    have h2 := startV_get h1 hv
    have h3 : i < nt := hk i (List.mem_of_getElem? h1)
    have := putArgs_get xs (Tr.mk .any 24 nt) 0 i v h2 (by rw [Nat.zero_add]; exact Tr.has_mk' _ _ _ _ h3 hpow)
    rw [Nat.zero_add] at this
    exact this

/-- what the code of a function does, with so much fuel -/
def CodeOk (P : Program) (c : Cfg) (m : Nat) : Prop := ∀ (keep : List Nat) (nt : Nat) (code : Code) (ir : IR) (v : List (Option AV)) (b : List Box) (ex : Ex) (v' : List (Option AV)) (b' : List Box) (g : Gh) (a : Act) (w : World),
  SimC c keep nt code ir → execI c m ir v b = some (ex, v', b') → Mem g b w → VRel keep nt g w v a → a.defers = [] → code.wp P (fun e a' w' => ExIs ex e ∧ SPostI keep nt g w v' b' a' w') a w

theorem calls_ok (hc : CfgOk c P) {m : Nat} (hex : CodeOk P c m) : CfOk P (cfN c m) := by
  intro f xs bs r bs' h
  unfold cfN callI at h
  split at h
  · rename_i fn hfn
    obtain ⟨hf1, hf2⟩ := hc.fn f fn hfn
    split at h
    · rename_i L hL
      unfold lowF at hL
      split at hL
      · cases hL
      · rename_i body hb
        unfold lowWith at hL
        rw [hb] at hL
        simp only at hL
        split at hL
        · rename_i rs ir hrs hir hnt
          cases hL
          simp only [Bool.and_eq_true, decide_eq_true_eq, List.all_eq_true] at hnt
          refine ⟨⟨fn, hf1, hf2, by rw [hb]; rfl⟩, fun g w vs hm hx => ?_⟩
          have ends : ∀ (ex : Ex) (v' : List (Option AV)) (b' : List Box), execI c m (annot c (keepF c fn body).length (resBits rs) ir [] (resBits rs)) (startV (keepF c fn body) xs) bs = some (ex, v', b') → (ex = .normal ∨ ex = .ret) → endI c rs bs.length v' b' = some (r, bs') → Calls P f vs w (CPost g w bs' r) := by
            intro ex v' b' he hex' hend
            refine calls_of_wp hf1 hb (Code.wp_mono ?_ (hex (keepF c fn body) fn.ntmps body _ _ bs ex v' b' g _ w (sim_low body ir hir _ _) he hm (VRel.start hx hnt.1 hnt.2) rfl))
            intro e a' w' hpost
            obtain ⟨hexi, hd, g', hm', ⟨t', hr', ht'⟩, hl', hf'⟩ := hpost
            unfold endI at hend
            split at hend
            · rename_i rvs hrvs
              have hres := results_ok hr' hrs hrvs
              obtain ⟨u, hu, ru⟩ := oneOr_run (P := P) hc.ty hm' ht' hres
              have hho : handOver bs.length ⟨t', b'⟩ (oneOr rvs) = some (r, bs') := by
                unfold handI at hend
                unfold handOver
                rw [cut_b]
                exact hend
              obtain ⟨g'', k1, k2, k3, k4⟩ := handOver_run hm (s := ⟨t', b'⟩) hm' hl' hf' ru hho
              rcases hex' with rfl | rfl
              · cases e <;> simp only [ExIs] at hexi
                exact ⟨hd, u, hu, u, g'', rfl, k1, k2, k3, k4⟩
              · cases e <;> simp only [ExIs] at hexi
                exact ⟨hd, u, hu, u, g'', rfl, k1, k2, k3, k4⟩
            · cases hend
          unfold endX at h
          split at h
          · rename_i v' b' he; exact ends .normal v' b' he (.inl rfl) h
          · rename_i v' b' he; exact ends .ret v' b' he (.inr rfl) h
          · cases h
        · cases hL
    · cases h
  · cases h

theorem SPostI.trans {keep : List Nat} {nt : Nat} {g g1 : Gh} {w w1 : World} {v' : List (Option AV)} {b' : List Box} {a' : Act} {w' : World} (hl : Le g w g1 w1) (hf : Fr g w g1 w1) (h : SPostI keep nt g1 w1 v' b' a' w') : SPostI keep nt g w v' b' a' w' := by
  obtain ⟨hd, g2, hm, hv, hl2, hf2⟩ := h
  exact ⟨hd, g2, hm, hv, hl.trans hl2, hf.trans hf2⟩

theorem region_ok (hc : CfgOk c P) {m : Nat} (hcf : CfOk P (cfN c m)) {keep : List Nat} {nt id : Nat} {ops : Array Oper} {dr : Bool} {n : Nat} {kl : List Nat} {its : List It} {v v' : List (Option AV)} {b b' : List Box} {g : Gh} {a : Act} {w : World}
    (hl : lowR c keep nt ops dr = some (.reg n kl its)) (hrun : runIts c (cfN c m) b.length kl its v (b ++ List.replicate n .dead) = some (v', b')) (hm : Mem g b w) (hv : VRel keep nt g w v a) (hd : a.defers = []) :
    (Code.region id ops dr).wp P (fun e a' w' => ExIs .normal e ∧ SPostI keep nt g w v' b' a' w') a w := by
  unfold lowR at hl
  split at hl
  · rename_i hdr
    split at hl
    · rename_i its' hits
      cases hl
      obtain ⟨t, hr, ht⟩ := hv
      have hk : dr = true → ∀ i, ∀ x ∈ maskIds (bef ops) i ops.toList 0 0, x ∈ (match dr with | true => List.range (askCount ops.toList) | false => ([] : List Nat)) := fun h i x hx => by
        subst h
        have := maskIds_lt ops.toList 0 0 hx
        simp only [List.mem_range]
        omega
      obtain ⟨t', h1, h2⟩ := lowOps_ok hk ops.toList 0 [] its v _ t v' b' hits ⟨hr.len, hr.has, fun i e h => (by cases h), fun i e v h => (by cases h), fun i k u _ hk hu => hr.env i k u hk hu⟩ hrun
      have hrv : RelV keep nt v' t' := ⟨h2.len, h2.has, fun i k u hk hu => h2.env i k u rfl hk hu⟩
      have post : ∀ (a' : Act) (w' : World), SPost g w ⟨t', b'⟩ a' w' → ExIs .normal .normal ∧ SPostI keep nt g w v' b' a' w' := by
        rintro a' w' ⟨hd', g', k1, k2, k3, k4⟩
        exact ⟨trivial, hd', g', k1, ⟨t', hrv, k2⟩, k3, k4⟩
      cases dr with
      | false =>
        have h3 := runOps_U (c := c) (cf := cfN c m) (ops := ops) b.length ops.toList 0 t (b ++ List.replicate (askCount ops.toList) .dead) (fun j => by rw [Nat.zero_add])
        rw [show idOf ops.toList 0 b.length = b.length by cases ops.toList <;> rfl] at h3
        rw [h1] at h3
        exact wp_region_list (runOps_wp hc.ty hcf hc.ov (g0 := g) (w0 := w) (fun a' w' hp => post a' w' hp) ops.toList _ _ _ g w a h3 (hm.pad _) ht hd (Le.refl g w) (Fr.refl g w))
      | true =>
        have hdr : drawOk ops = true := by simpa using hdr
        rw [← runD_U, steps_of_run ops.toList 0 _ (fun j => by simp)] at h1
        have hl : Le g w g w.drew := ⟨fun _ _ h => h, fun _ _ _ => rfl, fun _ => .same _⟩
        have hf : Fr g w g w.drew := ⟨Nat.le_refl _, fun _ _ h => ⟨rfl, h, fun _ h => h⟩, rfl, rfl, rfl⟩
        have hmd : Mem g (b ++ List.replicate (askCount ops.toList) .dead) w.drew := ⟨(hm.pad _).no, fun k ty cs hk => by
            obtain ⟨b, h1, h2⟩ := (hm.pad _).var k ty cs hk
            exact ⟨b, h1, h2.mono hl rfl⟩, fun k sh sz es hk => by
            obtain ⟨loc, h1, h2⟩ := (hm.pad _).sl k sh sz es hk
            exact ⟨loc, h1, h2.mono hl (fun _ _ => rfl)⟩, hm.inj, (hm.pad _).stab⟩
        refine wp_region_any hc.mixed (draw_any hc.ty hcf hc.ov hdr (g0 := g) (w0 := w) (fun a' w' hp => post a' w' hp) ops.size (List.range' 0 ops.toList.length) (Array.replicate ops.size false) _ g w.drew a (by simp) (List.pairwise_lt_range') (by simp) (fun j => ?_) (fun j x hj hlj => ?_) h1 hmd (ht.mono hl) hd hl hf)
        · simp only [List.mem_range'_1, Array.length_toList]
          constructor
          · intro hj; exact ⟨by omega, by simp [show j < ops.size by omega]⟩
          · intro hj; omega
        · simp [hj] at hlj
    · cases hl
  · cases hl

theorem execI_sound (hc : CfgOk c P) : ∀ (m : Nat), CodeOk P c m ∧
    ∀ (keep : List Nat) (nt : Nat) (k : List Nat) (x : Code) (y : IR) (v : List (Option AV)) (b : List Box) (ex : Ex) (v' : List (Option AV)) (b' : List Box) (g : Gh) (a : Act) (w : World), SimC c keep nt x y → execI c m (.loop k y) v b = some (ex, v', b') → Mem g b w → VRel keep nt g w v a → a.defers = [] →
      Code.rounds P x (fun e a' w' => ExIs ex e ∧ SPostI keep nt g w v' b' a' w') m a w := by
  intro m
  induction m with
  | zero => exact ⟨(fun keep nt code ir v b ex v' b' g a w _ h => by cases h), (fun keep nt k x y v b ex v' b' g a w _ h => by cases h)⟩
  | succ m ih' =>
    obtain ⟨ih, ihl⟩ := ih'
    have loops : ∀ (keep : List Nat) (nt : Nat) (k : List Nat) (x : Code) (y : IR) (v : List (Option AV)) (b : List Box) (ex : Ex) (v' : List (Option AV)) (b' : List Box) (g : Gh) (a : Act) (w : World), SimC c keep nt x y → execI c (m + 1) (.loop k y) v b = some (ex, v', b') → Mem g b w → VRel keep nt g w v a → a.defers = [] →
        Code.rounds P x (fun e a' w' => ExIs ex e ∧ SPostI keep nt g w v' b' a' w') (m + 1) a w := by
      intro keep nt k x y v b ex v' b' g a w hs h hm hv hd
      rw [rounds_succ]
      obtain ⟨t, hr, ht⟩ := hv
      have hvk : VRel keep nt g w (killV k v) a := ⟨t, hr.kill k, ht⟩
      have h' : thenE (execI c m y (killV k v) b) (fun v' b' => execI c m (.loop k y) (cutV b.length v' b') (cutB b.length b')) = some (ex, v', b') := h
      cases hx : execI c m y (killV k v) b with
      | none => rw [hx] at h'; cases h'
      | some p =>
        obtain ⟨ex1, v1, b1⟩ := p
        have h1 := ih keep nt x y _ b ex1 v1 b1 g a w hs hx hm hvk hd
        rw [hx] at h'
        cases ex1 with
        | normal =>
          simp only [thenE] at h'
          refine Code.wp_mono ?_ h1
          rintro e a' w' ⟨he, hd', g', hm', ⟨t', hr', ht'⟩, hl', hf'⟩
          cases e <;> simp only [ExIs] at he
          obtain ⟨g2, hm2, ht2, hl2, hf2⟩ := cut_mem (s := ⟨t', b1⟩) hm' ht' b.length
          rw [cut_b] at hm2
          have hv2 : VRel keep nt g2 w' (cutV b.length v1 b1) a' := ⟨_, RelV.cut (s := ⟨t', b1⟩) hr' b.length, ht2⟩
          refine rounds_mono ?_ m a' w' (ihl keep nt k x y _ _ ex v' b' g2 a' w' hs h' hm2 hv2 hd')
          rintro e a3 w3 ⟨he3, hp3⟩
          exact ⟨he3, SPostI.trans (hl2 g w b hm (Nat.le_refl _) hl') (hf'.trans hf2) hp3⟩
        | ret =>
          cases h'
          refine Code.wp_mono ?_ h1
          intro e a' w' hp
          have he := hp.1
          cases e <;> simp only [ExIs] at he
          exact hp
        | exit id =>
          cases h'
          refine Code.wp_mono ?_ h1
          intro e a' w' hp
          have he := hp.1
          cases e <;> simp only [ExIs] at he
          exact hp
    refine ⟨?_, loops⟩
    have hcf := calls_ok hc ih
    intro keep nt code ir v b ex v' b' g a w hs
    induction hs generalizing v b ex v' b' g a w with
    | stuck a => intro h; cases h
    | own cd l x hx ihx =>
      intro h hm hv hd
      have h' : thenE (execI c m (.own l) v b) (execI c m x) = some (ex, v', b') := h
      cases m with
      | zero => cases h'
      | succ m =>
        obtain ⟨g1, k1, k2, k3, k4⟩ := ownAll_ok l hm hv
        have h2 : execI c (m + 1) x (ownAll l v b).1 (ownAll l v b).2 = some (ex, v', b') := h'
        refine Code.wp_mono ?_ (ihx _ _ _ _ _ g1 a w (execI_succ c _ _ _ _ _ h2) k1 k2 hd)
        rintro e a' w' ⟨he, hp⟩
        exact ⟨he, SPostI.trans k3 k4 hp⟩
    | after cd l x hx ihx =>
      intro h hm hv hd
      have h' : thenE (execI c m x v b) (execI c m (.own l)) = some (ex, v', b') := h
      cases hxx : execI c m x v b with
      | none => rw [hxx] at h'; cases h'
      | some p =>
        obtain ⟨ex1, v1, b1⟩ := p
        have h1 := ihx _ _ _ _ _ g a w (execI_succ c _ _ _ _ _ hxx) hm hv hd
        rw [hxx] at h'
        refine Code.wp_mono ?_ h1
        rintro e a' w' ⟨he, hd', g', hm', hv', hl', hf'⟩
        cases ex1 with
        | normal =>
          cases m with
          | zero => cases h'
          | succ m =>
            have h2 : some (Ex.normal, (ownAll l v1 b1).1, (ownAll l v1 b1).2) = some (ex, v', b') := h'
            cases h2
            obtain ⟨g1, k1, k2, k3, k4⟩ := ownAll_ok l hm' hv'
            exact ⟨he, hd', g1, k1, k2, hl'.trans k3, hf'.trans k4⟩
        | ret => cases h'; exact ⟨he, hd', g', hm', hv', hl', hf'⟩
        | exit i => cases h'; exact ⟨he, hd', g', hm', hv', hl', hf'⟩
    | skip => intro h hm hv hd; cases h; exact wp_skip ⟨trivial, hd, g, hm, hv, Le.refl g w, Fr.refl g w⟩
    | label l => intro h hm hv hd; cases h; exact wp_label ⟨trivial, hd, g, hm, hv, Le.refl g w, Fr.refl g w⟩
    | ret => intro h hm hv hd; cases h; exact wp_ret ⟨trivial, hd, g, hm, hv, Le.refl g w, Fr.refl g w⟩
    | exit i => intro h hm hv hd; cases h; exact wp_exit ⟨rfl, hd, g, hm, hv, Le.refl g w, Fr.refl g w⟩
    | seq c1 c2 x y hx hy ihx ihy =>
      intro h hm hv hd
      have h' : thenE (execI c m x v b) (execI c m y) = some (ex, v', b') := h
      refine wp_seq ?_
      cases hxx : execI c m x v b with
      | none => rw [hxx] at h'; cases h'
      | some p =>
        obtain ⟨ex1, v1, b1⟩ := p
        have h1 := ih keep nt c1 x v b ex1 v1 b1 g a w hx hxx hm hv hd
        rw [hxx] at h'
        cases ex1 with
        | normal =>
          simp only [thenE] at h'
          refine Code.wp_mono ?_ h1
          rintro e a' w' ⟨he, hd', g', hm', hv', hl', hf'⟩
          cases e <;> simp only [ExIs] at he
          refine Code.wp_mono ?_ (ih keep nt c2 y v1 b1 ex v' b' g' a' w' hy h' hm' hv' hd')
          rintro e a2 w2 ⟨he2, hp2⟩
          exact ⟨he2, SPostI.trans hl' hf' hp2⟩
        | ret =>
          cases h'
          refine Code.wp_mono ?_ h1
          intro e a' w' hp
          have he := hp.1
          cases e <;> simp only [ExIs] at he
          exact hp
        | exit id =>
          cases h'
          refine Code.wp_mono ?_ h1
          intro e a' w' hp
          have he := hp.1
          cases e <;> simp only [ExIs] at he
          exact hp
    | block i cd x hx ihx =>
      intro h hm hv hd
      have h' : leaveE i (execI c m x v b) = some (ex, v', b') := h
      refine wp_block ?_
      unfold leaveE at h'
      split at h'
      · rename_i ex1 v1 b1 hxx
        cases h'
        refine Code.wp_mono ?_ (ih keep nt cd x v b ex1 _ _ g a w hx hxx hm hv hd)
        intro e a' w' hp
        have he := hp.1
        cases ex1 with
        | normal => cases e <;> simp only [ExIs] at he; exact hp
        | ret => cases e <;> simp only [ExIs] at he; exact hp
        | exit j =>
          cases e <;> simp only [ExIs] at he
          subst he
          simp only [Exit.inBlock, leave]
          split
          · exact ⟨trivial, hp.2⟩
          · exact hp
      · cases h'
    | cond t k c1 c2 x y hk hx hy ihx ihy =>
      intro h hm hv hd
      obtain ⟨tt, hr, ht⟩ := hv
      have h' : condE (vget v k) (execI c m x (v.set k none) b) (execI c m y (v.set k none) b) = some (ex, v', b') := h
      unfold condE at h'
      have hev := ht.ev (.tmp t)
      split at h'
      · rename_i hx1
        have e1 : ev tt (.tmp t) = .bool true := hr.env t k _ hk hx1
        rw [e1] at hev
        exact wp_cond_true hev.bool_inv (ih keep nt c1 x _ b ex v' b' g a w hx h' hm ⟨tt, hr.set_none k, ht⟩ hd)
      · rename_i hx1
        have e1 : ev tt (.tmp t) = .bool false := hr.env t k _ hk hx1
        rw [e1] at hev
        exact wp_cond_false hev.bool_inv (ih keep nt c2 y _ b ex v' b' g a w hy h' hm ⟨tt, hr.set_none k, ht⟩ hd)
      · cases h'
    | yes u c1 c2 x hu hx ihx =>
      intro h hm hv hd
      obtain ⟨tt, hr, ht⟩ := hv
      have hev := ht.ev (.const u)
      have e1 : ev tt (.const u) = .bool true := hu
      rw [e1] at hev
      exact wp_cond_true hev.bool_inv (ihx _ _ _ _ _ g a w h hm ⟨tt, hr, ht⟩ hd)
    | no u c1 c2 x hu hx ihx =>
      intro h hm hv hd
      obtain ⟨tt, hr, ht⟩ := hv
      have hev := ht.ev (.const u)
      have e1 : ev tt (.const u) = .bool false := hu
      rw [e1] at hev
      exact wp_cond_false hev.bool_inv (ihx _ _ _ _ _ g a w h hm ⟨tt, hr, ht⟩ hd)
    | loop k cd x hx ihx => intro h hm hv hd; exact wp_loop_rounds (m + 1) (loops keep nt k cd x v b ex v' b' g a w hx h hm hv hd)
    | region id ops dr x hx =>
      intro h hm hv hd
      have hx2 := hx
      unfold lowR at hx2
      split at hx2
      · split at hx2
        · cases hx2
          have h' : regE (runIts c (cfN c m) b.length _ _ v (b ++ List.replicate _ .dead)) = some (ex, v', b') := h
          unfold regE at h'
          split at h'
          · rename_i hrun
            cases h'
            exact region_ok hc hcf hx hrun hm hv hd
          · cases h'
        · cases hx2
      · cases hx2

/-- how a function's answer reads in the model -/
theorem ansF_sound (hc : CfgOk c P) {f : FuncId} {xs : List AV} {bs : List Box} {r : AV} {bs' : List Box} (h : ansF c f xs bs = some (r, bs')) (g : Gh) (w : World) (vs : Array Value) (hm : Mem g bs w) (hx : RdAll g w xs vs.toList) : Calls P f vs w (CPost g w bs' r) := by
  obtain ⟨n, hn⟩ := ansF_iff.1 h
  exact (calls_ok hc (execI_sound hc n).1 f xs bs r bs' hn).2 g w vs hm hx
end

end Go.Am
