/-
 What the plainer form does: an evaluator with fuel, a predicate transformer, and that both are sound for the model.
-/
import Derived.Test.YtlolhkjjbgpfbaaGreatDoorAmIr2
set_option linter.all false
namespace Go.Am
def cutV (n : Nat) (v : List (Option AV)) (b : List Box) : List (Option AV) :=
 match decide (b.length ≤ n) with
 | true => v
 | false => v.map (Option.map (forget n))
def cutB (n : Nat) (b : List Box) : List Box :=
 match decide (b.length ≤ n) with
 | true => b
 | false => (b.take n).map (forgetBox n)
def killV : List Nat → List (Option AV) → List (Option AV)
 | [], v => v
 | i :: r, v => killV r (v.set i none)
def underV (k : List Nat) (n : Nat) : Nat → List (Option AV) → Bool
 | _, [] => true
 | i, none :: r => underV k n (i + 1) r
 | i, some a :: r => (a.under n || !k.contains (i + 1000)) && underV k n (i + 1) r
def keepBy (n : Nat) (b : List Box) (v : AV) : AV :=
 match v.under n with
 | true => v
 | false => match v.hand n b with
  | some v' => match v'.under n with
   | true => v'
   | false => .any
  | none => .any
def handV (n : Nat) (v : List (Option AV)) (b : List Box) : List (Option AV) := v.map (Option.map (keepBy n b))
def turnV (k : List Nat) (n : Nat) (v : List (Option AV)) (b : List Box) : List (Option AV) :=
 match decide (b.length ≤ n) with
 | true => v
 | false => match underV k n 0 (killV k v) with
  | true => handV n v b
  | false => v
def turnB (k : List Nat) (n : Nat) (v : List (Option AV)) (b : List Box) : List Box :=
 match decide (b.length ≤ n) with
 | true => b
 | false => match underV k n 0 (killV k v) with
  | true => cutB n b
  | false => b
def leave (i : Nat) : Ex → Ex
 | .exit j => if j = i then .normal else .exit j
 | e => e
def AV.isNil : AV → Bool
 | .lst nl _ es => (nl == some true) && es.isEmpty
 | _ => false
def lent1 (x : AV) (b : List Box) : List Box :=
 match x with
 | .osl k _ => match Box.at b k with
  | .sl sh sz es => b.set k (.sl ⟨true, sh.ty⟩ sz es)
  | _ => b
 | _ => b
def own1 (o : Own) (v : List (Option AV)) (b : List Box) : List (Option AV) × List Box :=
 match o.cell with
 | none => match vget v o.slot with
  | some x => if x.isNil = true then (if o.sz = 0 then (v, b) else (v.set o.slot (some (.osl b.length 0)), b ++ [.sl ⟨false, some o.el⟩ o.sz []])) else (v, if o.sz = 0 then lent1 x b else b)
  | none => (v, b)
 | some off => match vget v o.slot with
  | some (.ptr k base) => match Box.at b k with
   | .var ty cs => match cs[base + off]? with
    | some x => if x.isNil = true then (v, b.set k (.var ty (cs.set (base + off) (.osl b.length 0))) ++ [.sl ⟨false, some o.el⟩ o.sz []]) else (v, b)
    | none => (v, b)
   | _ => (v, b)
  | _ => (v, b)
def ownAll : List Own → List (Option AV) → List Box → List (Option AV) × List Box
 | [], v, b => (v, b)
 | o :: r, v, b => ownAll r (own1 o v b).1 (own1 o v b).2
def startV (keep : List Nat) (args : List AV) : List (Option AV) :=
 match keep with
 | [] => []
 | i :: r => args[i]? :: startV r args
def resI (c : Cfg) (v : List (Option AV)) (b : List Box) : Res → Option AV
 | .v i => vget v i
 | .cell i ty => match vget v i with
  | some (.ptr k off) => match Box.at b k, c.ti ty with
   | .var _ cs, some i => partA i cs off
   | _, _ => none
  | _ => none
def resultsI (c : Cfg) (v : List (Option AV)) (b : List Box) : List Res → Option (List AV)
 | [] => some []
 | r :: l => match resI c v b r with
  | some x => match resultsI c v b l with
   | some y => some (x :: y)
   | none => none
  | none => none
def handI (n : Nat) (b : List Box) (v : AV) : Option (AV × List Box) :=
 match v.hand n b with
 | some v' => match v'.under n with
  | true => some (v', cutB n b)
  | false => some (v, b)
 | none => none
def handW (own : Bool) (n : Nat) (b : List Box) (v : AV) : Option (AV × List Box) :=
 match own && !v.under n with
 | true => some (v, b)
 | false => handI n b v
def endI (c : Cfg) (own : Bool) (res : List Res) (n : Nat) (v : List (Option AV)) (b : List Box) : Option (AV × List Box) :=
 match resultsI c v b res with
 | some vs => handW own n b (oneOr vs)
 | none => none
def endX (c : Cfg) (own : Bool) (res : List Res) (n : Nat) (r : Option (Ex × List (Option AV) × List Box)) : Option (AV × List Box) :=
 match r with
 | some (.normal, v, b) => endI c own res n v b
 | some (.ret, v, b) => endI c own res n v b
 | _ => none
def endSt : Ex → LSt
 | .normal => .ready
 | e => .done e
def Ex.isNormal : Ex → Bool
 | .normal => true
 | _ => false
def yldEnd (n k : Nat) (r : Option (Ex × List (Option AV) × List Box)) : Option (AV × List Box) :=
 match r with
 | some (e, _, b) => match Box.at b k with
  | .loop .busy => some (.bool e.isNormal, cutB n (b.set k (.loop (endSt e))))
  | _ => none
 | none => none
def rngE (v : List (Option AV)) (n : Nat) (r : Option (AV × List Box)) : Option (Ex × List (Option AV) × List Box) :=
 match r with
 | some (_, b') => match Box.at b' n with
  | .loop .ready => some (.normal, cutV n v b', cutB n b')
  | .loop (.done e) => some (e, cutV n v b', cutB n b')
  | _ => none
 | none => none
def rngI (c : Cfg) (cf : CallF) (x : Nat) (s : Site) (v : List (Option AV)) (b : List Box) : Option (Ex × List (Option AV) × List Box) :=
 match vget v x with
 | some (.fn f [] caps) => match c.ext f with
  | some _ => none
  | none => rngE v b.length (cf (.fn f) (.yld b.length s (v.map (·.getD .any)) :: caps) (b ++ [.loop .ready]))
 | _ => none
def callI (c : Cfg) (ex : IR → List (Option AV) → List Box → Option (Ex × List (Option AV) × List Box)) : CallF := fun f args bs =>
 match f with
 | .fn f => match c.fn.get none f with
  | some fn => match lowF c fn with
   | some L => endX c (c.own f) L.res bs.length (ex L.code (startV L.keep args) bs)
   | none => none
  | none => none
 | .yld k s env => match lowSite c s with
  | some (asg, body) => match args.length == s.ps.size && env.length == s.keep.length with
   | true => match Box.at bs k with
    | .loop .ready => match ex asg (roundV s env args) bs with
     | some (.normal, v1, b1) => match Box.at b1 k with
      | .loop .ready => yldEnd bs.length k (ex body v1 (b1.set k (.loop .busy)))
      | _ => none
     | _ => none
    | _ => none
   | false => none
  | none => none
def thenE (r : Option (Ex × List (Option AV) × List Box)) (f : List (Option AV) → List Box → Option (Ex × List (Option AV) × List Box)) : Option (Ex × List (Option AV) × List Box) :=
 match r with
 | some (.normal, v, b) => f v b
 | r => r
def leaveE (i : Nat) (r : Option (Ex × List (Option AV) × List Box)) : Option (Ex × List (Option AV) × List Box) :=
 match r with
 | some (e, v, b) => some (leave i e, v, b)
 | none => none
def condE (x : Option AV) (p q : Option (Ex × List (Option AV) × List Box)) : Option (Ex × List (Option AV) × List Box) :=
 match x with
 | some (.bool true) => p
 | some (.bool false) => q
 | _ => none
def regE (r : Option (List (Option AV) × List Box)) : Option (Ex × List (Option AV) × List Box) :=
 match r with
 | some (v, b) => some (.normal, v, b)
 | none => none
def execI (c : Cfg) : Nat → IR → List (Option AV) → List Box → Option (Ex × List (Option AV) × List Box)
 | 0, _, _, _ => none
 | n + 1, ir, v, b =>
  match ir with
  | .skip => some (.normal, v, b)
  | .ret => some (.ret, v, b)
  | .stuck => none
  | .own l => some (.normal, (ownAll l v b).1, (ownAll l v b).2)
  | .exit i => some (.exit i, v, b)
  | .seq x y => thenE (execI c n x v b) (execI c n y)
  | .block i x => leaveE i (execI c n x v b)
  | .reg m kl its => regE (runIts c (callI c (execI c n)) b.length kl its v (b ++ List.replicate m .dead))
  | .cond x p q => condE (vget v x) (execI c n p (v.set x none) b) (execI c n q (v.set x none) b)
  | .loop k x => thenE (execI c n x (killV k v) b) fun v' b' => execI c n (.loop k x) (turnV k b.length v' b') (turnB k b.length v' b')
  | .rng x s => rngI c (callI c (execI c n)) x s v b
section
variable {c : Cfg} {f g : CallF}
theorem doOpE_le (h : CLe f g) {op : Op} {φ : Operand → AV} {bs : List Box} {id : Nat} {r : AV × Eff} (hr : doOpE c f op φ bs id = some r) : doOpE c g op φ bs id = some r := by
 unfold doOpE at hr ⊢
 split at hr
 ·split at hr
  ·split at hr
   ·split at hr
    ·exact hr
    ·exact callA_le h hr
   ·split at hr
    ·rename_i hf; rw [h _ _ _ _ hf]; exact hr
    ·cases hr
   ·cases hr
  ·exact hr
 ·exact hr
theorem softC_le {f g : CallF} (h : CLe f g) : CLe (softC f) (softC g) := fun t args bs r hr => by
 unfold softC at hr ⊢
 split at hr
 ·split at hr
  ·rename_i hf; rw [h _ _ _ _ hf]; exact hr
  ·rename_i hf; rw [h _ _ _ _ hf]; exact hr
  ·cases hr
 ·exact h _ _ _ _ hr
theorem softF_le {f g : CallF} (h : CLe f g) : ∀ b, CLe (softF f b) (softF g b)
 | true => h
 | false => softC_le h
theorem effI_le (h : CLe f g) {base : Nat} {mask : Option (List Nat)} {k : Nat} {o : Op} {vs : List (Nat × AV)} {bs : List Box} {r : AV × List Box} (hr : effI c f base mask k o vs bs = some r) : effI c g base mask k o vs bs = some r := by
 unfold effI at hr ⊢
 split at hr
 ·unfold hardI at hr ⊢
  split at hr
  ·rename_i hd; rw [doOpE_le h hd]; exact hr
  ·cases hr
 ·unfold softI at hr ⊢
  split at hr
  ·rename_i hd; rw [doOpE_le (softF_le h _) hd]; exact hr
  ·rename_i hd; rw [doOpE_le (softF_le h _) hd]; exact hr
  ·rename_i hd; rw [doOpE_le (softF_le h _) hd]; exact hr
  ·rename_i hd; rw [doOpE_le (softF_le h _) hd]; exact hr
  ·rename_i hd; rw [doOpE_le (softF_le h _) hd]; exact hr
  ·cases hr
theorem runIts_le (h : CLe f g) {base : Nat} {kl : List Nat} : ∀ (its : List It) (env : List (Option AV)) (bs : List Box) (r : List (Option AV) × List Box), runIts c f base kl its env bs = some r → runIts c g base kl its env bs = some r
 | [], _, _, _, hr => hr
 | .par l :: its, env, bs, r, hr => by
  simp only [runIts] at hr ⊢
  split at hr
  ·exact runIts_le h its _ _ r hr
  ·cases hr
 | .eff mask k d g' o xs :: its, env, bs, r, hr => by
  simp only [runIts] at hr ⊢
  split at hr
  ·split at hr
   ·split at hr
    ·rename_i he; rw [effI_le h he]; exact runIts_le h its _ _ r hr
    ·cases hr
   ·cases hr
  ·exact runIts_le h its _ _ r hr
  ·cases hr
end
abbrev cfN (c : Cfg) (n : Nat) : CallF := callI c (execI c n)
theorem callI_le {c : Cfg} {e e' : IR → List (Option AV) → List Box → Option (Ex × List (Option AV) × List Box)} (h : ∀ x v b r, e x v b = some r → e' x v b = some r) : CLe (callI c e) (callI c e') := fun f args bs r hr => by
 unfold callI at hr ⊢
 split at hr
 ·split at hr
  ·split at hr
   ·unfold endX at hr ⊢
    split at hr
    ·rename_i hx; rw [h _ _ _ _ hx]; exact hr
    ·rename_i hx; rw [h _ _ _ _ hx]; exact hr
    ·cases hr
   ·cases hr
  ·cases hr
 ·split at hr
  ·split at hr
   ·split at hr
    ·split at hr
     ·rename_i hx
      rw [h _ _ _ _ hx]
      simp only
      split at hr
      ·unfold yldEnd at hr ⊢
       split at hr
       ·rename_i hy; rw [h _ _ _ _ hy]; exact hr
       ·cases hr
      ·cases hr
     ·cases hr
    ·cases hr
   ·cases hr
  ·cases hr
theorem rngI_le {c : Cfg} {f g : CallF} (h : CLe f g) {x : Nat} {s : Site} {v : List (Option AV)} {b : List Box} {r : Ex × List (Option AV) × List Box} (hr : rngI c f x s v b = some r) : rngI c g x s v b = some r := by
 unfold rngI at hr ⊢
 split at hr
 ·split at hr
  ·cases hr
  ·unfold rngE at hr ⊢
   split at hr
   ·rename_i hf; rw [h _ _ _ _ hf]; exact hr
   ·cases hr
 ·cases hr
theorem thenE_le {x y : Option (Ex × List (Option AV) × List Box)} {k l : List (Option AV) → List Box → Option (Ex × List (Option AV) × List Box)} (h : ∀ r, x = some r → y = some r) (hk : ∀ v b r, k v b = some r → l v b = some r) {r : Ex × List (Option AV) × List Box} (hr : thenE x k = some r) : thenE y l = some r := by
 cases x with
 | none => cases hr
 | some p =>
  rw [h p rfl]
  obtain ⟨e, v, b⟩ := p
  cases e
  ·exact hk _ _ _ hr
  ·exact hr
  ·exact hr
theorem execI_succ (c : Cfg) : ∀ (n : Nat) (x : IR) (v : List (Option AV)) (b : List Box) (r : Ex × List (Option AV) × List Box), execI c n x v b = some r → execI c (n + 1) x v b = some r
 | 0, _, _, _, _, h => by cases h
 | n + 1, x, v, b, r, h => by
  have ih := execI_succ c n
  unfold execI at h ⊢
  cases x with
  | skip => exact h
  | ret => exact h
  | stuck => exact h
  | own l => exact h
  | exit i => exact h
  | seq x y => exact thenE_le (ih x v b) (ih y) h
  | block i x =>
   simp only [leaveE] at h ⊢
   split at h
   ·rename_i hx; rw [ih _ _ _ _ hx]; exact h
   ·cases h
  | reg m kl its =>
   simp only [regE] at h ⊢
   split at h
   ·rename_i hx; rw [runIts_le (callI_le ih) _ _ _ _ hx]; exact h
   ·cases h
  | cond x p q =>
   simp only [condE] at h ⊢
   split at h
   ·exact ih _ _ _ _ h
   ·exact ih _ _ _ _ h
   ·cases h
  | loop k x => exact thenE_le (ih x _ b) (fun v' b' => ih _ _ _) h
  | rng x s => exact rngI_le (callI_le ih) h
theorem execI_le (c : Cfg) {n m : Nat} (hnm : n ≤ m) {x : IR} {v : List (Option AV)} {b : List Box} {r : Ex × List (Option AV) × List Box} (h : execI c n x v b = some r) : execI c m x v b = some r := by
 induction hnm with
 | refl => exact h
 | step _ ih => exact execI_succ c _ _ _ _ _ ih
theorem cfN_le {c : Cfg} {n m : Nat} (h : n ≤ m) : CLe (cfN c n) (cfN c m) := callI_le fun _ _ _ _ hx => execI_le c h hx
def AnsI (c : Cfg) (f : Tgt) (args : List AV) (bs : List Box) (r : AV × List Box) : Prop := ∃ n, cfN c n f args bs = some r
theorem AnsI.det {c : Cfg} {f : Tgt} {args : List AV} {bs : List Box} {r r' : AV × List Box} (h : AnsI c f args bs r) (h' : AnsI c f args bs r') : r = r' := by
 obtain ⟨n, hn⟩ := h
 obtain ⟨m, hm⟩ := h'
 have h1 := cfN_le (Nat.le_max_left n m) _ _ _ _ hn
 have h2 := cfN_le (Nat.le_max_right n m) _ _ _ _ hm
 rw [h1] at h2; cases h2; rfl
noncomputable def ansT (c : Cfg) : CallF := fun f args bs =>
 open Classical in if h : ∃ r, AnsI c f args bs r then some (Classical.choose h) else none
theorem ansT_iff {c : Cfg} {f : Tgt} {args : List AV} {bs : List Box} {r : AV × List Box} : ansT c f args bs = some r ↔ AnsI c f args bs r := by
 unfold ansT
 constructor
 ·intro h
  split at h
  ·rename_i hx; cases h; exact Classical.choose_spec hx
  ·cases h
 ·intro h
  have hx : ∃ r, AnsI c f args bs r := ⟨r, h⟩
  rw [dif_pos hx]
  rw [AnsI.det (Classical.choose_spec hx) h]
section
variable {c : Cfg}
theorem callA_lim {F : CallF} {G : Nat → CallF} (hG : ∀ n m, n ≤ m → CLe (G n) (G m)) (hF : ∀ f a b r, F f a b = some r → ∃ n, G n f a b = some r) {fn : FuncId} {args : List AV} {bs : List Box} {r : AV × Eff} (hr : callA c F fn args bs = some r) : ∃ n, callA c (G n) fn args bs = some r := by
 unfold callA at hr ⊢
 split at hr
 ·exact ⟨0, hr⟩
 ·unfold callP at hr ⊢
  split at hr
  ·split at hr
   ·rename_i hf
    obtain ⟨n, hn⟩ := hF _ _ _ _ hf
    have hn' : G n (.fn fn) args bs = _ := hn
    exact ⟨n, by rw [hn']; exact hr⟩
   ·cases hr
  unfold callL at hr ⊢
  split at hr
  ·split at hr
   ·split at hr
    ·exact ⟨0, hr⟩
    ·split at hr
     ·rename_i hf
      obtain ⟨n, hn⟩ := hF _ _ _ _ hf
      have hn' : G n (.fn fn) _ [] = _ := hn
      exact ⟨n, by rw [hn']; exact hr⟩
     ·rename_i hf
      split at hr
      ·rename_i hfr
       obtain ⟨n, hn⟩ := hF _ _ _ _ hf
       have hn' : G n (.fn fn) _ [] = _ := hn
       exact ⟨n, by rw [hn']; simp only; first | exact hr | (rw [hfr]; exact hr)⟩
      rename_i hfr
      split at hr
      ·rename_i hf2
       obtain ⟨n, hn⟩ := hF _ _ _ _ hf
       obtain ⟨m, hm⟩ := hF _ _ _ _ hf2
       have hn' : G (max n m) (.fn fn) _ [] = _ := hG _ _ (Nat.le_max_left n m) _ _ _ _ hn
       have hm' : G (max n m) (.fn fn) args bs = _ := hG _ _ (Nat.le_max_right n m) _ _ _ _ hm
       exact ⟨max n m, by rw [hn']; simp only; first | (rw [hm']; exact hr) | (rw [hfr, hm']; exact hr) | (rw [hfr]; simp only; rw [hm']; exact hr)⟩
      ·cases hr
     ·cases hr
   ·split at hr
    ·rename_i hf
     obtain ⟨n, hn⟩ := hF _ _ _ _ hf
     have hn' : G n (.fn fn) args bs = _ := hn
     exact ⟨n, by rw [hn']; exact hr⟩
    ·cases hr
  ·cases hr
noncomputable abbrev ansF (c : Cfg) (f : FuncId) : List AV → List Box → Option (AV × List Box) := ansT c (.fn f)
theorem doOpE_lim {F : CallF} {G : Nat → CallF} (hG : ∀ n m, n ≤ m → CLe (G n) (G m)) (hF : ∀ f a b r, F f a b = some r → ∃ n, G n f a b = some r) {op : Op} {φ : Operand → AV} {bs : List Box} {id : Nat} {r : AV × Eff} (hr : doOpE c F op φ bs id = some r) : ∃ n, doOpE c (G n) op φ bs id = some r := by
 unfold doOpE at hr ⊢
 split at hr
 ·split at hr
  ·split at hr
   ·split at hr
    ·exact ⟨0, hr⟩
    ·exact callA_lim hG hF hr
   ·split at hr
    ·rename_i hf
     obtain ⟨n, hn⟩ := hF _ _ _ _ hf
     exact ⟨n, by rw [show G n _ _ _ = _ from hn]; exact hr⟩
    ·cases hr
   ·cases hr
  ·exact ⟨0, hr⟩
 ·exact ⟨0, hr⟩
theorem ansT_lim : ∀ f a b r, ansT c f a b = some r → ∃ n, cfN c n f a b = some r := fun _ _ _ _ h => ansT_iff.1 h
theorem softT_lim : ∀ f a b r, softC (ansT c) f a b = some r → ∃ n, softC (cfN c n) f a b = some r := fun f a b r h => by
 unfold softC at h ⊢
 split at h
 ·split at h
  ·rename_i hf
   obtain ⟨n, hn⟩ := ansT_lim _ _ _ _ hf
   exact ⟨n, by simp only [hn]; exact h⟩
  ·rename_i hf
   obtain ⟨n, hn⟩ := ansT_lim _ _ _ _ hf
   exact ⟨n, by simp only [hn]; exact h⟩
  ·cases h
 ·exact ansT_lim _ _ _ _ h
theorem doOpE_fin {op : Op} {φ : Operand → AV} {bs : List Box} {id : Nat} {r : AV × Eff} (hr : doOpE c (ansT c) op φ bs id = some r) : ∃ n, doOpE c (cfN c n) op φ bs id = some r :=
 doOpE_lim (fun _ _ h => cfN_le h) ansT_lim hr
theorem doOpE_finS {op : Op} {φ : Operand → AV} {bs : List Box} {id : Nat} {r : AV × Eff} (hr : doOpE c (softC (ansT c)) op φ bs id = some r) : ∃ n, doOpE c (softC (cfN c n)) op φ bs id = some r :=
 doOpE_lim (G := fun n => softC (cfN c n)) (fun _ _ h => softC_le (cfN_le h)) softT_lim hr
theorem doOpE_finF (b : Bool) {op : Op} {φ : Operand → AV} {bs : List Box} {id : Nat} {r : AV × Eff} (hr : doOpE c (softF (ansT c) b) op φ bs id = some r) : ∃ n, doOpE c (softF (cfN c n) b) op φ bs id = some r := by
 cases b with
 | true => exact doOpE_fin hr
 | false => exact doOpE_finS hr
theorem effI_fin {base : Nat} {mask : Option (List Nat)} {k : Nat} {o : Op} {vs : List (Nat × AV)} {bs : List Box} {r : AV × List Box} (hr : effI c (ansT c) base mask k o vs bs = some r) : ∃ n, effI c (cfN c n) base mask k o vs bs = some r := by
 unfold effI at hr ⊢
 split at hr
 ·unfold hardI at hr ⊢
  split at hr
  ·rename_i hd; obtain ⟨n, hn⟩ := doOpE_fin hd; exact ⟨n, by rw [hn]; exact hr⟩
  ·cases hr
 ·unfold softI at hr ⊢
  split at hr
  ·rename_i hd; obtain ⟨n, hn⟩ := doOpE_finF _ hd; exact ⟨n, by rw [hn]; exact hr⟩
  ·rename_i hd; obtain ⟨n, hn⟩ := doOpE_finF _ hd; exact ⟨n, by rw [hn]; exact hr⟩
  ·rename_i hd; obtain ⟨n, hn⟩ := doOpE_finF _ hd; exact ⟨n, by rw [hn]; exact hr⟩
  ·rename_i hd; obtain ⟨n, hn⟩ := doOpE_finF _ hd; exact ⟨n, by rw [hn]; exact hr⟩
  ·rename_i hd; obtain ⟨n, hn⟩ := doOpE_finF _ hd; exact ⟨n, by rw [hn]; exact hr⟩
  ·cases hr
theorem runIts_fin {base : Nat} {kl : List Nat} : ∀ (its : List It) (env : List (Option AV)) (bs : List Box) (r : List (Option AV) × List Box), runIts c (ansT c) base kl its env bs = some r → ∃ n, runIts c (cfN c n) base kl its env bs = some r
 | [], _, _, _, hr => ⟨0, hr⟩
 | .par l :: its, env, bs, r, hr => by
  simp only [runIts] at hr ⊢
  split at hr
  ·exact runIts_fin its _ _ r hr
  ·cases hr
 | .eff mask k d g' o xs :: its, env, bs, r, hr => by
  simp only [runIts] at hr ⊢
  split at hr
  ·split at hr
   ·split at hr
    ·rename_i he
     obtain ⟨n, hn⟩ := effI_fin he
     obtain ⟨m, hm⟩ := runIts_fin its _ _ r hr
     refine ⟨max n m, ?_⟩
     rw [effI_le (cfN_le (Nat.le_max_left n m)) hn]
     exact runIts_le (cfN_le (Nat.le_max_right n m)) _ _ _ _ hm
    ·cases hr
   ·cases hr
  ·exact runIts_fin its _ _ r hr
  ·cases hr
end
theorem rngI_fin {c : Cfg} {x : Nat} {s : Site} {v : List (Option AV)} {b : List Box} {r : Ex × List (Option AV) × List Box} (hr : rngI c (ansT c) x s v b = some r) : ∃ n, rngI c (cfN c n) x s v b = some r := by
 unfold rngI at hr ⊢
 split at hr
 ·split at hr
  ·cases hr
  ·unfold rngE at hr ⊢
   split at hr
   ·rename_i hf
    obtain ⟨n, hn⟩ := ansT_iff.1 hf
    exact ⟨n, by rw [show cfN c n _ _ _ = _ from hn]; exact hr⟩
   ·cases hr
 ·cases hr
abbrev Post := Ex → List (Option AV) → List Box → Prop
def thenW (W : Post → List (Option AV) → List Box → Prop) (Q : Post) : Post := fun e v b =>
 match e with
 | .normal => W Q v b
 | e => Q e v b
def roundsW (W : Post → List (Option AV) → List Box → Prop) (k : List Nat) (Q : Post) : Nat → List (Option AV) → List Box → Prop
 | 0, _, _ => False
 | n + 1, v, b => W (fun e v' b' => match e with
  | .normal => roundsW W k Q n (turnV k b.length v' b') (turnB k b.length v' b')
  | e => Q e v' b') (killV k v) b
def regW (r : Option (List (Option AV) × List Box)) (Q : Post) : Prop :=
 match r with
 | some (v, b) => Q .normal v b
 | none => False
def condW (x : Option AV) (p q : Prop) : Prop :=
 match x with
 | some (.bool true) => p
 | some (.bool false) => q
 | _ => False
def rngW (r : Option (Ex × List (Option AV) × List Box)) (Q : Post) : Prop :=
 match r with
 | some (e, v, b) => Q e v b
 | none => False
def Wp (c : Cfg) : IR → Post → List (Option AV) → List Box → Prop
 | .skip, Q, v, b => Q .normal v b
 | .ret, Q, v, b => Q .ret v b
 | .stuck, _, _, _ => False
 | .own l, Q, v, b => Q .normal (ownAll l v b).1 (ownAll l v b).2
 | .exit i, Q, v, b => Q (.exit i) v b
 | .seq x y, Q, v, b => Wp c x (thenW (Wp c y) Q) v b
 | .block i x, Q, v, b => Wp c x (fun e v b => Q (leave i e) v b) v b
 | .reg n kl its, Q, v, b => regW (runIts c (ansT c) b.length kl its v (b ++ List.replicate n .dead)) Q
 | .cond x p q, Q, v, b => condW (vget v x) (Wp c p Q (v.set x none) b) (Wp c q Q (v.set x none) b)
 | .loop k x, Q, v, b => ∃ n, roundsW (Wp c x) k Q n v b
 | .rng x s, Q, v, b => rngW (rngI c (ansT c) x s v b) Q
theorem roundsW_mono {W : Post → List (Option AV) → List Box → Prop} (hW : ∀ {Q Q' : Post}, (∀ e v b, Q e v b → Q' e v b) → ∀ v b, W Q v b → W Q' v b) {k : List Nat} {Q Q' : Post} (h : ∀ e v b, Q e v b → Q' e v b) : ∀ (n : Nat) (v : List (Option AV)) (b : List Box), roundsW W k Q n v b → roundsW W k Q' n v b
 | 0, _, _, hr => hr
 | n + 1, v, b, hr => by
  refine hW (fun e v' b' hq => ?_) _ _ hr
  cases e with
  | normal => exact roundsW_mono hW h n _ _ hq
  | ret => exact h _ _ _ hq
  | exit i => exact h _ _ _ hq
theorem Wp.mono {c : Cfg} : ∀ (ir : IR) {Q Q' : Post}, (∀ e v b, Q e v b → Q' e v b) → ∀ v b, Wp c ir Q v b → Wp c ir Q' v b
 | .skip, _, _, h, v, b, hw => h _ _ _ hw
 | .ret, _, _, h, v, b, hw => h _ _ _ hw
 | .stuck, _, _, _, _, _, hw => hw
 | .own l, _, _, h, v, b, hw => h _ _ _ hw
 | .exit _, _, _, h, v, b, hw => h _ _ _ hw
 | .seq x y, Q, Q', h, v, b, hw => Wp.mono x (fun e v b hq => by
   cases e with
   | normal => exact Wp.mono y h v b hq
   | ret => exact h _ _ _ hq
   | exit i => exact h _ _ _ hq) v b hw
 | .block i x, Q, Q', h, v, b, hw => Wp.mono x (fun e v b hq => h _ _ _ hq) v b hw
 | .reg n kl its, Q, Q', h, v, b, hw => by
  simp only [Wp, regW] at hw ⊢
  split at hw
  ·exact h _ _ _ hw
  ·exact hw
 | .cond x p q, Q, Q', h, v, b, hw => by
  simp only [Wp, condW] at hw ⊢
  split at hw
  ·exact Wp.mono p h _ b hw
  ·exact Wp.mono q h _ b hw
  ·exact hw
 | .loop k x, Q, Q', h, v, b, hw => by
  obtain ⟨n, hn⟩ := hw
  exact ⟨n, roundsW_mono (fun h v b => Wp.mono x h v b) h n v b hn⟩
 | .rng x s, Q, Q', h, v, b, hw => by
  simp only [Wp, rngW] at hw ⊢
  split at hw
  ·exact h _ _ _ hw
  ·exact hw
theorem rounds_exec {c : Cfg} {x : IR} {k : List Nat} (ih : ∀ (Q : Post) (v : List (Option AV)) (b : List Box), Wp c x Q v b → ∃ n e v' b', execI c n x v b = some (e, v', b') ∧ Q e v' b') {Q : Post} :
  ∀ (m : Nat) (v : List (Option AV)) (b : List Box), roundsW (Wp c x) k Q m v b → ∃ n e v' b', execI c n (.loop k x) v b = some (e, v', b') ∧ Q e v' b'
 | 0, _, _, h => h.elim
 | m + 1, v, b, h => by
  obtain ⟨n, e, v', b', h1, h2⟩ := ih _ _ _ h
  have hl : ∀ N, execI c (N + 1) (.loop k x) v b = thenE (execI c N x (killV k v) b) fun v' b' => execI c N (.loop k x) (turnV k b.length v' b') (turnB k b.length v' b') := fun _ => rfl
  cases e with
  | normal =>
   obtain ⟨n2, e2, v2, b2, h3, h4⟩ := rounds_exec ih m _ _ h2
   refine ⟨max n n2 + 1, e2, v2, b2, ?_, h4⟩
   rw [hl, execI_le c (Nat.le_max_left n n2) h1]
   exact execI_le c (Nat.le_max_right n n2) h3
  | ret => exact ⟨n + 1, .ret, v', b', by rw [hl, h1]; rfl, h2⟩
  | exit i => exact ⟨n + 1, .exit i, v', b', by rw [hl, h1]; rfl, h2⟩
theorem wp_exec {c : Cfg} : ∀ (x : IR) (Q : Post) (v : List (Option AV)) (b : List Box), Wp c x Q v b → ∃ n e v' b', execI c n x v b = some (e, v', b') ∧ Q e v' b'
 | .skip, Q, v, b, h => ⟨1, .normal, v, b, rfl, h⟩
 | .ret, Q, v, b, h => ⟨1, .ret, v, b, rfl, h⟩
 | .stuck, Q, v, b, h => h.elim
 | .own l, Q, v, b, h => ⟨1, .normal, _, _, rfl, h⟩
 | .exit i, Q, v, b, h => ⟨1, .exit i, v, b, rfl, h⟩
 | .seq x y, Q, v, b, h => by
  obtain ⟨n, e, v', b', h1, h2⟩ := wp_exec x _ v b h
  have hl : ∀ N, execI c (N + 1) (.seq x y) v b = thenE (execI c N x v b) (execI c N y) := fun _ => rfl
  cases e with
  | normal =>
   obtain ⟨n2, e2, v2, b2, h3, h4⟩ := wp_exec y _ v' b' h2
   refine ⟨max n n2 + 1, e2, v2, b2, ?_, h4⟩
   rw [hl, execI_le c (Nat.le_max_left n n2) h1]
   exact execI_le c (Nat.le_max_right n n2) h3
  | ret => exact ⟨n + 1, .ret, v', b', by rw [hl, h1]; rfl, h2⟩
  | exit i => exact ⟨n + 1, .exit i, v', b', by rw [hl, h1]; rfl, h2⟩
 | .block i x, Q, v, b, h => by
  obtain ⟨n, e, v', b', h1, h2⟩ := wp_exec x _ v b h
  refine ⟨n + 1, leave i e, v', b', ?_, h2⟩
  have : execI c (n + 1) (.block i x) v b = leaveE i (execI c n x v b) := rfl
  rw [this, h1]; rfl
 | .reg m kl its, Q, v, b, h => by
  simp only [Wp, regW] at h
  split at h
  ·rename_i v' b' hrun
   obtain ⟨n, hn⟩ := runIts_fin _ _ _ _ hrun
   refine ⟨n + 1, .normal, v', b', ?_, h⟩
   have : execI c (n + 1) (.reg m kl its) v b = regE (runIts c (cfN c n) b.length kl its v (b ++ List.replicate m .dead)) := rfl
   rw [this, hn]; rfl
  ·exact h.elim
 | .cond x p q, Q, v, b, h => by
  have hl : ∀ N, execI c (N + 1) (.cond x p q) v b = condE (vget v x) (execI c N p (v.set x none) b) (execI c N q (v.set x none) b) := fun _ => rfl
  simp only [Wp, condW] at h
  split at h
  ·rename_i hx
   obtain ⟨n, e, v', b', h1, h2⟩ := wp_exec p _ _ b h
   exact ⟨n + 1, e, v', b', by rw [hl, hx]; exact h1, h2⟩
  ·rename_i hx
   obtain ⟨n, e, v', b', h1, h2⟩ := wp_exec q _ _ b h
   exact ⟨n + 1, e, v', b', by rw [hl, hx]; exact h1, h2⟩
  ·exact h.elim
 | .loop k x, Q, v, b, h => by
  obtain ⟨m, hm⟩ := h
  exact rounds_exec (fun Q v b h => wp_exec x Q v b h) m v b hm
 | .rng x s, Q, v, b, h => by
  simp only [Wp, rngW] at h
  split at h
  ·rename_i e v' b' hrun
   obtain ⟨n, hn⟩ := rngI_fin hrun
   exact ⟨n + 1, e, v', b', hn, h⟩
  ·exact h.elim
def endW (c : Cfg) (own : Bool) (res : List Res) (n : Nat) (r : AV × List Box) : Post := fun e v b =>
 match e with
 | .exit _ => False
 | _ => endI c own res n v b = some r
theorem ans_of_wp {c : Cfg} {f : FuncId} {fn : Func} {L : Low} {args : List AV} {bs : List Box} {r : AV × List Box} (hf : c.fn.get none f = some fn) (hl : lowF c fn = some L)
  (hw : Wp c L.code (endW c (c.own f) L.res bs.length r) (startV L.keep args) bs) : ansF c f args bs = some r := by
 rw [ansT_iff]
 obtain ⟨n, e, v', b', h1, h2⟩ := wp_exec _ _ _ _ hw
 refine ⟨n, ?_⟩
 simp only [cfN, callI, hf, hl, h1, endX]
 cases e with
 | normal => exact h2
 | ret => exact h2
 | exit i => exact h2.elim
end Go.Am
