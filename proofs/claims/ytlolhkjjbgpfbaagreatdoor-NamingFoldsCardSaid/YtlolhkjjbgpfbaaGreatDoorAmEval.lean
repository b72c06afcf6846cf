/-
 The plainer form, run by the kernel on given values: functions' plainer forms are looked up in a table.
-/
import Derived.Test.YtlolhkjjbgpfbaaGreatDoorAmIr7
set_option linter.all false
namespace Go.Am
def thenE (r : Option (Ex × List (Option AV) × List Box)) (f : List (Option AV) → List Box → Option (Ex × List (Option AV) × List Box)) : Option (Ex × List (Option AV) × List Box) :=
 match r with
 | some (.normal, v, b) => f v b
 | r => r
def leaveE (i : Nat) (r : Option (Ex × List (Option AV) × List Box)) : Option (Ex × List (Option AV) × List Box) :=
 match r with
 | some (e, v, b) => some (leave i e, v, b)
 | none => none
def condE (x : Option AV) (p q : Option (Ex × List (Option AV) × List Box)) : Option (Ex × List (Option AV) × List Box) :=
 match x with
 | some (.bool true) => p
 | some (.bool false) => q
 | _ => none
def regE (r : Option (List (Option AV) × List Box)) : Option (Ex × List (Option AV) × List Box) :=
 match r with
 | some (v, b) => some (.normal, v, b)
 | none => none
def callT (c : Cfg) (tb : FuncId → Option Low) (ex : IR → List (Option AV) → List Box → Option (Ex × List (Option AV) × List Box)) : CallF := fun f args bs =>
 match f with
 | .fn f => match tb f with
  | some L => endX c (c.own f) L.res bs.length (ex L.code (startV L.keep args) bs)
  | none => none
 | .yld k s env => match lowSite c s with
  | some (asg, body) => match args.length == s.ps.size && env.length == s.keep.length with
   | true => match Box.at bs k with
    | .loop .ready => match ex asg (roundV s env args) bs with
     | some (.normal, v1, b1) => match Box.at b1 k with
      | .loop .ready => yldEnd bs.length k (ex body v1 (b1.set k (.loop .busy)))
      | _ => none
     | _ => none
    | _ => none
   | false => none
  | none => none
def execT (c : Cfg) (tb : FuncId → Option Low) : Nat → IR → List (Option AV) → List Box → Option (Ex × List (Option AV) × List Box)
 | 0, _, _, _ => none
 | n + 1, ir, v, b =>
  match ir with
  | .skip => some (.normal, v, b)
  | .ret => some (.ret, v, b)
  | .stuck => none
  | .own l => some (.normal, (ownAll l v b).1, (ownAll l v b).2)
  | .exit i => some (.exit i, v, b)
  | .seq x y => thenE (execT c tb n x v b) (execT c tb n y)
  | .block i x => leaveE i (execT c tb n x v b)
  | .reg m kl its => regE (runIts c (callT c tb (execT c tb n)) b.length kl its v (b ++ List.replicate m .dead))
  | .cond x p q => condE (vget v x) (execT c tb n p (v.set x none) b) (execT c tb n q (v.set x none) b)
  | .loop k x => thenE (execT c tb n x (killV k v) b) fun v' b' => execT c tb n (.loop k x) (turnV k b.length v' b') (turnB k b.length v' b')
  | .rng x s => rngI c (callT c tb (execT c tb n)) x s v b
  | .nxt _ _ _ _ => none
def TbOk (c : Cfg) (tb : FuncId → Option Low) : Prop := ∀ f L, tb f = some L → ∃ fn, c.fn.get none f = some fn ∧ lowF c fn = some L
def onlyQ (r : Ex × List (Option AV) × List Box) : Post := fun e v b => (e, v, b) = r
theorem Run.mono {c : Cfg} {x : IR} {Q : Post} {v : List (Option AV)} {b : List Box} (h : Run c x Q v b) : ∀ Q' : Post, (∀ e v b, Q e v b → Q' e v b) → Run c x Q' v b := by
 refine Run.rec (c := c) (motive_1 := fun x Q v b _ => ∀ Q' : Post, (∀ e v b, Q e v b → Q' e v b) → Run c x Q' v b) (motive_2 := fun _ _ _ _ _ => True) ?_ ?_ ?_ ?_ ?_ ?_ ?_ ?_ ?_ ?_ ?_ ?_ ?_ ?_ h
 ·intro Q v b h Q' hq; exact .skip (hq _ _ _ h)
 ·intro Q v b h Q' hq; exact .ret (hq _ _ _ h)
 ·intro l Q v b h Q' hq; exact .own (hq _ _ _ h)
 ·intro i Q v b h Q' hq; exact .exit (hq _ _ _ h)
 ·intro x y Q R v b h1 h2 h3 ih1 ih2 Q' hq; exact .seq h1 (fun v' b' hr => ih2 v' b' hr _ hq) (fun e v' b' hn hr => hq _ _ _ (h3 e v' b' hn hr))
 ·intro i x Q v b h ih Q' hq; exact .block (ih _ (fun e v b h => hq _ _ _ h))
 ·intro m kl its Q v v' b b' cf h hr hqq ih Q' hq; exact .reg cf h hr (hq _ _ _ hqq)
 ·intro k x y Q v b hx h ih Q' hq; exact .yes hx (ih _ hq)
 ·intro k x y Q v b hx h ih Q' hq; exact .no hx (ih _ hq)
 ·intro k x Q R v b h1 h2 h3 ih1 ih2 Q' hq; exact .loop h1 (fun v' b' hr => ih2 v' b' hr _ hq) (fun e v' b' hn hr => hq _ _ _ (h3 e v' b' hn hr))
 ·intro x s Q v v' b b' e cf h hr hqq ih Q' hq; exact .rng cf h hr (hq _ _ _ hqq)
 ·intro x k n i m clock seen es its Q v b cf h hx hi hm h0 h1 ih Q' hq
  exact .nxt cf h hx hi hm (fun p => (h0 p).imp fun _ ⟨b', r, q⟩ => ⟨b', r, hq _ _ _ q⟩) (fun e he p => (h1 e he p).imp fun _ ⟨b', r, q⟩ => ⟨b', r, hq _ _ _ q⟩)
 ·intros; trivial
 ·intros; trivial
theorem callT_ret {c : Cfg} {tb : FuncId → Option Low} (ht : TbOk c tb) {ex : IR → List (Option AV) → List Box → Option (Ex × List (Option AV) × List Box)} (h : ∀ x v b r, ex x v b = some r → Run c x (onlyQ r) v b) :
  ∀ f args bs r, callT c tb ex f args bs = some r → Ret c f args bs r := fun f args bs r hr => by
 cases f with
 | fn f =>
  simp only [callT] at hr
  split at hr
  ·rename_i L hL
   obtain ⟨fn, h2, h3⟩ := ht f L hL
   unfold endX at hr
   split at hr
   ·rename_i v b hx
    refine .fn h2 h3 ((h _ _ _ _ hx).mono _ ?_)
    intro e v b hq; cases hq; exact hr
   ·rename_i v b hx
    refine .fn h2 h3 ((h _ _ _ _ hx).mono _ ?_)
    intro e v b hq; cases hq; exact hr
   ·cases hr
  ·cases hr
 | yld k s env =>
  simp only [callT] at hr
  split at hr
  ·rename_i asg body hlow
   split at hr
   ·rename_i hlens
    simp only [Bool.and_eq_true, beq_iff_eq] at hlens
    split at hr
    ·rename_i hready
     split at hr
     ·rename_i v1 b1 hasg
      split at hr
      ·rename_i hready1
       unfold yldEnd at hr
       split at hr
       ·rename_i e2 v2 b2 hbody
        split at hr
        ·rename_i hbusy
         cases hr
         refine .yld hlow hlens.1 hlens.2 hready (h _ _ _ _ hasg) (fun e v b hq => ?_) (fun e v b hq => ?_)
         ·cases hq; exact ⟨rfl, hready1⟩
         ·cases hq
          refine (h _ _ _ _ hbody).mono _ ?_
          intro e v b hq; cases hq; exact ⟨hbusy, rfl⟩
        ·cases hr
       ·cases hr
      ·cases hr
     ·cases hr
    ·cases hr
   ·cases hr
  ·cases hr
theorem execT_run {c : Cfg} {tb : FuncId → Option Low} (ht : TbOk c tb) : ∀ (n : Nat) (x : IR) (v : List (Option AV)) (b : List Box) (r : Ex × List (Option AV) × List Box), execT c tb n x v b = some r → Run c x (onlyQ r) v b
 | 0, _, _, _, _, h => by cases h
 | n + 1, x, v, b, r, h => by
  have ih := execT_run ht n
  have two : ∀ {X : IR} {F : List (Option AV) → List Box → Option (Ex × List (Option AV) × List Box)} {v0 : List (Option AV)}, thenE (execT c tb n X v0 b) F = some r → ∃ e v1 b1, Run c X (onlyQ (e, v1, b1)) v0 b ∧ (e = .normal → F v1 b1 = some r) ∧ (e ≠ .normal → (e, v1, b1) = r) := fun {X F v0} hh => by
   cases hx : execT c tb n X v0 b with
   | none => rw [hx] at hh; cases hh
   | some p =>
    obtain ⟨e, v1, b1⟩ := p
    rw [hx] at hh
    refine ⟨e, v1, b1, ih _ _ _ _ hx, fun he => ?_, fun he => ?_⟩
    ·subst he; exact hh
    ·cases e with
     | normal => exact absurd rfl he
     | ret => cases hh; rfl
     | exit i => cases hh; rfl
  unfold execT at h
  cases x with
  | skip => cases h; exact .skip rfl
  | ret => cases h; exact .ret rfl
  | stuck => cases h
  | own l => cases h; exact .own rfl
  | exit i => cases h; exact .exit rfl
  | seq x y =>
   obtain ⟨e, v1, b1, h1, h2, h3⟩ := two h
   refine .seq h1 (fun v' b' hq => ?_) (fun e' v' b' hn hq => ?_)
   ·cases hq; exact ih _ _ _ _ (h2 rfl)
   ·cases hq; exact h3 hn
  | block i x =>
   simp only [leaveE] at h
   split at h
   ·rename_i hx
    cases h
    refine .block ((ih _ _ _ _ hx).mono _ ?_)
    intro e v b hq; cases hq; rfl
   ·cases h
  | reg m kl its =>
   simp only [regE] at h
   split at h
   ·rename_i hx
    cases h
    exact .reg _ (callT_ret ht ih) hx rfl
   ·cases h
  | cond x p q =>
   simp only [condE] at h
   split at h
   ·rename_i hx; exact .yes hx (ih _ _ _ _ h)
   ·rename_i hx; exact .no hx (ih _ _ _ _ h)
   ·cases h
  | loop k x =>
   obtain ⟨e, v1, b1, h1, h2, h3⟩ := two h
   refine .loop h1 (fun v' b' hq => ?_) (fun e' v' b' hn hq => ?_)
   ·cases hq; exact ih _ _ _ _ (h2 rfl)
   ·cases hq; exact h3 hn
  | rng x s =>
   obtain ⟨e, v1, b1⟩ := r
   exact .rng _ (callT_ret ht ih) h rfl
  | nxt x k n its => cases h
def tbL : List (FuncId × Low) → FuncId → Option Low
 | [], _ => none
 | (g, L) :: r, f => match Nat.beq f g with
  | true => some L
  | false => tbL r f
theorem tb_nil {c : Cfg} : TbOk c (tbL []) := fun _ _ h => by cases h
theorem tb_cons {c : Cfg} {g : FuncId} {fn : Func} {L : Low} {r : List (FuncId × Low)} (h1 : c.fn.get none g = some fn) (h2 : lowF c fn = some L) (h : TbOk c (tbL r)) : TbOk c (tbL ((g, L) :: r)) := fun f M hM => by
 simp only [tbL] at hM
 split at hM
 ·rename_i hb
  cases hM
  obtain rfl : f = g := Nat.eq_of_beq_eq_true hb
  exact ⟨fn, h1, h2⟩
 ·exact h f M hM
theorem ans_of_run {c : Cfg} {tb : FuncId → Option Low} (ht : TbOk c tb) {n : Nat} {f : FuncId} {args : List AV} {bs : List Box} {r : AV × List Box} (h : callT c tb (execT c tb n) (.fn f) args bs = some r) : ansF c f args bs = some r :=
 ansT_iff.2 (callT_ret ht (execT_run ht n) _ _ _ _ h)
end Go.Am
