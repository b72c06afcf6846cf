/-
  More fuel turns nothing: what the abstract machine has answered it answers with more fuel.
-/
import Derived.Test.YtfplnlmddcchjaaAmExec
namespace Go.Am

/-- the second answers wherever the first does -/
def OLe {α β : Type} (f g : α → Option β) : Prop := ∀ x r, f x = some r → g x = some r

def CLe (f g : CallF) : Prop := ∀ a b c r, f a b c = some r → g a b c = some r

section
variable {c : Cfg} {f g : CallF}

theorem callP_le (h : CLe f g) {fn : FuncId} {args : List AV} {bs : List Box} {r : AV × Eff} (hr : callP c f fn args bs = some r) : callP c g fn args bs = some r := by
  unfold callP at hr ⊢
  split at hr
  · split at hr
    · split at hr
      · exact hr
      · split at hr
        · rename_i hf; rw [h _ _ _ _ hf]; exact hr
        · rename_i hf
          rw [h _ _ _ _ hf]
          simp only
          split at hr
          · rename_i hf2; rw [h _ _ _ _ hf2]; exact hr
          · cases hr
        · cases hr
    · split at hr
      · rename_i hf; rw [h _ _ _ _ hf]; exact hr
      · cases hr
  · cases hr

theorem callA_le (h : CLe f g) {fn : FuncId} {args : List AV} {bs : List Box} {r : AV × Eff} (hr : callA c f fn args bs = some r) : callA c g fn args bs = some r := by
  unfold callA at hr ⊢
  split at hr
  · exact hr
  · exact callP_le h hr

theorem doOp_le (h : CLe f g) {op : Op} {t : Env} {bs : List Box} {id : Nat} {r : AV × Eff} (hr : doOp c f op t bs id = some r) : doOp c g op t bs id = some r := by
  unfold doOp at hr ⊢
  split at hr
  · split at hr
    · split at hr
      · split at hr
        · exact hr
        · exact callA_le h hr
      · cases hr
    · exact hr
  · exact hr

theorem runOps_le (h : CLe f g) (ops : Array Oper) : ∀ (l : List Oper) (id : Nat) (t : Env) (bs : List Box) (r : St), runOps c f ops l id t bs = some r → runOps c g ops l id t bs = some r
  | [], _, _, _, _, hr => hr
  | o :: rest, id, t, bs, r, hr => by
    simp only [runOps] at hr ⊢
    split at hr
    · split at hr
      · rename_i hop
        rw [doOp_le h hop]
        simp only
        split at hr
        · exact runOps_le h ops rest _ _ _ r hr
        · cases hr
      · cases hr
    · exact runOps_le h ops rest _ _ _ r hr
    · cases hr

theorem stepO_le (h : CLe f g) {ops : Array Oper} {base i : Nat} {o : Oper} {s r : St} (hr : stepO c f ops base i o s = some r) : stepO c g ops base i o s = some r := by
  unfold stepO at hr ⊢
  split at hr
  · split at hr
    · split at hr
      · rename_i hop; rw [doOp_le h hop]; exact hr
      · cases hr
    · split at hr
      · rename_i hop; rw [doOp_le h hop]; exact hr
      · rename_i hop; rw [doOp_le h hop]; exact hr
      · cases hr
  · exact hr
  · cases hr

theorem runD_le (h : CLe f g) (ops : Array Oper) (base : Nat) : ∀ (l : List Oper) (i : Nat) (s r : St), runD c f ops base l i s = some r → runD c g ops base l i s = some r
  | [], _, _, _, hr => hr
  | o :: rest, i, s, r, hr => by
    simp only [runD] at hr ⊢
    split at hr
    · rename_i hs; rw [stepO_le h hs]; exact runD_le h ops base rest _ _ r hr
    · cases hr

theorem region_le (h : CLe f g) {ops : Array Oper} {d : Bool} {s r : St} (hr : region c f ops d s = some r) : region c g ops d s = some r := by
  unfold region at hr ⊢
  split at hr
  · exact runOps_le h ops _ _ _ _ r hr
  · split at hr
    · exact runD_le h ops _ _ _ _ r hr
    · cases hr

theorem callBody_le {e e' : Code → St → Option (Ex × St)} (h : ∀ a s r, e a s = some r → e' a s = some r) : CLe (callBody c e) (callBody c e') := fun fn args bs r hr => by
  unfold callBody at hr ⊢
  split at hr
  · split at hr
    · rename_i a _
      unfold endCall at hr ⊢
      split at hr
      · rename_i hx; rw [h _ _ _ hx]; exact hr
      · rename_i hx; rw [h _ _ _ hx]; exact hr
      · cases hr
    · cases hr
  · cases hr

theorem thenX_le {x y : Option (Ex × St)} {k l : St → Option (Ex × St)} (h : ∀ r, x = some r → y = some r) (hk : ∀ s r, k s = some r → l s = some r) {r : Ex × St} (hr : thenX x k = some r) : thenX y l = some r := by
  cases x with
  | none => cases hr
  | some p =>
    rw [h p rfl]
    obtain ⟨e, s⟩ := p
    cases e
    · exact hk _ _ hr
    · exact hr
    · exact hr

theorem exec_succ (c : Cfg) : ∀ (n : Nat) (a : Code) (s : St) (r : Ex × St), exec c n a s = some r → exec c (n + 1) a s = some r
  | 0, _, _, _, h => by cases h
  | n + 1, a, s, r, h => by
    have ih := exec_succ c n
    unfold exec at h ⊢
    cases a with
    | skip => exact h
    | label _ => exact h
    | ret => exact h
    | exit _ => exact h
    | seq a b => exact thenX_le (ih a s) (ih b) h
    | cond x a b =>
      simp only [condX] at h ⊢
      split at h
      · exact ih _ _ _ h
      · exact ih _ _ _ h
      · cases h
    | block id a =>
      simp only [blockX] at h ⊢
      cases hx : exec c n a s with
      | none => rw [hx] at h; cases h
      | some p => rw [hx] at h; rw [ih _ _ _ hx]; exact h
    | loop a => exact thenX_le (ih a s) (fun s' => ih _ _) h
    | region _ ops d =>
      simp only [Option.map_eq_some_iff] at h ⊢
      obtain ⟨s', h1, h2⟩ := h
      exact ⟨s', region_le (callBody_le ih) h1, h2⟩
    | _ => cases h

theorem exec_le (c : Cfg) {n m : Nat} (hnm : n ≤ m) {a : Code} {s : St} {r : Ex × St} (h : exec c n a s = some r) : exec c m a s = some r := by
  induction hnm with
  | refl => exact h
  | step _ ih => exact exec_succ c _ _ _ _ ih

theorem call_le (c : Cfg) {n m : Nat} (hnm : n ≤ m) {fn : FuncId} {args : List AV} {bs : List Box} {r : AV × List Box} (h : call c n fn args bs = some r) : call c m fn args bs = some r :=
  callBody_le (fun _ _ _ hx => exec_le c hnm hx) _ _ _ _ h
end

/-- the function answers so, whatever the fuel beyond some -/
def Ans (c : Cfg) (f : FuncId) (args : List AV) (bs : List Box) (r : AV × List Box) : Prop := ∃ n, call c n f args bs = some r

theorem Ans.fuel {c : Cfg} {f : FuncId} {args : List AV} {bs : List Box} {r : AV × List Box} (h : Ans c f args bs r) : ∃ n, ∀ k, callBody c (exec c (n + k)) f args bs = some r :=
  let ⟨n, hn⟩ := h
  ⟨n, fun k => call_le c (Nat.le_add_right n k) hn⟩

/-- the code ends so -/
def Ends (c : Cfg) (a : Code) (s : St) (r : Ex × St) : Prop := ∃ n, exec c n a s = some r

theorem Ends.fuel {c : Cfg} {a : Code} {s : St} {r : Ex × St} (h : Ends c a s r) : ∃ n, ∀ k, exec c (n + k) a s = some r :=
  let ⟨n, hn⟩ := h
  ⟨n, fun k => exec_le c (Nat.le_add_right n k) hn⟩

end Go.Am
