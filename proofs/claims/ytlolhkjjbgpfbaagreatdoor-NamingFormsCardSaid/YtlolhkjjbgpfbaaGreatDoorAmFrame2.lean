/-
  A row's arguments, for the abstract machine.
-/
import Derived.Test.YtlolhkjjbgpfbaaGreatDoorAmFrame
import Derived.WideShapes
set_option linter.all false
namespace Go.Am
variable [Kn]
open Go.WideShapes

/-- an argument -/
def argOf {H : Type} (P : Program) (n : Nat) (t : TypeId) (d : DataW H) : AV := elemOfCells (aggU (P.underlying t)) (avd P n t d)

theorem arg_rd {H : Type} {enc : TypeId × Value → H} {P : Program} (hl : laidOutB P = true) {w : World} {base : Nat} {spare : Nat → Bool} {held : Bool} {t : TypeId} {v : Value} {d : DataW H} {ps : List MemPlace} (ht : t < P.types.size)
    (hok : Value.okWide P w .any base t v) {b2 : Nat} (h : DataW.Trod enc P w b2 spare held t v d ps) : ∃ n, DataW.trod enc P w b2 spare held n t v.cells.toList = some (d, ps) ∧ Rd (allS w) w (argOf P n t d) v := by
  obtain ⟨n, hn⟩ := h
  have hc := trod_rd hl n t _ d ps ht hn
  refine ⟨n, hn, ?_⟩
  unfold argOf
  cases ha : aggU (P.underlying t) with
  | true =>
    obtain ⟨cs, rfl⟩ : ∃ cs, v = .agg cs := by
      unfold aggU at ha
      unfold Value.okWide at hok
      split at ha
      · rename_i hu; rw [hu] at hok; obtain ⟨cs, h1, _⟩ := hok; exact ⟨cs, h1⟩
      · rename_i hu; rw [hu] at hok; obtain ⟨cs, h1, _⟩ := hok; exact ⟨cs, h1⟩
      · cases ha
    have e : (Value.agg cs).cells = cs := rfl
    rw [e] at hc
    exact .agg _ cs (by simpa using hc.len.symm) (fun i x u hx hu => hc.rd i x u hx (by simpa using hu))
  | false =>
    obtain ⟨m, rfl⟩ : ∃ m, n = m + 1 := by
      cases n with
      | zero => cases hn
      | succ m => exact ⟨m, rfl⟩
    have h1 := avd_one P m t d ha
    generalize avd P (m + 1) t d = xs at h1 hc
    match xs, h1 with
    | [x], _ =>
      have hv : v.cells = #[v] := by
        cases v with
        | agg cs =>
          unfold Value.okWide at hok
          unfold aggU at ha
          exfalso
          split at hok
          · rename_i hu; rw [hu] at ha; cases ha
          · rename_i hu; rw [hu] at ha; cases ha
          · unfold Cell.okWide at hok
            split at hok
            all_goals first
              | (rename_i hv; cases hv; done)
              | (unfold Cell.ok at hok; split at hok <;> simp_all)
        | _ => rfl
      rw [hv] at hc
      exact hc.rd 0 x v rfl rfl
end Go.Am
