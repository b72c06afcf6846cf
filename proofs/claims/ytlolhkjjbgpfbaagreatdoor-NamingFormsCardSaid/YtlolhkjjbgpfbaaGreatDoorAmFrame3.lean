/-
  A row that says 'it returns true, and the input reads as it did', for the abstract machine.
-/
import Derived.Test.YtlolhkjjbgpfbaaGreatDoorAmFrame2
import Derived.ProofKit
import Derived.OpenShut
import Derived.ShutString
import Derived.ChangeOld
import Derived.Below
import Derived.Carry
set_option linter.all false
namespace Go.Am
variable [Kn]
open Go.ChangeShapes Go.WideShapes Go.RowKit

section
variable {H : Type} {enc : TypeId × Value → H} {P : Program}

theorem trodAll_below (hl : laidOutB P = true) {W W' : World} (hb : Below W.heap.size W W') : ∀ {ts : List TypeId} {vs : List Value} {ds : List (DataW H)} {ps : List MemPlace}, (∀ t ∈ ts, P.readableRec t = true ∧ t < P.types.size) →
    DataW.TrodAll enc P W 0 (fun _ => true) true ts vs ds ps → (∀ x ∈ ps, x.block < W.heap.size) → DataW.TrodAll enc P W' 0 (fun b => decide (b < W.heap.size)) true ts vs ds ps
  | [], [], [], ps, _, h, _ => h
  | t :: ts, v :: vs, d :: ds, ps, hr, h, hlt => by
    obtain ⟨p, q, h1, h2, rfl⟩ := h
    exact ⟨p, q, Below.trod hl (hr t List.mem_cons_self).1 (hr t List.mem_cons_self).2 h1 hb (fun x hx => hlt x (List.mem_append_left _ hx)),
      trodAll_below hl hb (fun t ht => hr t (List.mem_cons_of_mem _ ht)) h2 (fun x hx => hlt x (List.mem_append_right _ hx)), rfl⟩
  | [], [], _ :: _, _, _, h, _ => h.elim
  | [], _ :: _, _, _, _, h, _ => h.elim
  | _ :: _, [], _, _, _, h, _ => h.elim
  | _ :: _, _ :: _, [], _, _, h, _ => h.elim

/-- the arguments' data, and what they are for the machine -/
inductive Args (P : Program) (enc : TypeId × Value → H) (w : World) : List TypeId → List (DataW H) → List AV → Prop where
  | nil : Args P enc w [] [] []
  | cons {t : TypeId} {d : DataW H} {ts : List TypeId} {ds : List (DataW H)} {xs : List AV} (n : Nat) (cs : List Value) (ps : List MemPlace) (h : DataW.trod enc P w 0 (fun _ => true) true n t cs = some (d, ps)) (r : Args P enc w ts ds xs) : Args P enc w (t :: ts) (d :: ds) (argOf P n t d :: xs)

theorem args_rd (hl : laidOutB P = true) {W : World} {base : Nat} : ∀ {ts : List TypeId} {vs : List Value} {ds : List (DataW H)} {ps : List MemPlace}, (∀ t ∈ ts, t < P.types.size) → (∀ (j : Nat) t v, ts[j]? = some t → vs[j]? = some v → Value.okWide P W .any base t v) →
    DataW.TrodAll enc P W 0 (fun _ => true) true ts vs ds ps → ∃ xs, Args P enc W ts ds xs ∧ RdAll (allS W) W xs vs
  | [], [], [], ps, _, _, _ => ⟨[], .nil, .nil⟩
  | t :: ts, v :: vs, d :: ds, ps, hr, hok, h => by
    obtain ⟨p, q, h1, h2, rfl⟩ := h
    obtain ⟨xs, k1, k2⟩ := args_rd hl (fun t ht => hr t (List.mem_cons_of_mem _ ht)) (fun j t v ht hv => hok (j + 1) t v (by simpa using ht) (by simpa using hv)) h2
    obtain ⟨n, h3, h4⟩ := arg_rd hl (hr t List.mem_cons_self) (hok 0 t v rfl rfl) h1
    exact ⟨_ :: xs, .cons n _ p h3 k1, .cons h4 k2⟩
  | [], [], _ :: _, _, _, _, h => h.elim
  | [], _ :: _, _, _, _, _, h => h.elim
  | _ :: _, [], _, _, _, _, h => h.elim
  | _ :: _, _ :: _, [], _, _, _, h => h.elim

/-- what is asked of the parameters' types -/
def typesFine (P : Program) (ts : List TypeId) : Bool := ts.all fun t => P.readableRec t && decide (t < P.types.size)

theorem typesFine_spec {ts : List TypeId} (h : typesFine P ts = true) : ∀ t ∈ ts, P.readableRec t = true ∧ t < P.types.size := fun t ht => by
  have := List.all_eq_true.1 h t ht
  simpa using this
end
end Go.Am
