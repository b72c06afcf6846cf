/-
  What the arguments of a row look like to the abstract machine, by their types.
-/
import Derived.Test.YtlolhkjjbgpfbaaGreatDoorAmFrame3
set_option linter.all false
namespace Go.Am
open Go.ChangeShapes Go.WideShapes Go.RowKit

/-- cells of fields, one behind the other -/
def shpFields (r : TypeId → List AV → Prop) : List TypeId → List AV → Prop
  | [], xs => xs = []
  | t :: ts, xs => ∃ a b, xs = a ++ b ∧ r t a ∧ shpFields r ts b

/-- the cells of a value of a type -/
def Shp (P : Program) : Nat → TypeId → List AV → Prop
  | 0, _, _ => False
  | n + 1, t, xs => match P.underlying t with
    | some .bool => ∃ b, xs = [.bool b]
    | some (.int k) => ∃ m, xs = [.int k m] ∧ (Lit.int k m).wf = true
    | some .string => ∃ s, xs = [.str s] ∧ s.length ≤ maxLen
    | some (.pointer e) => xs = [.nilp] ∨ P.cellsOf e = 0 ∨ ∃ cs, xs = [.eptr cs] ∧ Shp P n e cs
    | some (.slice e) => xs = [.lst (some true) 0 []] ∨ P.cellsOf e = 0 ∨ ∃ es, xs = [.lst (some false) (P.cellsOf e) es] ∧ es.length ≤ maxLen ∧ ∀ x ∈ es, ∃ cs, x = elemOfCells (aggU (P.underlying e)) cs ∧ Shp P n e cs
    | some (.struct fs) => shpFields (Shp P n) (fs.toList.map (·.type)) xs
    | some (.array m e) => ∃ l : List (List AV), l.length = m ∧ xs = l.flatten ∧ ∀ ys ∈ l, Shp P n e ys
    | _ => True

theorem shpFields_of {r : TypeId → List AV → Prop} : ∀ (ts : List TypeId) (l : List (List AV)), l.length = ts.length → (∀ (j : Nat) t ys, ts[j]? = some t → l[j]? = some ys → r t ys) → shpFields r ts l.flatten
  | [], [], _, _ => rfl
  | t :: ts, a :: l, hl, h => ⟨a, l.flatten, rfl, h 0 t a rfl rfl, shpFields_of ts l (by simpa using hl) fun j t ys h1 h2 => h (j + 1) t ys (by simpa using h1) (by simpa using h2)⟩
  | [], _ :: _, h, _ => by simp at h
  | _ :: _, [], h, _ => by simp at h

variable {H : Type}
set_option maxHeartbeats 1000000 in
theorem trod_shp {enc : TypeId × Value → H} {P : Program} {w : World} {base : Nat} {spare : Nat → Bool} {held : Bool} : ∀ (n : Nat) (t : TypeId) (cs : List Value) (d : DataW H) (ps : List MemPlace),
    DataW.trod enc P w base spare held n t cs = some (d, ps) → Shp P n t (avd P n t d)
  | 0, _, _, _, _, h => by cases h
  | n + 1, t, cs, d, ps, h => by
    have ih := fun t cs d ps h => trod_shp (enc := enc) (P := P) (w := w) (base := base) (spare := spare) (held := held) n t cs d ps h
    unfold DataW.trod at h
    unfold avd Shp
    split at h
    · rename_i hu; cases h; rw [hu]; exact ⟨_, rfl⟩
    · rename_i hu
      split at h
      · rename_i hk; cases h; rw [hu]; obtain ⟨rfl, hw⟩ := hk; exact ⟨_, rfl, hw⟩
      · cases h
    · rename_i hu
      split at h
      · cases h; rw [hu]; trivial
      · cases h
    · rename_i s hu
      split at h
      · rename_i hsz
        cases h; rw [hu]
        refine ⟨_, rfl, ?_⟩
        have : s.data.toList.length = s.size := by simp
        rw [this]; exact hsz
      · cases h
    · rename_i hu; cases h; rw [hu]; exact .inl rfl
    · rename_i e a hu
      rw [Option.map_eq_some_iff] at h
      obtain ⟨⟨x, q⟩, hx, h⟩ := h
      cases h
      rw [hu]
      rw [Option.bind_eq_some_iff] at hx
      obtain ⟨vs, hvs, hx⟩ := hx
      have hc := ih e vs x q hx
      simp only
      by_cases hz : P.cellsOf e = 0
      · exact .inr (.inl hz)
      · rw [if_neg hz]; exact .inr (.inr ⟨_, rfl, hc⟩)
    · rename_i hu; cases h; rw [hu]; exact .inl rfl
    · rename_i e a len cap hu
      split at h
      · rename_i hcond
        rw [Option.bind_eq_some_iff] at h
        obtain ⟨elems, helems, h⟩ := h
        rw [Option.map_eq_some_iff] at h
        obtain ⟨rest, hrest, h⟩ := h
        cases h
        rw [hu]
        simp only
        by_cases hz : P.cellsOf e = 0
        · exact .inr (.inl hz)
        · rw [if_neg hz]
          obtain ⟨hel, hget⟩ := mapM_get helems
          rw [List.length_range] at hel
          refine .inr (.inr ⟨_, rfl, by simp [hel]; omega, fun x hx => ?_⟩)
          simp only [List.map_map, List.mem_map] at hx
          obtain ⟨p, hp, rfl⟩ := hx
          obtain ⟨i, hi⟩ := List.getElem?_of_mem hp
          have hil := getElem?_lt hi
          have := hget i i p (by rw [List.getElem?_range (by omega)]) hi
          rw [Option.bind_eq_some_iff] at this
          obtain ⟨vs, _, h2⟩ := this
          exact ⟨_, rfl, ih e vs p.1 p.2 h2⟩
      · cases h
    · rename_i cs' fs hu
      split at h
      · rw [Option.map_eq_some_iff] at h
        obtain ⟨xs, hxs, h⟩ := h
        cases h
        rw [hu]
        simp only
        obtain ⟨hlen, hget⟩ := mapM_get hxs
        refine shpFields_of _ _ (by simp [hlen]) fun j t ys ht hy => ?_
        rw [List.getElem?_map] at ht
        cases hf : fs.toList[j]? with
        | none => rw [hf] at ht; cases ht
        | some f =>
          rw [hf] at ht; cases ht
          rw [List.getElem?_zipWith, hf, List.getElem?_map] at hy
          cases hx : xs[j]? with
          | none => rw [hx] at hy; cases hy
          | some x =>
            rw [hx] at hy; cases hy
            exact ih f.type _ x.1 x.2 (hget j f x hf hx)
      · cases h
    · rename_i cs' m e hu
      split at h
      · rw [Option.map_eq_some_iff] at h
        obtain ⟨xs, hxs, h⟩ := h
        cases h
        rw [hu]
        simp only
        obtain ⟨hlen, hget⟩ := mapM_get hxs
        rw [List.length_range] at hlen
        refine ⟨_, by simp [hlen], rfl, fun ys hy => ?_⟩
        simp only [List.map_map, List.mem_map] at hy
        obtain ⟨p, hp, rfl⟩ := hy
        obtain ⟨i, hi⟩ := List.getElem?_of_mem hp
        have hil := getElem?_lt hi
        exact ih e _ p.1 p.2 (hget i i p (by rw [List.getElem?_range (by omega)]) hi)
      · cases h
    all_goals first
      | cases h; done
      | (rename_i hu; rw [hu]; trivial)

/-- a row's arguments, by their types -/
def ShpArgs (P : Program) : List TypeId → List AV → Prop
  | [], xs => xs = []
  | t :: ts, xs => ∃ n cs r, xs = elemOfCells (aggU (P.underlying t)) cs :: r ∧ Shp P n t cs ∧ ShpArgs P ts r

theorem Args.shp {P : Program} {enc : TypeId × Value → H} {w : World} : ∀ {ts : List TypeId} {ds : List (DataW H)} {xs : List AV}, Args P enc w ts ds xs → ShpArgs P ts xs
  | _, _, _, .nil => rfl
  | _, _, _, .cons n cs ps h r => ⟨n, _, _, rfl, trod_shp n _ cs _ ps h, r.shp⟩

section
variable {P : Program} {n : Nat} {t : TypeId} {xs : List AV}
theorem Shp.bool (h : Shp P n t xs) (hu : P.underlying t = some .bool) : ∃ b, xs = [.bool b] := by
  cases n with
  | zero => exact h.elim
  | succ n => unfold Shp at h; rw [hu] at h; exact h
theorem Shp.int {k : IntKind} (h : Shp P n t xs) (hu : P.underlying t = some (.int k)) : ∃ m, xs = [.int k m] ∧ (Lit.int k m).wf = true := by
  cases n with
  | zero => exact h.elim
  | succ n => unfold Shp at h; rw [hu] at h; exact h
theorem Shp.str (h : Shp P n t xs) (hu : P.underlying t = some .string) : ∃ s, xs = [.str s] ∧ s.length ≤ maxLen := by
  cases n with
  | zero => exact h.elim
  | succ n => unfold Shp at h; rw [hu] at h; exact h
theorem Shp.slice {e : TypeId} (h : Shp P n t xs) (hu : P.underlying t = some (.slice e)) (hz : P.cellsOf e ≠ 0) : ∃ nl sz es, xs = [.lst (some nl) sz es] ∧ (nl = true → sz = 0 ∧ es = []) ∧ (nl = false → sz = P.cellsOf e) ∧ es.length ≤ maxLen ∧ ∀ x ∈ es, ∃ m cs, x = elemOfCells (aggU (P.underlying e)) cs ∧ Shp P m e cs := by
  cases n with
  | zero => exact h.elim
  | succ n =>
    unfold Shp at h
    rw [hu] at h
    rcases h with h | h | ⟨es, h1, h2, h3⟩
    · exact ⟨true, 0, [], h, fun _ => ⟨rfl, rfl⟩, (fun h => by cases h), Nat.zero_le _, fun x hx => by cases hx⟩
    · exact absurd h hz
    · exact ⟨false, _, es, h1, (fun h => by cases h), fun _ => rfl, h2, fun x hx => let ⟨cs, k1, k2⟩ := h3 x hx; ⟨n, cs, k1, k2⟩⟩
theorem Shp.struct {fs : Array Field} (h : Shp P n t xs) (hu : P.underlying t = some (.struct fs)) : ∃ m, shpFields (Shp P m) (fs.toList.map (·.type)) xs := by
  cases n with
  | zero => exact h.elim
  | succ n => unfold Shp at h; rw [hu] at h; exact ⟨n, h⟩
theorem Shp.array {k : Nat} {e : TypeId} (h : Shp P n t xs) (hu : P.underlying t = some (.array k e)) : ∃ m, ∃ l : List (List AV), l.length = k ∧ xs = l.flatten ∧ ∀ ys ∈ l, Shp P m e ys := by
  cases n with
  | zero => exact h.elim
  | succ n => unfold Shp at h; rw [hu] at h; exact ⟨n, h⟩
end

end Go.Am
