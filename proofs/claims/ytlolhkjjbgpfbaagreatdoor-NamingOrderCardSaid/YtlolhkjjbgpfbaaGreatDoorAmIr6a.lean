/-
  Code and its plainer form; variables and temporaries; slices of one's own.
-/
import Derived.Test.YtlolhkjjbgpfbaaGreatDoorAmIr6
set_option linter.all false
namespace Go.Am
variable [Kn]

/-! ### Soundness -/

structure RelV (keep : List Nat) (nt : Nat) (env : List (Option AV)) (t : Env) : Prop where
  len : env.length = keep.length
  has : ∀ i, i < nt → t.has i = true
  env : ∀ i k v, posOf keep i = some k → env.getD k none = some v → t.get .any i = v

theorem RelV.set_none {keep : List Nat} {nt : Nat} {env : List (Option AV)} {t : Env} (h : RelV keep nt env t) (x : Nat) : RelV keep nt (env.set x none) t where
  len := by rw [List.length_set]; exact h.len
  has := h.has
  env := fun i k v hk hv => by
    by_cases hxk : x = k
    · subst hxk
      simp only [List.getD_eq_getElem?_getD] at hv
      by_cases hlt : x < env.length
      · simp [hlt] at hv
      · simp [hlt] at hv
    · refine h.env i k v hk ?_
      simp only [List.getD_eq_getElem?_getD] at hv ⊢
      rwa [List.getElem?_set_ne hxk] at hv

theorem RelV.kill {keep : List Nat} {nt : Nat} {t : Env} : ∀ (k : List Nat) {env : List (Option AV)}, RelV keep nt env t → RelV keep nt (killV k env) t
  | [], _, h => h
  | i :: r, _, h => RelV.kill r (h.set_none i)

theorem RelV.cut {keep : List Nat} {nt : Nat} {env : List (Option AV)} {s : St} (h : RelV keep nt env s.t) (n : Nat) : RelV keep nt (cutV n env s.b) (s.cut n).t := by
  unfold cutV St.cut
  split
  · rename_i hd; simp only [hd]; exact h
  · rename_i hd
    simp only [hd]
    refine ⟨by rw [List.length_map]; exact h.len, fun i hi => by rw [Tr.has_map]; exact h.has i hi, fun i k v hk hv => ?_⟩
    have : (s.t.map (forget n)).get .any i = forget n (s.t.get .any i) := Tr.get_map (forget n) .any s.t i
    rw [this]
    simp only [List.getD_eq_getElem?_getD, List.getElem?_map] at hv
    cases he : env[k]? with
    | none => rw [he] at hv; cases hv
    | some o => cases o with
      | none => rw [he] at hv; cases hv
      | some u =>
        rw [he] at hv
        simp only [Option.map_some, Option.getD_some, Option.some.injEq] at hv
        rw [h.env i k u hk (by simp [List.getD_eq_getElem?_getD, he]), hv]

theorem keepBy_rd {g : Gh} {w : World} {bs : List Box} (hm : Mem g bs w) (n : Nat) {d : AV} {v : Value} (h : Rd g w d v) : Rd (g.hand bs n) w (keepBy n bs d) v := by
  unfold keepBy
  split
  · rename_i hu; exact h.hand_under n hu
  · split
    · rename_i v' hv'
      split
      · rename_i hu; exact hand_rd hm n d v' v h hv' hu
      · exact .any v
    · exact .any v
theorem keepBy_any (n : Nat) (bs : List Box) : keepBy n bs .any = .any := rfl

theorem RelV.handV {keep : List Nat} {nt : Nat} {env : List (Option AV)} {t : Env} (h : RelV keep nt env t) (n : Nat) (b : List Box) : RelV keep nt (handV n env b) (t.map (keepBy n b)) := by
  refine ⟨by unfold Am.handV; rw [List.length_map]; exact h.len, fun i hi => by rw [Tr.has_map]; exact h.has i hi, fun i k v hk hv => ?_⟩
  have : (t.map (keepBy n b)).get .any i = keepBy n b (t.get .any i) := Tr.get_map (keepBy n b) .any t i
  rw [this]
  simp only [Am.handV, List.getD_eq_getElem?_getD, List.getElem?_map] at hv
  cases he : env[k]? with
  | none => rw [he] at hv; cases hv
  | some o => cases o with
    | none => rw [he] at hv; cases hv
    | some u =>
      rw [he] at hv
      simp only [Option.map_some, Option.getD_some, Option.some.injEq] at hv
      rw [h.env i k u hk (by simp [List.getD_eq_getElem?_getD, he]), hv]

theorem hand_mem {g : Gh} {w : World} {t : Env} {b : List Box} {a : Act} (hm : Mem g b w) (ht : TRel g w t a) {n : Nat} (hn : ¬ b.length ≤ n) : ∃ g', Mem g' (cutB n b) w ∧ TRel g' w (t.map (keepBy n b)) a ∧ (∀ g0 w0 bs0, Mem g0 bs0 w0 → bs0.length ≤ n → Le g0 w0 g w → Le g0 w0 g' w) ∧ Fr g w g' w := by
  obtain ⟨m', f'⟩ := hm.hand n
  refine ⟨g.hand b n, ?_, fun i hi => ?_, fun g0 w0 bs0 hm0 hn hl => ?_, f'⟩
  · unfold cutB
    rw [decide_eq_false hn]
    exact m'
  · rw [Tr.has_map] at hi
    obtain ⟨h1, h2⟩ := ht i hi
    refine ⟨h1, ?_⟩
    have : (t.map (keepBy n b)).get .any i = keepBy n b (t.get .any i) := Tr.get_map (keepBy n b) .any t i
    rw [this]
    exact keepBy_rd hm n h2
  · refine ⟨fun b o hs => .inl (hl.S b o hs), hl.cell, fun k => ?_⟩
    simp only [Gh.hand]
    split
    · exact hl.e k
    · rw [hm0.no k (by simp [Box.at, List.getD_eq_getElem?_getD, List.getElem?_eq_none (by omega : bs0.length ≤ k)])]; exact .no _

theorem cut_b (s : St) (n : Nat) : (s.cut n).b = cutB n s.b := by
  unfold St.cut cutB
  cases decide (s.b.length ≤ n) <;> rfl

theorem maskIds_lt {bf : List Nat} {i x : Nat} : ∀ (l : List Oper) (j k : Nat), x ∈ maskIds bf i l j k → x < k + askCount l
  | [], _, _, h => by cases h
  | o :: r, j, k, h => by
    simp only [maskIds] at h
    simp only [askCount]
    cases ha : asks o.op with
    | false =>
      simp only [ha, Bool.false_and] at h
      have hn : next k o.op = k := by unfold next; rw [ha]
      have := maskIds_lt r _ _ h
      rw [hn] at this
      simp only
      omega
    | true =>
      have hn : next k o.op = k + 1 := by unfold next; rw [ha]
      simp only
      split at h
      · rcases List.mem_cons.1 h with rfl | h
        · omega
        · have := maskIds_lt r _ _ h
          omega
      · have := maskIds_lt r _ _ h
        omega

theorem results_ok {c : Cfg} {keep : List Nat} {nt : Nat} {v : List (Option AV)} {t : Env} (h : RelV keep nt v t) {b : List Box} : ∀ {l : List ResultVar} {rs : List Res} {vs : List AV}, lowRes keep l = some rs → resultsI c v b rs = some vs → resultsA c t b l = some vs
  | [], rs, vs, h1, h2 => by cases h1; cases h2; rfl
  | .tmp i :: r, rs, vs, h1, h2 => by
    simp only [lowRes] at h1
    split at h1
    · rename_i k l hk hl
      cases h1
      simp only [resultsI, resI] at h2
      split at h2
      · rename_i x hx
        split at h2
        · rename_i y hy
          cases h2
          simp only [resultsA, resultA, results_ok h hl hy, h.env i k x hk hx]
        · cases h2
      · cases h2
    · cases h1
  | .cell i ty :: r, rs, vs, h1, h2 => by
    simp only [lowRes] at h1
    split at h1
    · rename_i k l hk hl
      cases h1
      simp only [resultsI] at h2
      split at h2
      · rename_i x hx
        split at h2
        · rename_i y hy
          cases h2
          simp only [resI] at hx
          split at hx
          · rename_i p off hp
            split at hx
            · rename_i hb ht
              simp only [resultsA, resultA, results_ok h hl hy, h.env i k _ hk hp, hb, ht, hx]
            · cases hx
          · cases hx
        · cases h2
      · cases h2
    · cases h1

theorem Tr.has_mk' {α : Type} (d : α) : ∀ (k n i : Nat), i < n → n < 2 ^ k → (Tr.mk d k n).has i = true
  | 0, n, i, h, hk => by omega
  | k + 1, 0, i, h, hk => by omega
  | k + 1, n + 1, 0, h, hk => rfl
  | k + 1, n + 1, i + 1, h, hk => by
    have : 2 ^ (k + 1) = 2 * 2 ^ k := by rw [Nat.pow_succ]; omega
    rcases Nat.mod_two_eq_zero_or_one i with hi | hi <;> simp only [Tr.mk, Tr.has, hi]
    · exact Tr.has_mk' d k _ _ (by omega) (by omega)
    · exact Tr.has_mk' d k _ _ (by omega) (by omega)

theorem putArgs_has : ∀ (l : List AV) (t : Env) (i j : Nat), (putArgs t i l).has j = t.has j
  | [], _, _, _ => rfl
  | v :: r, t, i, j => by simp only [putArgs]; rw [putArgs_has r, Tr.has_set]

theorem putArgs_old : ∀ (l : List AV) (t : Env) (i j : Nat), j < i → (putArgs t i l).get .any j = t.get .any j
  | [], _, _, _, _ => rfl
  | v :: r, t, i, j, h => by
    simp only [putArgs]
    rw [putArgs_old r _ _ _ (by omega), Tr.get_set_ne _ _ _ (by omega)]

theorem putArgs_get : ∀ (l : List AV) (t : Env) (i j : Nat) (v : AV), l[j]? = some v → t.has (i + j) = true → (putArgs t i l).get .any (i + j) = v
  | [], _, _, _, _, h, _ => by simp at h
  | u :: r, t, i, 0, v, h, hh => by
    simp at h; subst h
    simp only [putArgs, Nat.add_zero]
    rw [putArgs_old r _ _ _ (by omega)]
    exact Tr.get_set_eq _ _ _ hh
  | u :: r, t, i, j + 1, v, h, hh => by
    simp only [putArgs]
    rw [show i + (j + 1) = i + 1 + j by omega] at hh ⊢
    exact putArgs_get r _ _ j v (by simpa using h) (by rw [Tr.has_set]; exact hh)

theorem startV_get {args : List AV} : ∀ {keep : List Nat} {k i : Nat} {v : AV}, keep[k]? = some i → (startV keep args).getD k none = some v → args[i]? = some v
  | [], _, _, _, h, _ => by simp at h
  | x :: r, 0, i, v, h, hv => by simp at h; subst h; simpa [startV] using hv
  | x :: r, k + 1, i, v, h, hv => startV_get (by simpa using h) (by simpa [startV] using hv)

theorem startV_length (args : List AV) : ∀ (keep : List Nat), (startV keep args).length = keep.length
  | [] => rfl
  | _ :: r => by simp [startV, startV_length args r]


/-- a piece of code and its plainer form -/
inductive SimC (c : Cfg) (keep : List Nat) (nt : Nat) : Code → IR → Prop where
  | stuck (a : Code) : SimC c keep nt a .stuck
  | own (a : Code) (l : List Own) (x : IR) (h : SimC c keep nt a x) : SimC c keep nt a (.seq (.own l) x)
  | after (a : Code) (l : List Own) (x : IR) (h : SimC c keep nt a x) : SimC c keep nt a (.seq x (.own l))
  | skip : SimC c keep nt .skip .skip
  | label (l : Nat) : SimC c keep nt (.label l) .skip
  | ret : SimC c keep nt .ret .ret
  | exit (i : Nat) : SimC c keep nt (.exit i) (.exit i)
  | seq (a b : Code) (x y : IR) (h1 : SimC c keep nt a x) (h2 : SimC c keep nt b y) : SimC c keep nt (.seq a b) (.seq x y)
  | block (i : Nat) (a : Code) (x : IR) (h : SimC c keep nt a x) : SimC c keep nt (.block i a) (.block i x)
  | cond (t k : Nat) (a b : Code) (x y : IR) (hk : posOf keep t = some k) (h1 : SimC c keep nt a x) (h2 : SimC c keep nt b y) : SimC c keep nt (.cond (.tmp t) a b) (.cond k x y)
  | yes (v : Value) (a b : Code) (x : IR) (hv : ofVal v = .bool true) (h : SimC c keep nt a x) : SimC c keep nt (.cond (.const v) a b) x
  | no (v : Value) (a b : Code) (x : IR) (hv : ofVal v = .bool false) (h : SimC c keep nt b x) : SimC c keep nt (.cond (.const v) a b) x
  | loop (k : List Nat) (a : Code) (x : IR) (h : SimC c keep nt a x) : SimC c keep nt (.loop a) (.loop k x)
  | region (id : Nat) (ops : Array Oper) (dr : Bool) (x : IR) (h : lowR c keep nt ops dr = some x) : SimC c keep nt (.region id ops dr) x
  | rng (t x : Nat) (ps : Array Tmp) (asg body : Code) (hk : posOf keep t = some x) : SimC c keep nt (.rangeFunc (.tmp t) ps asg body) (.rng x ⟨ps, asg, body, keep, nt⟩)

theorem sim_seqOwn {c : Cfg} {keep : List Nat} {nt : Nat} {a : Code} {x : IR} (h : SimC c keep nt a x) (l : List Own) : SimC c keep nt a (seqOwn l x) := by
  unfold seqOwn; split
  · exact h
  · exact .own a _ x h
theorem sim_ownSeq {c : Cfg} {keep : List Nat} {nt : Nat} {a : Code} {x : IR} (h : SimC c keep nt a x) (l : List Own) : SimC c keep nt a (ownSeq x l) := by
  unfold ownSeq; split
  · exact h
  · exact .after a _ x h

theorem sim_low {c : Cfg} {keep : List Nat} {nt n ret : Nat} : ∀ (a : Code) (ir : IR), lowC c keep nt a = some ir → ∀ (xs : List (Nat × Nat)) (out : Nat), SimC c keep nt a (annot c n ret ir xs out) := by
  intro a
  induction a <;> intro ir hl xs out <;> try simp only [lowC] at hl
  case skip => cases hl; exact .skip
  case label => cases hl; exact .label _
  case ret => cases hl; exact .ret
  case exit => cases hl; exact .exit _
  case seq a b ih1 ih2 =>
    split at hl
    · rename_i ha hb; cases hl; exact .seq _ _ _ _ (ih1 _ ha _ _) (ih2 _ hb _ _)
    · cases hl
  case block i a ih =>
    split at hl
    · rename_i ha; cases hl; exact .block _ _ _ (ih _ ha _ _)
    · cases hl
  case cond x a b ih1 ih2 =>
    cases x with
    | tmp x =>
      simp only [lowC] at hl
      split at hl
      · rename_i hk ha hb; cases hl; exact .cond _ _ _ _ _ _ hk (ih1 _ ha _ _) (ih2 _ hb _ _)
      · cases hl
    | const u =>
      simp only [lowC] at hl
      split at hl
      · rename_i hu; exact .yes _ _ _ _ hu (ih1 _ hl _ _)
      · rename_i hu; exact .no _ _ _ _ hu (ih2 _ hl _ _)
      · cases hl; exact .stuck _
    | func f => simp only [lowC] at hl; cases hl; exact .stuck _
    | global g => simp only [lowC] at hl; cases hl; exact .stuck _
  case loop a ih =>
    split at hl
    · rename_i ha; cases hl; exact sim_seqOwn (.loop _ _ _ (ih _ ha _ _)) _
    · cases hl
  case region id ops dr =>
    split at hl
    · rename_i y hl0
      cases hl
      have hl2 := hl0
      unfold lowR at hl2
      split at hl2
      · split at hl2
        · cases hl2; exact sim_seqOwn (sim_ownSeq (.region _ _ _ _ hl0) _) _
        · cases hl2
      · cases hl2
    · cases hl; exact .stuck _
  case rangeFunc f ps asg body ih1 ih2 =>
    cases f with
    | tmp t =>
      simp only [lowC] at hl
      split at hl
      · rename_i hk; cases hl; exact sim_seqOwn (.rng _ _ _ _ _ hk) _
      · cases hl
    | const u => simp only [lowC] at hl; cases hl; exact .stuck _
    | func f => simp only [lowC] at hl; cases hl; exact .stuck _
    | global g => simp only [lowC] at hl; cases hl; exact .stuck _
  all_goals (cases hl; exact .stuck _)

/-- the variables say what the temporaries hold in the model -/
def VRel (keep : List Nat) (nt : Nat) (g : Gh) (w : World) (v : List (Option AV)) (a : Act) : Prop := ∃ t, RelV keep nt v t ∧ TRel g w t a

/-- what the ranges over functions have left among the deferred calls: blocks that hold none -/
def Marks (n0 : Nat) (w : World) (ds : List Deferred) : Prop :=
  n0 ≤ w.heap.size ∧ ∃ Ds : List Nat, ds = Ds.map (fun D => { target := .collected D, args := #[] }) ∧ Ds.Nodup ∧ ∀ D ∈ Ds, n0 ≤ D ∧ w.heap[D]? = some (.deferred (some []))

theorem Marks.nil {n0 : Nat} {w : World} (h : n0 ≤ w.heap.size) : Marks n0 w [] := ⟨h, [], rfl, List.nodup_nil, fun _ h => by cases h⟩

/-- a block without cells or a loop's record is no box's -/
theorem Mem.no_box {g : Gh} {b : List Box} {w : World} (hm : Mem g b w) {D : Nat} {x : Option (List Deferred)} (h : w.heap[D]? = some (.deferred x)) (k : Nat) : (g.e k).blk ≠ some D := by
  intro hk
  cases hb : Box.at b k with
  | dead => rw [hm.no k hb] at hk; cases hk
  | var ty cs =>
    obtain ⟨b', he, c, hh, _⟩ := hm.var k ty cs hb
    rw [he] at hk; simp only [GE.blk, Option.some.injEq] at hk; subst hk
    rw [h] at hh; cases hh
  | sl sh sz es =>
    obtain ⟨loc, he, _, hr⟩ := hm.sl k sh sz es hb
    rw [he] at hk
    cases loc with
    | none => cases hk
    | some p =>
      obtain ⟨b', cap⟩ := p
      obtain ⟨c, ty, fz, hh, _⟩ := hr
      simp only [GE.blk, Option.map_some, Option.some.injEq] at hk; subst hk
      rw [h] at hh; cases hh
  | loop st =>
    obtain ⟨b', r, he, hh⟩ := hm.loop k st hb
    rw [he] at hk; simp only [GE.blk, Option.some.injEq] at hk; subst hk
    rw [h] at hh; cases hh
  | mp es clock =>
    obtain ⟨b', he, ents, hh, _⟩ := hm.mp k es clock hb
    rw [he] at hk; simp only [GE.blk, Option.some.injEq] at hk; subst hk
    rw [h] at hh; cases hh
  | gone =>
    obtain ⟨m, sz, he⟩ := hm.gone k hb
    rw [he] at hk; cases hk
  | iter s pos =>
    obtain ⟨b', he, hh⟩ := hm.it k s pos hb
    rw [he] at hk; simp only [GE.blk, Option.some.injEq] at hk; subst hk
    rw [h] at hh; cases hh

theorem Marks.mono {n0 : Nat} {g g' : Gh} {b : List Box} {w w' : World} {ds : List Deferred} (hm : Mem g b w) (hf : Fr g w g' w') (h : Marks n0 w ds) : Marks n0 w' ds := by
  obtain ⟨h0, Ds, h1, h2, h3⟩ := h
  exact ⟨Nat.le_trans h0 hf.size, Ds, h1, h2, fun D hD => ⟨(h3 D hD).1, (hf.frame D (lt_of_row (h3 D hD).2) (hm.no_box (h3 D hD).2)).1.trans (h3 D hD).2⟩⟩

def SPostI (keep : List Nat) (nt n0 : Nat) (g : Gh) (w : World) (v' : List (Option AV)) (b' : List Box) (a' : Act) (w' : World) : Prop :=
  Marks n0 w' a'.defers ∧ ∃ g', Mem g' b' w' ∧ VRel keep nt g' w' v' a' ∧ Le g w g' w' ∧ Fr g w g' w'

/-! ### Slices of one's own -/

/-- a box for an empty slice without a block -/
def Gh.emp (g : Gh) (k sz : Nat) : Gh := { S := g.S, e := fun j => if j = k then .sl 0 sz none else g.e j }

theorem emp_le {g : Gh} {k : Nat} (hk : g.e k = .no) (sz : Nat) (w : World) : Le g w (g.emp k sz) w where
  S := fun _ _ h => h
  cell := fun _ _ _ => rfl
  e := fun j => by
    simp only [Gh.emp]
    split
    · rename_i h; subst h; rw [hk]; exact .no _
    · exact .same _

theorem emp_blk {g : Gh} {k sz j b : Nat} (h : ((g.emp k sz).e j).blk = some b) : j ≠ k ∧ (g.e j).blk = some b := by
  simp only [Gh.emp] at h
  split at h
  · cases h
  · rename_i hj; exact ⟨hj, h⟩

theorem at_app (b : List Box) (x : Box) (k : Nat) : Box.at (b ++ [x]) k = if k = b.length then x else Box.at b k := by
  simp only [Box.at, List.getD_eq_getElem?_getD]
  by_cases h1 : k < b.length
  · rw [List.getElem?_append_left h1, if_neg (by omega)]
  · by_cases h2 : k = b.length
    · subst h2; simp
    · rw [if_neg h2, List.getElem?_eq_none (by simp; omega), List.getElem?_eq_none (by omega)]

theorem fresh {g : Gh} {b : List Box} {w : World} (hm : Mem g b w) : g.e b.length = .no := hm.no _ (by simp [Box.at])

theorem Mem.emp {g : Gh} {b : List Box} {w : World} (hm : Mem g b w) (el : TypeId) (sz : Nat) : Mem (g.emp b.length sz) (b ++ [.sl ⟨false, some el⟩ sz []]) w := by
  have hle := emp_le (fresh hm) sz w
  refine ⟨fun k hk => ?_, fun k ty cs hk => ?_, fun k sh sz' es hk => ?_, fun k st hk => ?_, fun k es clock hk => ?_, fun k hk => ?_, fun k s pos hk => ?_, fun k l b' hk hl => ?_, fun b' o hb => ?_, fun p hp => ⟨(hm.kn p hp).1, fun k hk => (hm.kn p hp).2 k (emp_blk hk).2⟩⟩
  · rw [at_app] at hk
    split at hk
    · cases hk
    · rename_i h; simp only [Gh.emp, if_neg h]; exact hm.no k hk
  · rw [at_app] at hk
    split at hk
    · cases hk
    · rename_i h
      obtain ⟨b', h1, h2⟩ := hm.var k ty cs hk
      exact ⟨b', by simp only [Gh.emp, if_neg h]; exact h1, h2.mono hle rfl⟩
  · rw [at_app] at hk
    split at hk
    · rename_i h
      cases hk
      exact ⟨none, by simp only [Gh.emp, if_pos h]; rfl, fun i e he => (by simp at he), rfl⟩
    · rename_i h
      obtain ⟨loc, h1, h2⟩ := hm.sl k sh sz' es hk
      exact ⟨loc, by simp only [Gh.emp, if_neg h]; exact h1, h2.mono hle (fun _ _ => rfl)⟩
  · rw [at_app] at hk
    split at hk
    · cases hk
    · rename_i h
      obtain ⟨b', r, h1, h2⟩ := hm.loop k st hk
      exact ⟨b', r, by simp only [Gh.emp, if_neg h]; exact h1, h2⟩
  · rw [at_app] at hk
    split at hk
    · cases hk
    · rename_i h
      obtain ⟨b', h1, h2⟩ := hm.mp k es clock hk
      exact ⟨b', by simp only [Gh.emp, if_neg h]; exact h1, h2.mono hle rfl⟩
  · rw [at_app] at hk
    split at hk
    · cases hk
    · rename_i h; simp only [Gh.emp, if_neg h]; exact hm.gone k hk
  · rw [at_app] at hk
    split at hk
    · cases hk
    · rename_i h; simp only [Gh.emp, if_neg h]; exact hm.it k s pos hk
  · exact hm.inj k l b' (emp_blk hk).2 (emp_blk hl).2
  · obtain ⟨h1, h2⟩ := hm.stab b' o hb
    refine ⟨h1, fun k hk => ?_⟩
    obtain ⟨hne, hk'⟩ := emp_blk hk
    obtain ⟨ty, sz', es, h3, h4⟩ := h2 k hk'
    exact ⟨ty, sz', es, by rw [at_app, if_neg hne]; exact h3, h4⟩

theorem nil_osl {g : Gh} {w : World} {z : Nat} {v : Value} (h : Rd g w (.lst (some true) z []) v) {g' : Gh} {k sz : Nat} (hk : g'.e k = .sl 0 sz none) : Rd g' w (.osl k 0) v := by
  cases h with
  | lst nl sz' es a cap b off vals hnl hnil hcap ha hp hc h =>
    have ha : a = none := by have := hnl true rfl; cases a with
      | none => rfl
      | some x => cases this
    obtain ⟨_, rfl⟩ := hnil ha
    subst ha
    exact .osl k 0 0 sz none _ rfl hk (Nat.le_refl _) (fun _ => .inr ⟨rfl, rfl, rfl⟩)

theorem Mem.set_var {g : Gh} {b : List Box} {w : World} (hm : Mem g b w) {k : Nat} {ty : TypeId} {cs : List AV} (hb : Box.at b k = .var ty cs) {i : Nat} {x : AV} (hx : ∀ v, (∀ y, cs[i]? = some y → Rd g w y v) → Rd g w x v) : Mem g (b.set k (.var ty (cs.set i x))) w := by
  have hlt : k < b.length := at_lt (by rw [hb]; simp)
  have hat : ∀ j, Box.at (b.set k (.var ty (cs.set i x))) j = if j = k then .var ty (cs.set i x) else Box.at b j := fun j => by
    simp only [Box.at, List.getD_eq_getElem?_getD]
    by_cases h : j = k
    · subst h; simp [hlt]
    · rw [if_neg h, List.getElem?_set_ne (Ne.symm h)]
  refine ⟨fun j hj => ?_, fun j ty' cs' hj => ?_, fun j sh sz es hj => ?_, fun j st hj => ?_, fun j es clock hj => ?_, fun j hj => ?_, fun j s pos hj => ?_, hm.inj, fun b' o hs => ?_, hm.kn⟩
  · rw [hat] at hj
    split at hj
    · cases hj
    · exact hm.no j hj
  · rw [hat] at hj
    split at hj
    · rename_i h; subst h
      cases hj
      obtain ⟨b', h1, c, h2, h3, h4⟩ := hm.var _ ty cs hb
      refine ⟨b', h1, c, h2, by simpa using h3, fun l y v hy hv => ?_⟩
      by_cases hl : i = l
      · subst hl
        have hil : i < cs.length := by have := getElem?_lt hy; simpa using this
        simp [hil] at hy
        subst hy
        exact hx v (fun y hy => h4 i y v hy hv)
      · rw [List.getElem?_set_ne hl] at hy
        exact h4 l y v hy hv
    · exact hm.var j ty' cs' hj
  · rw [hat] at hj
    split at hj
    · cases hj
    · exact hm.sl j sh sz es hj
  · rw [hat] at hj
    split at hj
    · cases hj
    · exact hm.loop j st hj
  · rw [hat] at hj
    split at hj
    · cases hj
    · exact hm.mp j es clock hj
  · rw [hat] at hj
    split at hj
    · cases hj
    · exact hm.gone j hj
  · rw [hat] at hj
    split at hj
    · cases hj
    · exact hm.it j s pos hj
  · obtain ⟨h1, h2⟩ := hm.stab b' o hs
    refine ⟨h1, fun j hj => ?_⟩
    obtain ⟨ty', sz, es, h3, h4⟩ := h2 j hj
    refine ⟨ty', sz, es, ?_, h4⟩
    rw [hat, if_neg]
    · exact h3
    · intro h; subst h; rw [hb] at h3; cases h3

theorem isNil_eq {x : AV} (h : x.isNil = true) : ∃ z, x = .lst (some true) z [] := by
  cases x <;> simp only [AV.isNil, Bool.false_eq_true] at h
  rename_i nl z es
  simp only [Bool.and_eq_true, beq_iff_eq, List.isEmpty_iff] at h
  obtain ⟨rfl, rfl⟩ := h
  exact ⟨z, rfl⟩

theorem own1_ok {keep : List Nat} {nt : Nat} {g : Gh} {w : World} {v : List (Option AV)} {b : List Box} {a : Act} (hm : Mem g b w) (hv : VRel keep nt g w v a) (o : Own) :
    ∃ g', Mem g' (own1 o v b).2 w ∧ VRel keep nt g' w (own1 o v b).1 a ∧ Le g w g' w ∧ Fr g w g' w := by
  have same : ∃ g', Mem g' b w ∧ VRel keep nt g' w v a ∧ Le g w g' w ∧ Fr g w g' w := ⟨g, hm, hv, Le.refl g w, Fr.refl g w⟩
  have hfr : ∀ sz, Fr g w (g.emp b.length sz) w := fun sz => ⟨Nat.le_refl _, fun b' _ h => ⟨rfl, fun k hk => h k (emp_blk hk).2, fun _ h => h⟩, rfl, rfl, rfl⟩
  unfold own1
  split
  · split
    rename_i x hs
    split
    · rename_i hnil
      split
      · exact same
      obtain ⟨z, rfl⟩ := isNil_eq hnil
      obtain ⟨t, hr, ht⟩ := hv
      refine ⟨g.emp b.length o.sz, hm.emp o.el o.sz, ?_, emp_le (fresh hm) _ w, hfr _⟩
      by_cases hex : ∃ j, posOf keep j = some o.slot
      · obtain ⟨j, hj⟩ := hex
        have htj := hr.env j o.slot _ hj hs
        refine ⟨t.set j (.osl b.length 0), ⟨by rw [List.length_set]; exact hr.len, fun i hi => by rw [Tr.has_set]; exact hr.has i hi, fun i k u hk hu => ?_⟩, fun i hi => ?_⟩
        · by_cases hij : i = j
          · subst hij
            rw [hj] at hk; cases hk
            have hlt : o.slot < v.length := by rw [hr.len]; exact (List.getElem?_eq_some_iff.1 (posOf_get hj)).1
            simp [List.getD_eq_getElem?_getD, hlt] at hu
            subst hu
            refine Tr.get_set_eq _ _ _ ?_
            cases hh : t.has i with
            | true => rfl
            | false => rw [Tr.get_has_not _ _ hh] at htj; cases htj
          · rw [Tr.get_set_ne _ _ _ (Ne.symm hij)]
            refine hr.env i k u hk ?_
            have : o.slot ≠ k := fun e => hij (posOf_inj hk (e ▸ hj))
            simp only [List.getD_eq_getElem?_getD] at hu ⊢
            rwa [List.getElem?_set_ne this] at hu
        · rw [Tr.has_set] at hi
          obtain ⟨h1, h2⟩ := ht i hi
          refine ⟨h1, ?_⟩
          by_cases hij : i = j
          · subst hij
            rw [Tr.get_set_eq _ _ _ hi]
            rw [htj] at h2
            exact nil_osl (sz := o.sz) h2 (by simp [Gh.emp])
          · rw [Tr.get_set_ne _ _ _ (Ne.symm hij)]
            exact h2.mono (emp_le (fresh hm) _ w)
      · refine ⟨t, ⟨by rw [List.length_set]; exact hr.len, hr.has, fun i k u hk hu => ?_⟩, ht.mono (emp_le (fresh hm) _ w)⟩
        refine hr.env i k u hk ?_
        have : o.slot ≠ k := fun e => hex ⟨i, e ▸ hk⟩
        simp only [List.getD_eq_getElem?_getD] at hu ⊢
        rwa [List.getElem?_set_ne this] at hu
    · split
      · unfold lent1
        split
        · split
          · rename_i hb
            obtain ⟨g', m', l', f', _⟩ := share_box hm hb
            obtain ⟨t, hr, ht⟩ := hv
            exact ⟨g', m', ⟨t, hr, ht.mono l'⟩, l', f'⟩
          · exact same
        · exact same
      · exact same
    · exact same
  · rename_i off hoff
    split
    · rename_i k base hs
      split
      · rename_i ty cs hb
        split
        rename_i x hc
        split
        · rename_i hnil
          obtain ⟨z, rfl⟩ := isNil_eq hnil
          obtain ⟨t, hr, ht⟩ := hv
          have hm1 := hm.emp o.el o.sz
          have hlt : k < b.length := at_lt (by rw [hb]; simp)
          have hb1 : Box.at (b ++ [.sl ⟨false, some o.el⟩ o.sz []]) k = .var ty cs := by rw [at_app, if_neg (by omega)]; exact hb
          have hm2 := hm1.set_var hb1 (i := base + off) (x := .osl b.length 0) (fun u hu => nil_osl (sz := o.sz) (hu _ hc) (by simp [Gh.emp]))
          rw [List.set_append_left _ _ hlt] at hm2
          exact ⟨g.emp b.length o.sz, hm2, ⟨t, hr, ht.mono (emp_le (fresh hm) _ w)⟩, emp_le (fresh hm) _ w, hfr _⟩
        · exact same
        · exact same
      · exact same
    · exact same

theorem ownAll_ok {keep : List Nat} {nt : Nat} {w : World} {a : Act} : ∀ (l : List Own) {g : Gh} {v : List (Option AV)} {b : List Box}, Mem g b w → VRel keep nt g w v a →
    ∃ g', Mem g' (ownAll l v b).2 w ∧ VRel keep nt g' w (ownAll l v b).1 a ∧ Le g w g' w ∧ Fr g w g' w
  | [], g, v, b, hm, hv => ⟨g, hm, hv, Le.refl g w, Fr.refl g w⟩
  | o :: r, g, v, b, hm, hv => by
    obtain ⟨g1, h1, h2, h3, h4⟩ := own1_ok hm hv o
    obtain ⟨g2, k1, k2, k3, k4⟩ := ownAll_ok r h1 h2
    exact ⟨g2, k1, k2, h3.trans k3, h4.trans k4⟩

end Go.Am
