/-
  Recover and Read of the program.
-/
import Derived.Test.YtfhfnehoaiegcaaGreatDoorChkM
set_option linter.all false
namespace Go.Proofs.YtfhfnehoaiegcaaGreatDoor
open Go.Am
set_option maxRecDepth 10000
set_option maxHeartbeats 8000000

def enN (x : EntC) : En := ⟨evN x.c, x.d⟩
def ensN (L : List EntC) : List En := L.map enN

theorem ansEntriesP (data : Str) (bs : List Box) : ansF cfg 56 [.str data] bs = some (.fn 81 [] [.ptr bs.length 0], bs ++ [.var 9 [.str data]]) := by
  refine ans_of_wp fn56 low56 ?_
  simp (config := { maxSteps := 1000000 }) (disch := omega) [-List.map_replicate, -List.map_set, -List.getD_eq_getElem?_getD, -getElem?_pos, -getElem?_neg, wrap_i64, le_strLim, le_sliceLim, le_buildLim, le_sliceLimI, Int.tmod_eq_emod_of_nonneg, Int.tdiv_eq_ediv_of_nonneg, omLe, omLeN, omLt, omLtN, omEq, omEqN, onLe, onLeN, onLt, onLtN, onEq, onEqN, ir56]
theorem ansEntriesP0 (data : Str) : ansF cfg 56 [.str data] [] = some (.fn 81 [] [.ptr 0 0], [.var 9 [.str data]]) := ansEntriesP data []

theorem or_i64 (a b : Nat) (ha : a < 4294967296) (hb : b < 4294967296) : IntKind.i64.wrap ((a % 2 ^ IntKind.i64.bits ||| b % 2 ^ IntKind.i64.bits : Nat) : Int) = ((a ||| b : Nat) : Int) := by
  have h1 : a % 2 ^ IntKind.i64.bits = a := Nat.mod_eq_of_lt (by simp only [IntKind.bits]; omega)
  have h2 : b % 2 ^ IntKind.i64.bits = b := Nat.mod_eq_of_lt (by simp only [IntKind.bits]; omega)
  have h3 : a ||| b < 2 ^ 32 := Nat.or_lt_two_pow ha hb
  rw [h1, h2]
  exact wrap_i64 (by omega) (by omega)
theorem num_or (a b c d : Nat) (ha : a < 256) (hb : b < 256) (hc : c < 256) (hd : d < 256) : ((a * 16777216 ||| b * 65536) ||| c * 256) ||| d = ((a * 256 + b) * 256 + c) * 256 + d := by
  have e1 : a * 16777216 ||| b * 65536 = a * 16777216 + b * 65536 := by
    have := Nat.two_pow_add_eq_or_of_lt (i := 24) (b := b * 65536) (by omega) a
    rw [Nat.mul_comm] at this
    exact this.symm
  have e2 : (a * 256 + b) * 65536 ||| c * 256 = (a * 256 + b) * 65536 + c * 256 := by
    have := Nat.two_pow_add_eq_or_of_lt (i := 16) (b := c * 256) (by omega) (a * 256 + b)
    rw [Nat.mul_comm] at this
    exact this.symm
  have e3 : ((a * 256 + b) * 256 + c) * 256 ||| d = ((a * 256 + b) * 256 + c) * 256 + d := by
    have := Nat.two_pow_add_eq_or_of_lt (i := 8) (b := d) (by omega) ((a * 256 + b) * 256 + c)
    rw [Nat.mul_comm] at this
    exact this.symm
  rw [e1, show a * 16777216 + b * 65536 = (a * 256 + b) * 65536 by omega, e2, show (a * 256 + b) * 65536 + c * 256 = ((a * 256 + b) * 256 + c) * 256 by omega, e3]

/-- the variables where the loop begins -/
def envR (text : Str) : List AV := [.str text, .lst (some true) 0 [], .int .i64 0, .ptr 0 0, .ptr 2 0, .any, .any, .fn 81 [] [.ptr 3 0], .any, .any, .any, .any, .any, .any, .any]
theorem roundRec (text : Str) (x y : AV) : roundV site24_0 (envR text) [x, y] =
    [some (.str text), some (.lst (some true) 0 []), some (.int .i64 0), some (.ptr 0 0), some (.ptr 2 0), some .any, some .any, some (.fn 81 [] [.ptr 3 0]), some x, some y, some .any, some .any, some .any, some .any, some .any] := by kernel_rfl
/-- the boxes -/
def boxR (rest : Str) (L : List EntC) (n : Int) (st : LSt) (J : List Box) : List Box :=
  .var 36 [.osl 1 L.length] :: .sl ⟨false, some 52⟩ 6 (ensA (ensN L)) :: .var 3 [.int .i64 n] :: .var 9 [.str rest] :: .loop st :: J
/-- the boxes of a round of the iterator -/
def boxJ (x : EntC) : List Box := [.dead, .dead, .dead, .dead, .var 25 (evN x.c).cells, .var 52 ((evN x.c).cells ++ [.str x.d])]

theorem yldR (text rest : Str) (L : List EntC) (n size : Int) (x : EntC) (h1 : L.length < 1024) (hn : 0 ≤ n ∧ n ≤ 100000000) (hs : 0 ≤ size ∧ size ≤ 100000000) :
    ansT cfg (.yld 4 site24_0 (envR text)) [enA (enN x), .int .i64 size] (boxR rest L n .ready (boxJ x)) = some (.bool true, boxR rest (L ++ [x]) (n + size) .ready (boxJ x)) := by
  refine yld_of_wp lowS24_0 (by kernel_rfl) (by kernel_rfl) rfl ?_
  rw [roundRec]
  have hen : ensA (ensN (L ++ [x])) = ensA (ensN L) ++ [enA (enN x)] := by simp [ensN, ensA]
  have hl : (ensA (ensN L)).length = L.length := by simp [ensN]
  unfold boxR boxJ
  rw [hen]
  generalize ensA (ensN L) = A at *
  simp (config := { maxSteps := 1000000 }) (disch := omega) [-List.map_replicate, -List.map_set, -List.getD_eq_getElem?_getD, -getElem?_pos, -getElem?_neg, wrap_i64, le_strLim, le_sliceLim, le_buildLim, le_sliceLimI, Int.tmod_eq_emod_of_nonneg, Int.tdiv_eq_ediv_of_nonneg, omLe, omLeN, omLt, omLtN, omEq, omEqN, onLe, onLeN, onLt, onLtN, onEq, onEqN, irA24_0, irB24_0, splice, endSt, Ex.isNormal, enA, enN, evN, Ev.cells, hl]
theorem yldFull (text rest : Str) (L : List EntC) (n size : Int) (x : EntC) (h1 : L.length = 1024) :
    ansT cfg (.yld 4 site24_0 (envR text)) [enA (enN x), .int .i64 size] (boxR rest L n .ready (boxJ x)) = some (.bool false, boxR rest L n (.done (.exit 0)) (boxJ x)) := by
  refine yld_of_wp lowS24_0 (by kernel_rfl) (by kernel_rfl) rfl ?_
  rw [roundRec]
  have hl : (ensA (ensN L)).length = L.length := by simp [ensN]
  unfold boxR boxJ
  generalize ensA (ensN L) = A at *
  simp (config := { maxSteps := 1000000 }) (disch := omega) [-List.map_replicate, -List.map_set, -List.getD_eq_getElem?_getD, -getElem?_pos, -getElem?_neg, wrap_i64, le_strLim, le_sliceLim, le_buildLim, le_sliceLimI, Int.tmod_eq_emod_of_nonneg, Int.tdiv_eq_ediv_of_nonneg, omLe, omLeN, omLt, omLtN, omEq, omEqN, onLe, onLeN, onLt, onLtN, onEq, onEqN, irA24_0, irB24_0, splice, endSt, Ex.isNormal, enA, enN, evN, Ev.cells, hl, h1]

/-- the entry before, as the iterator holds it -/
def pl : Option EntC → List En
  | none => []
  | some x => [enN x]
def plN : Option EntC → Option Bool
  | none => some true
  | some _ => none
def plZ : Option EntC → Nat
  | none => 0
  | some _ => 6
def lastA (p : Option EntC) : AV := .lst (plN p) (plZ p) (ensA (pl p))
theorem lastL_pl (p : Option EntC) : lastL (pl p) = p := by cases p <;> rfl
theorem enN_ok {x : EntC} (h1 : x.c.nums.length < 1000000) (h2 : x.c.texts.length < 1000000) (h3 : x.d.length < 100000) : (enN x).ok where
  e := ⟨fun _ => rfl, fun _ => rfl, h1, h2⟩
  n := ⟨rfl, rfl⟩
  d := h3
/-! the length ahead of an entry, as the machine makes it; in words that omega does not look into -/
def wA (a : UInt8) : Nat := a.toNat * 16777216
def wB (a : UInt8) : Nat := a.toNat * 65536
def wC (a : UInt8) : Nat := a.toNat * 256
def wD (a b : UInt8) : Nat := wA a ||| wB b
def wE (a b c : UInt8) : Nat := wD a b ||| wC c
def wF (a b c d : UInt8) : Nat := wE a b c ||| d.toNat
theorem wA_lt (a : UInt8) : wA a < 4294967296 := by have := a.toNat_lt; unfold wA; omega
theorem wB_lt (a : UInt8) : wB a < 4294967296 := by have := a.toNat_lt; unfold wB; omega
theorem wC_lt (a : UInt8) : wC a < 4294967296 := by have := a.toNat_lt; unfold wC; omega
theorem wD_lt (a b : UInt8) : wD a b < 4294967296 := Nat.or_lt_two_pow (n := 32) (wA_lt a) (wB_lt b)
theorem wE_lt (a b c : UInt8) : wE a b c < 4294967296 := Nat.or_lt_two_pow (n := 32) (wD_lt a b) (wC_lt c)
theorem n0 (a : UInt8) : IntKind.i64.wrap (a.toNat : Int) = (a.toNat : Int) := by
  have ha := a.toNat_lt
  exact wrap_i64 (by omega) (by omega)
theorem n1 (a : UInt8) : IntKind.i64.wrap ((a.toNat : Int) * 2 ^ min 24 IntKind.i64.bits) = (wA a : Int) := by
  have ha := a.toNat_lt
  have h24 : (2 : Int) ^ min 24 IntKind.i64.bits = 16777216 := by decide
  rw [h24, wrap_i64 (by omega) (by omega)]; simp [wA]
theorem n2 (a : UInt8) : IntKind.i64.wrap ((a.toNat : Int) * 2 ^ min 16 IntKind.i64.bits) = (wB a : Int) := by
  have ha := a.toNat_lt
  have h16 : (2 : Int) ^ min 16 IntKind.i64.bits = 65536 := by decide
  rw [h16, wrap_i64 (by omega) (by omega)]; simp [wB]
theorem n3 (a : UInt8) : IntKind.i64.wrap ((a.toNat : Int) * 2 ^ min 8 IntKind.i64.bits) = (wC a : Int) := by
  have ha := a.toNat_lt
  have h8 : (2 : Int) ^ min 8 IntKind.i64.bits = 256 := by decide
  rw [h8, wrap_i64 (by omega) (by omega)]; simp [wC]
theorem n4 (a b : UInt8) : IntKind.i64.wrap (((wA a % 2 ^ IntKind.i64.bits ||| wB b % 2 ^ IntKind.i64.bits : Nat)) : Int) = (wD a b : Int) := or_i64 _ _ (wA_lt a) (wB_lt b)
theorem n5 (a b c : UInt8) : IntKind.i64.wrap (((wD a b % 2 ^ IntKind.i64.bits ||| wC c % 2 ^ IntKind.i64.bits : Nat)) : Int) = (wE a b c : Int) := or_i64 _ _ (wD_lt a b) (wC_lt c)
theorem n6 (a b c d : UInt8) : IntKind.i64.wrap (((wE a b c % 2 ^ IntKind.i64.bits ||| d.toNat % 2 ^ IntKind.i64.bits : Nat)) : Int) = (wF a b c d : Int) := or_i64 _ _ (wE_lt a b c) (by have := d.toNat_lt; omega)
theorem wF_eq (a b c d : UInt8) : wF a b c d = ((a.toNat * 256 + b.toNat) * 256 + c.toNat) * 256 + d.toNat := num_or _ _ _ _ a.toNat_lt b.toNat_lt c.toNat_lt d.toNat_lt
theorem num_wF (rest : Str) : num4 rest = wF (rest.getD 0 0) (rest.getD 1 0) (rest.getD 2 0) (rest.getD 3 0) := by
  unfold num4
  rw [wF_eq]
theorem wF_lt (a b c d : UInt8) : wF a b c d < 4294967296 := Nat.or_lt_two_pow (n := 32) (wE_lt a b c) (by have := d.toNat_lt; omega)
/-- the same with names that nobody looks into -/
structure Nums (a b c d : UInt8) (A B C D E N : Nat) : Prop where
  n1 : IntKind.i64.wrap ((a.toNat : Int) * 2 ^ min 24 IntKind.i64.bits) = (A : Int)
  n2 : IntKind.i64.wrap ((b.toNat : Int) * 2 ^ min 16 IntKind.i64.bits) = (B : Int)
  n3 : IntKind.i64.wrap ((c.toNat : Int) * 2 ^ min 8 IntKind.i64.bits) = (C : Int)
  n4 : IntKind.i64.wrap (((A % 2 ^ IntKind.i64.bits ||| B % 2 ^ IntKind.i64.bits : Nat)) : Int) = (D : Int)
  n5 : IntKind.i64.wrap (((D % 2 ^ IntKind.i64.bits ||| C % 2 ^ IntKind.i64.bits : Nat)) : Int) = (E : Int)
  n6 : IntKind.i64.wrap (((E % 2 ^ IntKind.i64.bits ||| d.toNat % 2 ^ IntKind.i64.bits : Nat)) : Int) = (N : Int)
theorem nums_all (rest : Str) : ∃ A B C D E N, Nums (rest.getD 0 0) (rest.getD 1 0) (rest.getD 2 0) (rest.getD 3 0) A B C D E N ∧ num4 rest = N ∧ N < 4294967296 :=
  ⟨_, _, _, _, _, _, ⟨n1 _, n2 _, n3 _, n4 _ _, n5 _ _ _, n6 _ _ _ _⟩, num_wF rest, wF_lt _ _ _ _⟩
theorem t1 (n : Nat) : (4 + (n : Int)).toNat = 4 + n := by omega
theorem t2 (n : Nat) : (4 + (n : Int) + 32).toNat = 4 + n + 32 := by omega

/-- what is left where the iterator ends; has it been stopped by a full journal? -/
def recT (data : Str) (p : Option EntC) (k : Nat) : Str × Bool :=
  if k < 1024 then
    match h : stepJ data p with
    | none => (data, false)
    | some (x, n) => recT (data.drop n) (some x) (k + 1)
  else (data, (stepJ data p).isSome)
termination_by data.length
decreasing_by
  have := stepJ_pos h
  simp only [List.length_drop]
  omega
theorem recT_none {data : Str} {p : Option EntC} {k : Nat} (h : stepJ data p = none) : recT data p k = (data, false) := by
  rw [recT]
  split
  · split
    · rfl
    · rename_i h2; rw [h] at h2; cases h2
  · rw [h]; rfl
theorem recT_some {data : Str} {p : Option EntC} {k : Nat} {x : EntC} {n : Nat} (hk : k < 1024) (h : stepJ data p = some (x, n)) : recT data p k = recT (data.drop n) (some x) (k + 1) := by
  rw [recT, if_pos hk]
  split
  · rename_i h2; rw [h] at h2; cases h2
  · rename_i h2; rw [h] at h2; cases h2; rfl
theorem recT_full {data : Str} {p : Option EntC} {k : Nat} {q : EntC × Nat} (hk : ¬ k < 1024) (h : stepJ data p = some q) : recT data p k = (data, true) := by
  rw [recT, if_neg hk, h]; rfl
def stT (b : Bool) : LSt := if b = true then .done (.exit 0) else .ready

def stepQ (p : Option EntC) (d : Option EvC) (G : Str) (m : Nat) : Option (EntC × Nat) := match d with
  | none => none
  | some c => if entE p ⟨c, G⟩ = 0 then some (⟨c, G⟩, m) else none
theorem ansIterR (text : Str) (hl : text.length < 10000000) : ansF cfg 81 [.yld 4 site24_0 (envR text), .ptr 3 0] (boxR text [] 0 .ready []) =
    some (.tup [], boxR (recT text none 0).1 (recF text none 0).1 (recF text none 0).2 (stT (recT text none 0).2) []) := by
  refine ans_of_wp fn81 low81 ?_
  simp (config := { maxSteps := 1000000 }) (disch := omega) [-List.map_replicate, -List.map_set, -List.getD_eq_getElem?_getD, -getElem?_pos, -getElem?_neg, wrap_i64, le_strLim, le_sliceLim, le_buildLim, le_sliceLimI, Int.tmod_eq_emod_of_nonneg, Int.tdiv_eq_ediv_of_nonneg, omLe, omLeN, omLt, omLtN, omEq, omEqN, onLe, onLeN, onLt, onLtN, onEq, onEqN, ir81]
  refine Wp.loopM (fun (a : Str × List EntC × Nat × Option AV × Option AV) => a.1.length) (fun a => [some (.yld 4 site24_0 (envR text)), some (.ptr 3 0), some (lastA (lastE none a.2.1)), none, none, none, none, none, none, none, none, none, none, none, none, none, none, a.2.2.2.1, a.2.2.2.2, none, none])
    (fun a => boxR a.1 a.2.1 a.2.2.1 .ready [])
    (fun a => (a.1.length + a.2.2.1 ≤ text.length ∧ a.2.1.length ≤ 1024 ∧ (∀ x, lastE none a.2.1 = some x → (enN x).ok) ∧ ∀ k i r, underV k 5 i (a.2.2.2.1 :: a.2.2.2.2 :: r) = underV k 5 (i + 2) r) ∧
      recF text none 0 = (a.2.1 ++ (recF a.1 (lastE none a.2.1) a.2.1.length).1, a.2.2.1 + (recF a.1 (lastE none a.2.1) a.2.1.length).2) ∧ recT text none 0 = recT a.1 (lastE none a.2.1) a.2.1.length)
    ?_ (text, [], 0, none, none) ⟨⟨by simp, by simp, by simp [lastE], fun k i r => rfl⟩, by simp [lastE], rfl⟩ (by simp [lastA, pl, plN, plZ, lastE, ensA]) rfl
  rintro ⟨rest, L, n, o1, o2⟩ ⟨⟨hn, hL, hp, hu⟩, hF, hT⟩
  simp only at hn hL hp hu hF hT ⊢
  rw [hF, hT]
  by_cases h4 : rest.length < 4
  · have hst : stepJ rest (lastE none L) = none := by unfold stepJ; rw [if_pos h4]
    rw [recF_none hst, recT_none hst]
    unfold boxR
    simp (config := { maxSteps := 1000000 }) (disch := omega) [-List.map_replicate, -List.map_set, -List.getD_eq_getElem?_getD, -getElem?_pos, -getElem?_neg, wrap_i64, le_strLim, le_sliceLim, le_buildLim, le_sliceLimI, Int.tmod_eq_emod_of_nonneg, Int.tdiv_eq_ediv_of_nonneg, omLe, omLeN, omLt, omLtN, omEq, omEqN, onLe, onLeN, onLt, onLtN, onEq, onEqN, stT]
  have g0 := get_str (d := rest) (i := 0) (by omega)
  have g1 := get_str (d := rest) (i := 1) (by omega)
  have g2 := get_str (d := rest) (i := 2) (by omega)
  have g3 := get_str (d := rest) (i := 3) (by omega)
  obtain ⟨A, B, C, D, E, N, nn, hN, hN4⟩ := nums_all rest
  generalize rest.getD 0 0 = c0 at *
  generalize rest.getD 1 0 = c1 at *
  generalize rest.getD 2 0 = c2 at *
  generalize rest.getD 3 0 = c3 at *
  by_cases hbig : 65536 < N ∨ rest.length < 4 + N + 32
  · have hst : stepJ rest (lastE none L) = none := by unfold stepJ; rw [if_neg h4, hN, if_pos hbig]
    rw [recF_none hst, recT_none hst]
    unfold boxR
    by_cases hb1 : 65536 < N
    · simp (config := { maxSteps := 1000000 }) (disch := omega) [-List.map_replicate, -List.map_set, -List.getD_eq_getElem?_getD, -getElem?_pos, -getElem?_neg, wrap_i64, le_strLim, le_sliceLim, le_buildLim, le_sliceLimI, Int.tmod_eq_emod_of_nonneg, Int.tdiv_eq_ediv_of_nonneg, omLe, omLeN, omLt, omLtN, omEq, omEqN, onLe, onLeN, onLt, onLtN, onEq, onEqN, g0, g1, g2, g3, n0, nn.n1, nn.n2, nn.n3, nn.n4, nn.n5, nn.n6, hb1, stT]
    · have hb2 : rest.length < 4 + N + 32 := by omega
      simp (config := { maxSteps := 1000000 }) (disch := omega) [-List.map_replicate, -List.map_set, -List.getD_eq_getElem?_getD, -getElem?_pos, -getElem?_neg, wrap_i64, le_strLim, le_sliceLim, le_buildLim, le_sliceLimI, Int.tmod_eq_emod_of_nonneg, Int.tdiv_eq_ediv_of_nonneg, omLe, omLeN, omLt, omLtN, omEq, omEqN, onLe, onLeN, onLt, onLtN, onEq, onEqN, g0, g1, g2, g3, n0, nn.n1, nn.n2, nn.n3, nn.n4, nn.n5, nn.n6, hb1, hb2, stT]
  have hb1 : N ≤ 65536 := by omega
  have hb2 : 4 + N + 32 ≤ rest.length := by omega
  have hTl : ((rest.take (4 + N)).drop 4).length = N := by simp; omega
  have hD := ansDecP ((rest.take (4 + N)).drop 4) (by rw [hTl]; omega)
  have hstep : stepJ rest (lastE none L) = stepQ (lastE none L) (dec ((rest.take (4 + N)).drop 4)) ((rest.take (4 + N + 32)).drop (4 + N)) (4 + N + 32) := by
    unfold stepJ stepQ
    rw [if_neg h4, hN, if_neg hbig]
    cases dec ((rest.take (4 + N)).drop 4) <;> rfl
  have hGl : ((rest.take (4 + N + 32)).drop (4 + N)).length = 32 := by simp; omega
  have hRl : (rest.take rest.length).drop (4 + N + 32) = rest.drop (4 + N + 32) := by rw [List.take_length]
  unfold decA at hD
  generalize hTe : (rest.take (4 + N)).drop 4 = T at *
  generalize hGe : (rest.take (4 + N + 32)).drop (4 + N) = G at *
  generalize hp' : lastE none L = p at *
  cases hd : dec T with
  | none =>
    rw [hd] at hD hstep
    rw [recF_none hstep, recT_none hstep]
    simp only [zeroC] at hD
    unfold boxR
    simp (config := { maxSteps := 1000000 }) (disch := omega) [-List.map_replicate, -List.map_set, -List.getD_eq_getElem?_getD, -getElem?_pos, -getElem?_neg, wrap_i64, le_strLim, le_sliceLim, le_buildLim, le_sliceLimI, Int.tmod_eq_emod_of_nonneg, Int.tdiv_eq_ediv_of_nonneg, omLe, omLeN, omLt, omLtN, omEq, omEqN, onLe, onLeN, onLt, onLtN, onEq, onEqN, g0, g1, g2, g3, n0, nn.n1, nn.n2, nn.n3, nn.n4, nn.n5, nn.n6, hb1, hb2, t1, t2, hTe, hGe, hD, stT, splice]
  | some c =>
    rw [hd] at hD hstep
    obtain ⟨d1, d2⟩ := dec_iff.1 hd
    have hfin := enc_fine d1
    have hok : (evN c).ok := ⟨fun _ => rfl, fun _ => rfl, by simp only [evN]; omega, by simp only [evN]; omega⟩
    have hplz : pl p ≠ [] → plZ p = 6 := by cases p <;> simp [pl, plZ]
    have hplok : ∀ x ∈ pl p, x.ok := by
      cases p with
      | none => simp [pl]
      | some x => intro y hy; simp [pl] at hy; subst hy; exact hp x rfl
    have hpll : (pl p).length < 100000 := by cases p <;> simp [pl]
    have hF2 := ansFitsP (plN p) (plZ p) (pl p) hplz hplok hpll (evN c) hok
    have hS2 := ansSealP (plN p) (plZ p) (pl p) hplz hplok hpll T (by omega)
    rw [lastL_pl] at hF2 hS2
    unfold fitA evA evN Ev.cells at hF2
    simp only at hF2 hstep hD
    unfold evA evN Ev.cells at hD
    have hQ : stepQ p (some c) G (4 + N + 32) = if entE p ⟨c, G⟩ = 0 then some (⟨c, G⟩, 4 + N + 32) else none := rfl
    rw [hQ] at hstep
    by_cases f0 : fitE p c = 0
    case neg =>
      have he : ¬ entE p ⟨c, G⟩ = 0 := by rw [ent_f (x := ⟨c, G⟩) f0]; exact f0
      have f1 : (fitE p c == 0) = false := by rw [beq_eq_false_iff_ne]; exact f0
      rw [if_neg he] at hstep
      rw [recF_none hstep, recT_none hstep]
      simp only [f0, if_false] at hF2
      clear hstep he hQ hS2 hplok hpll hplz hok hfin d1 d2 hd hF hT hu hp
      rcases fit_range p c with f2 | f2 | f2 | f2
      · exact absurd f2 f0
      all_goals
        rw [f2] at hF2
        clear f0 f1 f2
        unfold boxR lastA
        simp (config := { maxSteps := 1000000 }) (disch := omega) [-List.map_replicate, -List.map_set, -List.getD_eq_getElem?_getD, -getElem?_pos, -getElem?_neg, wrap_i64, le_strLim, le_sliceLim, le_buildLim, le_sliceLimI, Int.tmod_eq_emod_of_nonneg, Int.tdiv_eq_ediv_of_nonneg, omLe, omLeN, omLt, omLtN, omEq, omEqN, onLe, onLeN, onLt, onLtN, onEq, onEqN, g0, g1, g2, g3, n0, nn.n1, nn.n2, nn.n3, nn.n4, nn.n5, nn.n6, hb1, hb2, t1, t2, hTe, hGe, hD, hF2, stT, splice]
    simp only [f0, if_true, d2] at hF2
    by_cases d0 : G = sealT p T
    case neg =>
      have he : ¬ entE p ⟨c, G⟩ = 0 := by rw [ent_14 (x := ⟨c, G⟩) f0 (by rw [d2]; exact d0)]; decide
      have d1' : (G == sealT p T) = false := by rw [beq_eq_false_iff_ne]; exact d0
      rw [if_neg he] at hstep
      rw [recF_none hstep, recT_none hstep]
      unfold boxR lastA
      simp (config := { maxSteps := 1000000 }) (disch := omega) [-List.map_replicate, -List.map_set, -List.getD_eq_getElem?_getD, -getElem?_pos, -getElem?_neg, wrap_i64, le_strLim, le_sliceLim, le_buildLim, le_sliceLimI, Int.tmod_eq_emod_of_nonneg, Int.tdiv_eq_ediv_of_nonneg, omLe, omLeN, omLt, omLtN, omEq, omEqN, onLe, onLeN, onLt, onLtN, onEq, onEqN, g0, g1, g2, g3, n0, nn.n1, nn.n2, nn.n3, nn.n4, nn.n5, nn.n6, hb1, hb2, t1, t2, hTe, hGe, hD, hF2, hS2, d0, d1', stT, splice]
    have he : entE p ⟨c, G⟩ = 0 := ent_0 (x := ⟨c, G⟩) f0 (by rw [d2]; exact d0)
    rw [if_pos he] at hstep
    rw [← d0] at hS2
    by_cases hfull : L.length = 1024
    · rw [recF_full (by omega), recT_full (by omega) hstep]
      have hy := yldFull text rest L n (4 + (N : Int) + 32) ⟨c, G⟩ hfull
      simp only [boxR, boxJ, enA, enN, evN, Ev.cells, List.cons_append, List.nil_append] at hy
      unfold boxR lastA
      simp (config := { maxSteps := 1000000 }) (disch := omega) [-List.map_replicate, -List.map_set, -List.getD_eq_getElem?_getD, -getElem?_pos, -getElem?_neg, wrap_i64, le_strLim, le_sliceLim, le_buildLim, le_sliceLimI, Int.tmod_eq_emod_of_nonneg, Int.tdiv_eq_ediv_of_nonneg, omLe, omLeN, omLt, omLtN, omEq, omEqN, onLe, onLeN, onLt, onLtN, onEq, onEqN, g0, g1, g2, g3, n0, nn.n1, nn.n2, nn.n3, nn.n4, nn.n5, nn.n6, hb1, hb2, t1, t2, hTe, hGe, hD, hF2, hS2, hy, stT, splice]
    · rw [recF_some (by omega) hstep, recT_some (by omega) hstep] at *
      have hy := yldR text rest L n (4 + (N : Int) + 32) ⟨c, G⟩ (by omega) (by omega) (by omega)
      simp only [boxR, boxJ, enA, enN, evN, Ev.cells, List.cons_append, List.nil_append] at hy
      unfold boxR lastA
      have hua : underAll 5 (envR text) = true := rfl
      simp (config := { maxSteps := 1000000 }) (disch := omega) [-List.map_replicate, -List.map_set, -List.getD_eq_getElem?_getD, -getElem?_pos, -getElem?_neg, wrap_i64, le_strLim, le_sliceLim, le_buildLim, le_sliceLimI, Int.tmod_eq_emod_of_nonneg, Int.tdiv_eq_ediv_of_nonneg, omLe, omLeN, omLt, omLtN, omEq, omEqN, onLe, onLeN, onLt, onLtN, onEq, onEqN, g0, g1, g2, g3, n0, nn.n1, nn.n2, nn.n3, nn.n4, nn.n5, nn.n6, hb1, hb2, t1, t2, hTe, hGe, hRl, hD, hF2, hS2, hy, hua, stT, splice]
      have hle : lastE none (L ++ [⟨c, G⟩]) = some ⟨c, G⟩ := by rw [lastE_app]; rfl
      refine ⟨rest.drop (4 + N + 32), L ++ [⟨c, G⟩], n + (4 + N + 32), some (.str G), some (.bool true), ⟨⟨?_, ?_, ?_, ?_⟩, ⟨?_, ?_⟩, ?_⟩, ?_, ⟨⟨?_, ?_, ?_⟩, rfl, rfl⟩, ?_, rfl, ?_, rfl⟩
      · simp only [List.length_drop]; omega
      · simp only [List.length_append, List.length_singleton]; omega
      · intro x hx
        rw [hle] at hx
        cases hx
        exact enN_ok (by show c.nums.length < 1000000; omega) (by show c.texts.length < 1000000; omega) (by show G.length < 100000; omega)
      · intro k i r; simp [underV, AV.under]
      · rw [hle]; simp
      · rw [hle]; simp; omega
      · rw [hle]; simp
      · simp only [List.length_drop]; omega
      · rw [hle]; rfl
      · rw [hle]; rfl
      · rw [hle]; rfl
      · simp
      · omega

theorem ansRecP (text : Str) (hl : text.length < 10000000) : ansF cfg 24 [.str text] [] = some (.tup [.lst none 6 (ensA (ensN (recF text none 0).1)), .int .i64 (recF text none 0).2], []) := by
  refine ans_of_wp fn24 low24 ?_
  simp (config := { maxSteps := 1000000 }) (disch := omega) [-List.map_replicate, -List.map_set, -List.getD_eq_getElem?_getD, -getElem?_pos, -getElem?_neg, wrap_i64, le_strLim, le_sliceLim, le_buildLim, le_sliceLimI, Int.tmod_eq_emod_of_nonneg, Int.tdiv_eq_ediv_of_nonneg, omLe, omLeN, omLt, omLtN, omEq, omEqN, onLe, onLeN, onLt, onLtN, onEq, onEqN, ir24, ansEntriesP, ansEntriesP0]
  have hit := ansIterR text hl
  unfold boxR envR at hit
  simp only [ensN, List.map_nil, ensA, List.length_nil] at hit
  cases hb : (recT text none 0).2 with
  | false =>
    rw [hb] at hit
    refine Wp.rng (f := 81) (caps := [.ptr 3 0]) (st := .ready) (e := .normal) rfl rfl hit rfl rfl ?_
    simp (config := { maxSteps := 1000000 }) (disch := omega) [-List.map_replicate, -List.map_set, -List.getD_eq_getElem?_getD, -getElem?_pos, -getElem?_neg, wrap_i64, le_strLim, le_sliceLim, le_buildLim, le_sliceLimI, Int.tmod_eq_emod_of_nonneg, Int.tdiv_eq_ediv_of_nonneg, omLe, omLeN, omLt, omLtN, omEq, omEqN, onLe, onLeN, onLt, onLtN, onEq, onEqN, splice, ensN]
    simp [ensA]
  | true =>
    rw [hb] at hit
    refine Wp.rng (f := 81) (caps := [.ptr 3 0]) (st := .done (.exit 0)) (e := .exit 0) rfl rfl hit rfl rfl ?_
    simp (config := { maxSteps := 1000000 }) (disch := omega) [-List.map_replicate, -List.map_set, -List.getD_eq_getElem?_getD, -getElem?_pos, -getElem?_neg, wrap_i64, le_strLim, le_sliceLim, le_buildLim, le_sliceLimI, Int.tmod_eq_emod_of_nonneg, Int.tdiv_eq_ediv_of_nonneg, omLe, omLeN, omLt, omLtN, omEq, omEqN, onLe, onLeN, onLt, onLtN, onEq, onEqN, splice, ensN]
    simp [ensA]
def readA (text : Str) : AV := if (recF text none 0).2 = text.length then .tup [.lst none 6 (ensA (ensN (recF text none 0).1)), .int .i64 0] else .tup [.lst (some true) 0 [], .int .i64 13]
theorem ansReadP (text : Str) (hl : text.length < 10000000) : ansF cfg 22 [.str text] [] = some (readA text, []) := by
  refine ans_of_wp fn22 low22 ?_
  have h := ansRecP text hl
  have hs := recF_spec text none 0
  unfold readA
  generalize recF text none 0 = q at *
  obtain ⟨L, n⟩ := q
  simp only at h hs ⊢
  by_cases k : n = text.length
  · have k' : ((n : Int) != (text.length : Int)) = false := by simp [k]
    simp (config := { maxSteps := 1000000 }) (disch := omega) [-List.map_replicate, -List.map_set, -List.getD_eq_getElem?_getD, -getElem?_pos, -getElem?_neg, wrap_i64, le_strLim, le_sliceLim, le_buildLim, le_sliceLimI, Int.tmod_eq_emod_of_nonneg, Int.tdiv_eq_ediv_of_nonneg, omLe, omLeN, omLt, omLtN, omEq, omEqN, onLe, onLeN, onLt, onLtN, onEq, onEqN, ir22, h, k', k, splice]
  · have k' : ((n : Int) != (text.length : Int)) = true := by simp; omega
    simp (config := { maxSteps := 1000000 }) (disch := omega) [-List.map_replicate, -List.map_set, -List.getD_eq_getElem?_getD, -getElem?_pos, -getElem?_neg, wrap_i64, le_strLim, le_sliceLim, le_buildLim, le_sliceLimI, Int.tmod_eq_emod_of_nonneg, Int.tdiv_eq_ediv_of_nonneg, omLe, omLeN, omLt, omLtN, omEq, omEqN, onLe, onLeN, onLt, onLtN, onEq, onEqN, ir22, h, k', k, splice]
end Go.Proofs.YtfhfnehoaiegcaaGreatDoor
