/-
  A right journal, and what the laws do with it, for the machine. The example that each law checks first. What comes in: events, entries.
-/
import Derived.Test.YtfhfnehoaiegcaaGreatDoorChkM
import Derived.Test.YtfhfnehoaiegcaaGreatDoorWrM
import Derived.Test.YtfhfnehoaiegcaaGreatDoorRecM
import Derived.Test.YtfhfnehoaiegcaaGreatDoorAmShape2
set_option linter.all false
namespace Go.Proofs.YtfhfnehoaiegcaaGreatDoor
open Go.Am
set_option maxRecDepth 10000
set_option maxHeartbeats 8000000

theorem right_mem : ∀ {L : List EntC} {p : Option EntC}, right p L → ∀ x ∈ L, encE x.c = 0 ∧ x.d.length = 32
  | y :: L, p, h, x, hx => by
    rcases List.mem_cons.1 hx with rfl | hx
    · obtain ⟨h1, _, h3⟩ := ent_fine h.1
      exact ⟨h1, by rw [h3]; exact sum_length _⟩
    · exact right_mem h.2 x hx
theorem right_okN {L : List EntC} {p : Option EntC} (h : right p L) : ∀ x ∈ ensN L, x.ok := by
  intro x hx
  obtain ⟨y, hy, rfl⟩ := List.mem_map.1 hx
  obtain ⟨h1, h2⟩ := right_mem h y hy
  have := enc_fine h1
  exact enN_ok (by omega) (by omega) (by omega)
theorem ensN_c (L : List EntC) : (ensN L).map En.c = L := by
  unfold ensN
  rw [List.map_map]
  exact List.map_id _
theorem cps_d {L : List EntC} {p : Option EntC} (h : right p L) : ∀ x ∈ cps L, x.d.length ≤ 100 := by
  intro x hx
  obtain ⟨y, hy, rfl⟩ := List.mem_map.1 hx
  obtain ⟨_, h2⟩ := right_mem h y hy
  show y.d.length ≤ 100
  omega
/-- a journal of a law, with all that the laws do with it -/
structure JL (L : List EntC) : Prop where
  r : right none L
  n : L.length ≤ 100
theorem JL.good {L : List EntC} (h : JL L) : ∀ x ∈ cps L, x.good := right_good h.r
theorem JL.copy {L : List EntC} (h : JL L) (nl : Option Bool) (z : Nat) (hz : L ≠ [] → z = 6) : ansF cfg 20 [.lst nl z (ensA (cps L))] [] = some (.osl 0 L.length, [.sl ⟨false, some 52⟩ 6 (ensA (cps L))]) := by
  have := ansCopyL nl z (cps L) (fun hc => hz (by intro e; rw [e] at hc; exact hc rfl)) (fun x hx => (h.good x hx).ok) (by have := h.n; simp; omega)
  rwa [cps_c, cps_length] at this
theorem JL.copyN {L : List EntC} (h : JL L) (nl : Option Bool) (z : Nat) (hz : L ≠ [] → z = 6) : ansF cfg 20 [.lst nl z (ensA (ensN L))] [] = some (.osl 0 L.length, [.sl ⟨false, some 52⟩ 6 (ensA (cps L))]) := by
  have := ansCopyL nl z (ensN L) (fun hc => hz (by intro e; rw [e] at hc; exact hc rfl)) (right_okN h.r) (by have := h.n; simp [ensN]; omega)
  have hl : (ensN L).length = L.length := by simp [ensN]
  rwa [ensN_c, hl] at this
theorem JL.check {L : List EntC} (h : JL L) : ansF cfg 29 [.lst none 6 (ensA (cps L))] [] = some (.tup [.int .i64 (-1), .int .i64 0], []) := by
  rw [ansChkP none 6 (cps L) (fun _ => rfl) (fun x hx => (h.good x hx).ok) (by have := h.n; simp; omega), cps_c]
  unfold chkA
  rw [if_neg (by have := h.n; omega), chk_ok h.r]
theorem JL.write {L : List EntC} (h : JL L) : ansF cfg 19 [.lst none 6 (ensA (cps L))] [] = some (.tup [.str (wr L), .int .i64 0], []) := by
  rw [ansWrP none 6 (cps L) (fun _ => rfl) (fun x hx => (h.good x hx).ok) (cps_d h.r) (by have := h.n; simp; omega), cps_c]
  unfold wrA
  rw [if_neg (by have := h.n; rw [chk_ok h.r]; simp; omega)]
theorem JL.same {L : List EntC} (h : JL L) {nl nl' : Option Bool} {z z' : Nat} (hz : L ≠ [] → z = 6) (hz' : L ≠ [] → z' = 6) : ansF cfg 26 [.lst nl z (ensA (ensN L)), .lst nl' z' (ensA (cps L))] [] = some (.bool true, []) := by
  rw [ansSame nl nl' z z' (ensN L) (cps L) (fun hc => hz (by intro e; rw [e] at hc; exact hc rfl)) (fun hc => hz' (by intro e; rw [e] at hc; exact hc rfl)) (right_okN h.r) (fun x hx => (h.good x hx).ok) (by have := h.n; simp [ensN]; omega) (by have := h.n; simp; omega), ensN_c, cps_c]
  simp
theorem jl_len {L : List EntC} (h : JL L) : (wr L).length ≤ L.length * 65572 := by
  obtain ⟨r, n⟩ := h
  clear n
  have : ∀ p, right p L → (wr L).length ≤ L.length * 65572 := by
    clear r
    induction L with
    | nil => intro p _; simp [wr]
    | cons x L ih =>
      intro p hr
      have h1 := ih (some x) hr.2
      obtain ⟨e1, e2⟩ := right_mem hr x List.mem_cons_self
      have e3 := (enc_fine e1).2.2.2.2
      rw [wr_cons, List.length_append, List.length_cons]
      have : (wr1 x).length = 4 + (encT x.c).length + 32 := by
        unfold wr1
        have hb : ∀ n, (be4 n).length = 4 := fun _ => rfl
        simp only [List.length_append, hb, e2]
        omega
      omega
  exact this none r
theorem JL.read {L : List EntC} (h : JL L) : ansF cfg 22 [.str (wr L)] [] = some (.tup [.lst none 6 (ensA (ensN L)), .int .i64 0], []) := by
  have hl := jl_len h
  have hn := h.n
  rw [ansReadP _ (by omega)]
  unfold readA
  rw [recF_wr sum_length h.r (by omega)]
  simp
theorem JL.take {L : List EntC} (h : JL L) (k : Nat) : JL (L.take k) where
  r := by
    have := h.r
    rw [← List.take_append_drop k L, right_app] at this
    exact this.1
  n := by have := h.n; simp; omega
/-- a journal of few events -/
theorem jl_build (es : List EvC) (h : es.length ≤ 20) : JL (bldF [] es) := by
  have h1 := bldF_len es []
  simp only [List.length_nil] at h1
  exact ⟨bldF_right es (L := []) trivial, by omega⟩
end Go.Proofs.YtfhfnehoaiegcaaGreatDoor

namespace Go.Proofs.YtfhfnehoaiegcaaGreatDoor
open Go.Am
set_option maxRecDepth 10000
set_option maxHeartbeats 8000000

def cA : EvC := ⟨3, 100, 5, [7, -1], [[97], [98, 10]]⟩
def sA : Str := [51, 32, 49, 48, 48, 32, 53, 32, 55, 32, 45, 49, 10, 97, 10, 98, 92, 110, 10]
theorem itoa_pos (n : Nat) : Lib.itoa (n : Int) = Lib.decDigits n := by
  unfold Lib.itoa
  rw [if_neg (by omega), Int.toNat_natCast]
theorem digits1 {n : Nat} (h : n < 10) : Lib.decDigits n = [UInt8.ofNat (48 + n)] := by rw [Lib.decDigits, dif_pos h]
theorem digitsS {n : Nat} (h : ¬ n < 10) : Lib.decDigits n = Lib.decDigits (n / 10) ++ [UInt8.ofNat (48 + n % 10)] := by rw [Lib.decDigits, dif_neg h]
theorem enc_awake : encT cA = sA := by
  have h3 : Lib.itoa 3 = [51] := by rw [show (3 : Int) = ((3 : Nat) : Int) from rfl, itoa_pos, digits1 (by decide)]; rfl
  have h5 : Lib.itoa 5 = [53] := by rw [show (5 : Int) = ((5 : Nat) : Int) from rfl, itoa_pos, digits1 (by decide)]; rfl
  have h7 : Lib.itoa 7 = [55] := by rw [show (7 : Int) = ((7 : Nat) : Int) from rfl, itoa_pos, digits1 (by decide)]; rfl
  have h1 : Lib.itoa 100 = [49, 48, 48] := by rw [show (100 : Int) = ((100 : Nat) : Int) from rfl, itoa_pos, digitsS (by decide), digitsS (by decide), digits1 (by decide)]; rfl
  have hm : Lib.itoa (-1) = [45, 49] := by unfold Lib.itoa; rw [if_pos (by decide), show Int.natAbs (-1) = 1 from rfl, digits1 (by decide)]; rfl
  unfold encT lineS EvC.ns cA
  simp only [List.map_cons, List.map_nil, h3, h1, h5, h7, hm]
  decide
theorem encE_awake : encE cA = 0 := by
  unfold encE
  rw [enc_awake]
  decide
def xA : EntC := ⟨cA, sealT none sA⟩
theorem ent_awake : entE none xA = 0 := ent_of encE_awake rfl (by show _ = sealT none (encT cA); rw [enc_awake]; rfl)
theorem right_awake : right none [xA] := ⟨ent_awake, trivial⟩
theorem fit_awake : fitE none cA = 0 := by unfold fitE; rw [encE_awake]; rfl
theorem appE_awake : appE [] cA = 0 := by
  unfold appE
  rw [if_neg (by simp [chk])]
  have : lastE none ([] : List EntC) = none := rfl
  rw [this, fit_awake]
  rfl
theorem appN_awake : appN [] cA = [xA] := by
  unfold appN
  rw [enc_awake]
  rfl
theorem wr_awake : (wr [xA]).length = 55 := by
  have h : wr [xA] = be4 (encT cA).length ++ (encT cA ++ sealT none sA) := by simp [wr, wr1, xA]
  rw [h, enc_awake]
  simp only [List.length_append]
  have : (sealT none sA).length = 32 := sum_length _
  rw [this]
  rfl

theorem ansAwake : ansF cfg 10 [] [] = some (.bool true, []) := by
  refine ans_of_wp fn10 low10 ?_
  have e1 : ∀ nl nl2, ansF cfg 12 [evA ⟨cA, nl, 1, nl2, 1⟩] [] = some (.tup [.str sA, .int .i64 0], []) := fun nl nl2 => by
    rw [ansEncP ⟨cA, nl, 1, nl2, 1⟩ ⟨fun _ => rfl, fun _ => rfl, by show 2 < 1000000; decide, by show 2 < 1000000; decide⟩]
    simp only [encA, encE_awake, enc_awake, if_true]
  have e2 : ∀ nl0 nl nl2, (nl == some true) = false → (nl2 == some true) = false → ansF cfg 31 [.lst nl0 0 [], evA ⟨cA, nl, 1, nl2, 1⟩] [] = some (.tup [.lst none 6 (ensA (cps [xA])), .int .i64 0], []) := fun nl0 nl nl2 h1 h2 => by
    refine (ansAppP nl0 0 [] (fun h => absurd rfl h) (fun x h => by cases h) (by decide) ⟨cA, nl, 1, nl2, 1⟩ ⟨fun _ => rfl, fun _ => rfl, by show 2 < 1000000; decide, by show 2 < 1000000; decide⟩ ⟨h1, h2⟩ ⟨fun h => (by cases h), fun h => (by cases h)⟩).trans ?_
    simp only [appA, List.map_nil, appE_awake, appN_awake, if_true]
  have hJ : JL [xA] := ⟨right_awake, by decide⟩
  have e3 := hJ.write
  have e4 := hJ.read
  have e5 : ansF cfg 24 [.str (wr [xA] ++ [120, 120])] [] = some (.tup [.lst none 6 (ensA (ensN [xA])), .int .i64 55], []) := by
    rw [ansRecP _ (by simp [wr_awake]), recF_behind sum_length [xA] none 0 [120, 120] right_awake (by decide) (by decide), wr_awake]
    rfl
  have e6 : ansF cfg 30 [.str (zeros ++ sA)] [] = some (.str (sealT none sA), []) := by
    rw [ansSumP _ (by decide)]
    rfl
  have e7 : ansF cfg 26 [.lst none 6 (ensA (ensN [xA])), .lst none 6 (ensA (cps [xA]))] [] = some (.bool true, []) := hJ.same (fun _ => rfl) (fun _ => rfl)
  have e2 := e2 (some true) none none rfl rfl
  have hwl := wr_awake
  generalize hW : wr [xA] = W at *
  have hc : cps [xA] = [enCp xA] := rfl
  rw [hc] at e2 e3 e7
  have hd : ensA [enCp xA] = [.agg [.int .i64 3, .int .i64 100, .int .i64 5, .lst none 1 [.int .i64 7, .int .i64 (-1)], .lst none 1 [.str [97], .str [98, 10]], .str (sealT none sA)]] := rfl
  rw [hd] at e2 e3 e7
  unfold evA Ev.cells cA intsA strsA at e1 e2
  simp only [List.map_cons, List.map_nil] at e1 e2
  have hsl : (sealT none sA).length = 32 := sum_length _
  have hsA : (sA == [51, 32, 49, 48, 48, 32, 53, 32, 55, 32, 45, 49, 10, 97, 10, 98, 92, 110, 10]) = true := rfl
  have hsl2 : sA.length = 19 := rfl
  simp only [zeros, List.replicate, List.cons_append, List.nil_append] at e6
  generalize sA = s at *
  generalize sealT none s = S at *
  generalize ensA (ensN [xA]) = Q at *
  simp (config := { maxSteps := 1000000 }) (disch := omega) [-List.map_replicate, -List.map_set, -List.getD_eq_getElem?_getD, -getElem?_pos, -getElem?_neg, wrap_i64, le_strLim, le_sliceLim, le_buildLim, le_sliceLimI, Int.tmod_eq_emod_of_nonneg, Int.tdiv_eq_ediv_of_nonneg, omLe, omLeN, omLt, omLtN, omEq, omEqN, onLe, onLeN, onLt, onLtN, onEq, onEqN, ir10, e1, e2, e3, e4, e5, e6, e7, hwl, hsA, hsl, hsl2, zeros_bytes, Cfg.descOf, splice]
end Go.Proofs.YtfhfnehoaiegcaaGreatDoor

namespace Go.Proofs.YtfhfnehoaiegcaaGreatDoor
open Go.Am Go.ChangeShapes Go.WideShapes Go.RowKit
set_option maxRecDepth 10000
set_option maxHeartbeats 4000000

/-- an event that came in: its slices are nil or not -/
structure Ev.inn (e : Ev) : Prop where
  w : e.wide
  n1 : ∃ b, e.nl = some b ∧ (b = true → e.z = 0 ∧ e.c.nums = [])
  n2 : ∃ b, e.nl2 = some b ∧ (b = true → e.z2 = 0 ∧ e.c.texts = [])
theorem shp_ev {m : Nat} {cs : List AV} (h : Shp Tryz.prog m 25 cs) : ∃ e : Ev, e.inn ∧ elemOfCells (aggU (Tryz.prog.underlying 25)) cs = evA e ∧ cs = e.cells := by
  have hfs : Tryz.prog.underlying 25 = some (.struct (fieldsAt Tryz.prog 25)) := by kernel_rfl
  have hft : (fieldsAt Tryz.prog 25).toList.map (·.type) = [3, 3, 3, 22, 23] := by kernel_rfl
  obtain ⟨m, hs⟩ := h.struct hfs
  rw [hft] at hs
  obtain ⟨a, r, rfl, ha, b, r2, rfl, hb, c, r3, rfl, hc, d, r4, rfl, hd, e, r5, rfl, he, rfl⟩ := hs
  obtain ⟨x, rfl, hx⟩ := ha.int (k := .i64) (by kernel_rfl)
  obtain ⟨y, rfl, hy⟩ := hb.int (k := .i64) (by kernel_rfl)
  obtain ⟨k, rfl, hk⟩ := hc.int (k := .i64) (by kernel_rfl)
  obtain ⟨n1, z1, l1, rfl, p1, q1, s1, _⟩ := hd.sliceMap (e := 3) (AV.int .i64) (fun _ => True) (by kernel_rfl) 1 (by kernel_rfl) (by decide) (fun m cs h => by
    obtain ⟨x, rfl, hx⟩ := h.int (k := .i64) (by kernel_rfl)
    exact ⟨x, trivial, by rw [show Tryz.prog.underlying 3 = some (.int .i64) by kernel_rfl]; rfl⟩)
  obtain ⟨n2, z2, l2, rfl, p2, q2, s2, _⟩ := he.sliceMap (e := 9) AV.str (fun _ => True) (by kernel_rfl) 1 (by kernel_rfl) (by decide) (fun m cs h => by
    obtain ⟨x, rfl, hx⟩ := h.str (by kernel_rfl)
    exact ⟨x, trivial, by rw [show Tryz.prog.underlying 9 = some .string by kernel_rfl]; rfl⟩)
  refine ⟨⟨⟨x, y, k, l1, l2⟩, some n1, z1, some n2, z2⟩, ⟨⟨fun hl => p1 0 (List.length_pos_iff.2 hl), fun hl => p2 0 (List.length_pos_iff.2 hl), s1, s2⟩, ⟨n1, rfl, q1⟩, ⟨n2, rfl, q2⟩⟩, ?_, rfl⟩
  rw [hfs]; rfl
theorem args_evs {ts : List TypeId} {xs : List AV} (h : ShpArgs Tryz.prog (46 :: ts) xs) : ∃ (nl : Bool) (z : Nat) (l : List Ev) (r : List AV), xs = .lst (some nl) z (evsA l) :: r ∧ (l ≠ [] → z = 5) ∧ (nl = true → z = 0 ∧ l = []) ∧ l.length ≤ maxLen ∧ (∀ n ∈ l, n.inn) ∧ ShpArgs Tryz.prog ts r := by
  obtain ⟨n, cs, r, rfl, h1, h2⟩ := h
  obtain ⟨nl, z, l, rfl, k1, k2, k3, k4⟩ := h1.sliceMap (e := 25) evA Ev.inn (by kernel_rfl) 5 (by kernel_rfl) (by decide) (fun _ _ h => by
    obtain ⟨e, h1, h2, _⟩ := shp_ev h
    exact ⟨e, h1, h2⟩)
  refine ⟨nl, z, l, r, rfl, fun hl => k1 0 (List.length_pos_iff.2 hl), k2, k3, k4, h2⟩
theorem args_u16 {ts : List TypeId} {xs : List AV} (h : ShpArgs Tryz.prog (53 :: ts) xs) : ∃ (i : Nat) (r : List AV), xs = .int .u16 i :: r ∧ i < 65536 ∧ ShpArgs Tryz.prog ts r := by
  obtain ⟨n, cs, r, rfl, h1, h2⟩ := h
  obtain ⟨x, rfl, hx⟩ := h1.int (k := .u16) (by kernel_rfl)
  simp [Lit.wf, IntKind.min, IntKind.max, IntKind.signed, IntKind.bits] at hx
  obtain ⟨i, rfl⟩ := Int.eq_ofNat_of_zero_le hx.1
  exact ⟨i, r, rfl, by omega, h2⟩
theorem args_u8 {ts : List TypeId} {xs : List AV} (h : ShpArgs Tryz.prog (5 :: ts) xs) : ∃ (i : Nat) (r : List AV), xs = .int .u8 i :: r ∧ i < 256 ∧ ShpArgs Tryz.prog ts r := by
  obtain ⟨n, cs, r, rfl, h1, h2⟩ := h
  obtain ⟨x, rfl, hx⟩ := h1.int (k := .u8) (by kernel_rfl)
  simp [Lit.wf, IntKind.min, IntKind.max, IntKind.signed, IntKind.bits] at hx
  obtain ⟨i, rfl⟩ := Int.eq_ofNat_of_zero_le hx.1
  exact ⟨i, r, rfl, by omega, h2⟩
theorem args_nil {xs : List AV} (h : ShpArgs Tryz.prog [] xs) : xs = [] := h
theorem args_ev {ts : List TypeId} {xs : List AV} (h : ShpArgs Tryz.prog (25 :: ts) xs) : ∃ (e : Ev) (r : List AV), xs = evA e :: r ∧ e.inn ∧ ShpArgs Tryz.prog ts r := by
  obtain ⟨n, cs, r, rfl, h1, h2⟩ := h
  obtain ⟨e, k1, k2, _⟩ := shp_ev h1
  exact ⟨e, r, by rw [k2], k1, h2⟩
theorem args_str {ts : List TypeId} {xs : List AV} (h : ShpArgs Tryz.prog (9 :: ts) xs) : ∃ (s : Str) (r : List AV), xs = .str s :: r ∧ s.length ≤ maxLen ∧ ShpArgs Tryz.prog ts r := by
  obtain ⟨n, cs, r, rfl, h1, h2⟩ := h
  obtain ⟨s, rfl, hs⟩ := h1.str (by kernel_rfl)
  exact ⟨s, r, by rw [show Tryz.prog.underlying 9 = some .string by kernel_rfl]; rfl, hs, h2⟩
end Go.Proofs.YtfhfnehoaiegcaaGreatDoor
