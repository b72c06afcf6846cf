/-
  A block, Write and Sum of the program.
-/
import Derived.Test.YtfplnlmddcchjaaPerm
namespace Go.Proofs.Ytfplnlmddcchjaa
open Go.Am
set_option maxRecDepth 10000
set_option maxHeartbeats 4000000

abbrev Str := List UInt8
def wb (c : UInt8) : BitVec 64 := BitVec.ofNat 64 c.toNat

theorem toInt_byte (c : UInt8) : toInt1 .u64 (.int .u8 (c.toNat : Int)) = some (w64 (wb c)) := by
  have h := UInt8.toNat_lt c
  simp only [toInt1_int, w64, wb, BitVec.toNat_ofNat]
  rw [wrap_u64 (by omega) (by omega), Nat.mod_eq_of_lt (by omega)]

theorem shl8 (c : Cfg) (ty : TypeId) (x : BitVec 64) (i : Nat) : binA c ty .shl (w64 x) (.int .i64 (8 * ((i : Int) % 8))) = some (w64 (x <<< (8 * (i % 8)))) := by
  have h : 8 * ((i : Int) % 8) = ((8 * (i % 8) : Nat) : Int) := by omega
  rw [h]; exact w64_shl c ty x (by omega)
theorem shr8 (c : Cfg) (ty : TypeId) (x : BitVec 64) (i : Nat) : binA c ty .shr (w64 x) (.int .i64 (8 * ((i : Int) % 8))) = some (w64 (x >>> (8 * (i % 8)))) := by
  have h : 8 * ((i : Int) % 8) = ((8 * (i % 8) : Nat) : Int) := by omega
  rw [h]; exact w64_shr c ty x (by omega)

/-- a block taken into a state: its first n bytes -/
def absN (s : W) (d : Str) : Nat → W
  | 0 => s
  | n + 1 => (absN s d n).set (n / 8) ((absN s d n).getD (n / 8) 0#64 ^^^ (wb (d.getD n 0) <<< (8 * (n % 8))))
theorem absN_length (s : W) (d : Str) : ∀ n, (absN s d n).length = s.length
  | 0 => rfl
  | n + 1 => by simp [absN, absN_length s d n]

def blockP (s : W) (d : Str) : W := permP (absN s d d.length) 24

theorem ansBlock (s : W) (hs : s.length = 25) (d : Str) (hd : d.length ≤ 136) : ansF cfg 34 [.agg (s.map w64), .str d] [] = some (.agg ((blockP s d).map w64), []) := by
  refine ans_of_wp fn34 low34 ?_
  simp (disch := omega) [-List.map_replicate, -List.map_set, -List.getD_eq_getElem?_getD, -getElem?_pos, -getElem?_neg, ir34]
  rw [zeros25]
  refine Wp.loopM (fun i => d.length - i) (fun (i : Nat) => [none, some (.str d), some (.ptr 0 0), some (.ptr 1 0), none, some (.int .i64 d.length), some (.int .i64 i), none, none])
    (fun i => [.var 23 ((absN s d i).map w64), .var 23 (z25.map w64)]) (fun i => i ≤ d.length) ?_ 0 (by omega) (by simp) (by simp only [absN])
  intro i hi
  by_cases h : i < d.length
  · have hI : (i : Int) < (d.length : Int) := by omega
    have hl : (absN s d i).length = 25 := by rw [absN_length]; exact hs
    have h8 : (i : Int) / 8 < 25 := by omega
    have h9 : i / 8 ≤ 24 := by omega
    simp (disch := omega) [-List.map_replicate, -List.map_set, -List.getD_eq_getElem?_getD, -getElem?_pos, -getElem?_neg, wrap_i64, Int.tmod_eq_emod_of_nonneg, Int.tdiv_eq_ediv_of_nonneg, hI, hl, h8, h9, get_str h, -toInt1_int, toInt_byte, shl8, get_w64 (a := absN s d i) (i := i / 8) (by omega), splice_w64 (a := absN s d i) (i := i / 8) (by omega)]
    exact ⟨i + 1, by omega, by omega, by omega, by rw [absN]⟩
  obtain rfl : i = d.length := by omega
  have hl : (absN s d d.length).length = 25 := by rw [absN_length]; exact hs
  have hp := permP_length _ hl 24
  simp (disch := omega) [-List.map_replicate, -List.map_set, -List.getD_eq_getElem?_getD, -getElem?_pos, -getElem?_neg, wrap_i64, Int.tmod_eq_emod_of_nonneg, Int.tdiv_eq_ediv_of_nonneg, hl, hp, take_w64 hl, take_w64 hp, ansPermP _ hl, z25_length, splice_all (cs := z25.map w64) (v := (permP (absN s d d.length) 24).map w64) (by simp [hp]; rfl)]
  rfl

theorem blockP_length (s : W) (hs : s.length = 25) (d : Str) : (blockP s d).length = 25 := permP_length _ (by rw [absN_length]; exact hs) 24

/-! ### Write -/

/-- a hash -/
structure Hash where
  st : W
  rest : Str
  taken : Int
def Hash.av (h : Hash) : List AV := h.st.map w64 ++ [.str h.rest, .int .i64 h.taken]

/-- blocks taken in while there are any -/
def drain (s : W) (r : Str) : W × Str :=
  if _h : 136 ≤ r.length then drain (blockP s (r.take 136)) (r.drop 136) else (s, r)
termination_by r.length
decreasing_by simp; omega

def Hash.write1 (h : Hash) (p : Str) : Hash :=
  let x := drain h.st (h.rest ++ p)
  ⟨x.1, x.2, h.taken + p.length⟩

section
variable (h : Hash) (hs : h.st.length = 25)
include hs
theorem av_length : h.av.length = 27 := by simp [Hash.av, hs]
theorem av_rest : h.av[25]? = some (.str h.rest) := by simp [Hash.av, hs]
theorem av_taken : h.av[26]? = some (.int .i64 h.taken) := by simp [Hash.av, hs]
theorem av_st : h.av.take 25 = h.st.map w64 := by simp [Hash.av, hs]
theorem av_set_rest (x : Str) : splice h.av 25 [.str x] = (⟨h.st, x, h.taken⟩ : Hash).av := by
  rw [splice_one (by rw [av_length h hs]; omega)]
  simp [Hash.av, hs]
theorem av_set_taken (x : Int) : splice h.av 26 [.int .i64 x] = (⟨h.st, h.rest, x⟩ : Hash).av := by
  rw [splice_one (by rw [av_length h hs]; omega)]
  simp [Hash.av, hs]
theorem av_set_st (x : W) (hx : x.length = 25) : splice h.av 0 (x.map w64) = (⟨x, h.rest, h.taken⟩ : Hash).av := by
  simp [splice, Hash.av, hx, hs]
end

theorem at_set (bs : List Box) (k : Nat) (x : Box) (hk : k < bs.length) : Box.at (bs.set k x) k = x := by
  simp [Box.at, List.getD_eq_getElem?_getD, hk]

theorem at_set_ne (bs : List Box) (k j : Nat) (x : Box) (h : j ≠ k) : Box.at (bs.set k x) j = Box.at bs j := by
  simp only [Box.at, List.getD_eq_getElem?_getD]
  rw [List.getElem?_set_ne (Ne.symm h)]

theorem drain_st (s : W) (hs : s.length = 25) (r : Str) : (drain s r).1.length = 25 := by
  rw [drain]
  split
  · exact drain_st _ (blockP_length s hs _) _
  · exact hs
termination_by r.length
decreasing_by simp; omega

theorem drain_step {s : W} {r : Str} (h : 136 ≤ r.length) : drain s r = drain (blockP s (r.take 136)) (r.drop 136) := by
  rw [drain, dif_pos h]
theorem drain_end {s : W} {r : Str} (h : ¬ 136 ≤ r.length) : drain s r = (s, r) := by
  rw [drain, dif_neg h]
theorem drain_rest (s : W) (r : Str) : (drain s r).2.length < 136 := by
  rw [drain]
  split
  · exact drain_rest _ _
  · rename_i h; simp only; omega
termination_by r.length
decreasing_by simp; omega

def Hash.writeN (h : Hash) (ps : List Str) : Nat → Hash
  | 0 => h
  | n + 1 => (h.writeN ps n).write1 (ps.getD n [])
theorem writeN_st (h : Hash) (hs : h.st.length = 25) (ps : List Str) : ∀ n, (h.writeN ps n).st.length = 25
  | 0 => hs
  | n + 1 => drain_st _ (writeN_st h hs ps n) _
theorem writeN_rest (h : Hash) (hr : h.rest.length < 136) (ps : List Str) : ∀ n, (h.writeN ps n).rest.length < 136
  | 0 => hr
  | _ + 1 => drain_rest _ _
/-- how many bytes the first strings have -/
def bytesN' (ps : List Str) : Nat → Nat
  | 0 => 0
  | n + 1 => bytesN' ps n + (ps.getD n []).length
theorem writeN_taken (h : Hash) (ps : List Str) : ∀ n, (h.writeN ps n).taken = h.taken + (bytesN' ps n : Nat)
  | 0 => by simp [Hash.writeN, bytesN']
  | n + 1 => by
    simp only [Hash.writeN, Hash.write1, bytesN', writeN_taken h ps n]
    push_cast
    omega

theorem ansWrite (bs : List Box) (k : Nat) (h : Hash) (hk : Box.at bs k = .var 59 h.av) (hs : h.st.length = 25) (hr : h.rest.length < 136) (ht : 0 ≤ h.taken) (nl : Option Bool) (ps : List Str) (hb : ∀ n, h.taken + (bytesN' ps n : Nat) < 1000000000) (hps : ps.length < 1000000000) :
    ansF cfg 21 [.ptr k 0, .lst nl 1 (ps.map .str)] bs = some (.int .i64 (h.writeN ps ps.length).taken, bs.set k (.var 59 (h.writeN ps ps.length).av)) := by
  have hkl : k < bs.length := at_lt (by rw [hk]; simp)
  refine ans_of_wp fn21 low21 ?_
  simp (disch := omega) [-List.map_replicate, -List.map_set, -List.getD_eq_getElem?_getD, -getElem?_pos, -getElem?_neg, ir21]
  refine Wp.loopM (fun i => ps.length - i) (fun (i : Nat) => [some (.ptr k 0), none, none, none, some (.lst nl 1 (ps.map .str)), some (.int .i64 ps.length), some (.int .i64 i), none, none, none])
    (fun i => bs.set k (.var 59 (h.writeN ps i).av)) (fun i => i ≤ ps.length) ?_ 0 (by omega) (by simp) (by
      simp only [Hash.writeN, ← hk]
      apply List.ext_getElem?
      intro j
      by_cases hj : k = j
      · subst hj; simp [hkl, Box.at, List.getD_eq_getElem?_getD]
      · rw [List.getElem?_set_ne hj])
  intro i hi
  by_cases h1 : i < ps.length
  · have hI : (i : Int) < (ps.length : Int) := by omega
    have hp : ps[i]? = some (ps.getD i []) := by simp [List.getD_eq_getElem?_getD, List.getElem?_eq_getElem h1]
    generalize hg : h.writeN ps i = g
    have gs : g.st.length = 25 := by rw [← hg]; exact writeN_st h hs ps i
    have gr : g.rest.length < 136 := by rw [← hg]; exact writeN_rest h hr ps i
    have gt : g.taken = h.taken + (bytesN' ps i : Nat) := by rw [← hg]; exact writeN_taken h ps i
    generalize hq : ps.getD i [] = p at hp
    have hb1 := hb i
    have hb2 := hb (i + 1)
    simp only [bytesN', hq] at hb2
    have hsl : g.rest.length + p.length ≤ strLim := by unfold strLim; omega
    simp (disch := omega) [-List.map_replicate, -List.map_set, -List.getD_eq_getElem?_getD, -getElem?_pos, -getElem?_neg, wrap_i64, hI, hp, at_set, hsl, av_length, av_taken, av_rest, av_set_taken, av_set_rest]
    refine Wp.loopM (fun (a : Hash) => a.rest.length) (fun _ => [some (.ptr k 0), none, none, none, some (.lst nl 1 (ps.map .str)), some (.int .i64 ps.length), some (.int .i64 i), none, none, none])
      (fun a => bs.set k (.var 59 a.av)) (fun a => a.st.length = 25 ∧ drain a.st a.rest = drain g.st (g.rest ++ p) ∧ a.taken = g.taken + p.length) ?_ ⟨g.st, g.rest ++ p, g.taken + p.length⟩ ⟨gs, rfl, rfl⟩ (by simp) (by rfl)
    rintro a ⟨al, ad, at2⟩
    by_cases h2 : 136 ≤ a.rest.length
    · have h2I : (136 : Int) ≤ (a.rest.length : Int) := by omega
      have hl2 := blockP_length a.st al (a.rest.take 136)
      simp (disch := omega) [-List.map_replicate, -List.map_set, -List.getD_eq_getElem?_getD, -getElem?_pos, -getElem?_neg, wrap_i64, h2I, at_set, av_length, av_rest, av_st, ansBlock a.st al (a.rest.take 136) (by simp; omega), hl2, av_set_st, av_set_rest]
      have hd2 : drain (blockP a.st (a.rest.take 136)) (a.rest.drop 136) = drain g.st (g.rest ++ p) := (drain_step (s := a.st) h2).symm.trans ad
      have hd3 : (a.rest.drop 136).length < a.rest.length := by simp; omega
      generalize blockP a.st (a.rest.take 136) = N at hl2 hd2 ⊢
      generalize a.rest.drop 136 = R at hd2 hd3 ⊢
      exact ⟨⟨N, R, a.taken⟩, ⟨hl2, hd2, at2⟩, hd3, rfl⟩
    · have h2I : ¬ (136 : Int) ≤ (a.rest.length : Int) := by omega
      simp (disch := omega) [-List.map_replicate, -List.map_set, -List.getD_eq_getElem?_getD, -getElem?_pos, -getElem?_neg, wrap_i64, h2I, at_set, av_rest]
      refine ⟨i + 1, by omega, by omega, by omega, ?_⟩
      rw [drain_end h2] at ad
      simp only [Hash.writeN, Hash.write1, hg, hq, ← ad, ← at2]
  obtain rfl : i = ps.length := by omega
  have gs := writeN_st h hs ps ps.length
  simp (disch := omega) [-List.map_replicate, -List.map_set, -List.getD_eq_getElem?_getD, -getElem?_pos, -getElem?_neg, at_set, av_taken]

theorem ansWriteO (bs : List Box) (k : Nat) (h : Hash) (hk : Box.at bs k = .var 59 h.av) (hs : h.st.length = 25) (hr : h.rest.length < 136) (ht : 0 ≤ h.taken) (j : Nat) (hjk : j ≠ k) (sh : Hd) (ps : List Str) (hj : Box.at bs j = .sl sh 1 (ps.map .str)) (hb : ∀ n, h.taken + (bytesN' ps n : Nat) < 1000000000) (hps : ps.length < 1000000000) :
    ansF cfg 21 [.ptr k 0, .osl j ps.length] bs = some (.int .i64 (h.writeN ps ps.length).taken, bs.set k (.var 59 (h.writeN ps ps.length).av)) := by
  have hkl : k < bs.length := at_lt (by rw [hk]; simp)
  refine ans_of_wp fn21 low21 ?_
  simp (disch := omega) [-List.map_replicate, -List.map_set, -List.getD_eq_getElem?_getD, -getElem?_pos, -getElem?_neg, ir21, hj]
  refine Wp.loopM (fun i => ps.length - i) (fun (i : Nat) => [some (.ptr k 0), none, none, none, some (.osl j ps.length), some (.int .i64 ps.length), some (.int .i64 i), none, none, none])
    (fun i => bs.set k (.var 59 (h.writeN ps i).av)) (fun i => i ≤ ps.length) ?_ 0 (by omega) (by simp) (by
      simp only [Hash.writeN, ← hk]
      apply List.ext_getElem?
      intro j
      by_cases hj : k = j
      · subst hj; simp [hkl, Box.at, List.getD_eq_getElem?_getD]
      · rw [List.getElem?_set_ne hj])
  intro i hi
  by_cases h1 : i < ps.length
  · have hI : (i : Int) < (ps.length : Int) := by omega
    have hp : ps[i]? = some (ps.getD i []) := by simp [List.getD_eq_getElem?_getD, List.getElem?_eq_getElem h1]
    generalize hg : h.writeN ps i = g
    have gs : g.st.length = 25 := by rw [← hg]; exact writeN_st h hs ps i
    have gr : g.rest.length < 136 := by rw [← hg]; exact writeN_rest h hr ps i
    have gt : g.taken = h.taken + (bytesN' ps i : Nat) := by rw [← hg]; exact writeN_taken h ps i
    generalize hq : ps.getD i [] = p at hp
    have hb1 := hb i
    have hb2 := hb (i + 1)
    simp only [bytesN', hq] at hb2
    have hsl : g.rest.length + p.length ≤ strLim := by unfold strLim; omega
    simp (disch := omega) [-List.map_replicate, -List.map_set, -List.getD_eq_getElem?_getD, -getElem?_pos, -getElem?_neg, wrap_i64, hI, hp, at_set, at_set_ne, hj, hsl, av_length, av_taken, av_rest, av_set_taken, av_set_rest]
    refine Wp.loopM (fun (a : Hash) => a.rest.length) (fun _ => [some (.ptr k 0), none, none, none, some (.osl j ps.length), some (.int .i64 ps.length), some (.int .i64 i), none, none, none])
      (fun a => bs.set k (.var 59 a.av)) (fun a => a.st.length = 25 ∧ drain a.st a.rest = drain g.st (g.rest ++ p) ∧ a.taken = g.taken + p.length) ?_ ⟨g.st, g.rest ++ p, g.taken + p.length⟩ ⟨gs, rfl, rfl⟩ (by simp) (by rfl)
    rintro a ⟨al, ad, at2⟩
    by_cases h2 : 136 ≤ a.rest.length
    · have h2I : (136 : Int) ≤ (a.rest.length : Int) := by omega
      have hl2 := blockP_length a.st al (a.rest.take 136)
      simp (disch := omega) [-List.map_replicate, -List.map_set, -List.getD_eq_getElem?_getD, -getElem?_pos, -getElem?_neg, wrap_i64, h2I, at_set, av_length, av_rest, av_st, ansBlock a.st al (a.rest.take 136) (by simp; omega), hl2, av_set_st, av_set_rest]
      have hd2 : drain (blockP a.st (a.rest.take 136)) (a.rest.drop 136) = drain g.st (g.rest ++ p) := (drain_step (s := a.st) h2).symm.trans ad
      have hd3 : (a.rest.drop 136).length < a.rest.length := by simp; omega
      generalize blockP a.st (a.rest.take 136) = N at hl2 hd2 ⊢
      generalize a.rest.drop 136 = R at hd2 hd3 ⊢
      exact ⟨⟨N, R, a.taken⟩, ⟨hl2, hd2, at2⟩, hd3, rfl⟩
    · have h2I : ¬ (136 : Int) ≤ (a.rest.length : Int) := by omega
      simp (disch := omega) [-List.map_replicate, -List.map_set, -List.getD_eq_getElem?_getD, -getElem?_pos, -getElem?_neg, wrap_i64, h2I, at_set, av_rest]
      refine ⟨i + 1, by omega, by omega, by omega, ?_⟩
      rw [drain_end h2] at ad
      simp only [Hash.writeN, Hash.write1, hg, hq, ← ad, ← at2]
  obtain rfl : i = ps.length := by omega
  have gs := writeN_st h hs ps ps.length
  simp (disch := omega) [-List.map_replicate, -List.map_set, -List.getD_eq_getElem?_getD, -getElem?_pos, -getElem?_neg, at_set, at_set_ne, hj, av_taken]

/-! ### Sum -/

/-- the first n bytes of a state -/
def outN (s : W) : Nat → Str
  | 0 => []
  | n + 1 => outN s n ++ [UInt8.ofNat ((s.getD (n / 8) 0#64 >>> (8 * (n % 8))).toNat % 256)]

theorem toInt_w64 (x : BitVec 64) : toInt1 .u8 (w64 x) = some (ofByte (UInt8.ofNat (x.toNat % 256))) := by
  simp only [w64, toInt1_int, ofByte, UInt8.toNat_ofNat']
  have h : IntKind.u8.wrap (x.toNat : Int) = ((x.toNat % 256 : Nat) : Int) := by
    simp only [IntKind.wrap, IntKind.bits, IntKind.signed, Bool.false_and]
    rw [if_neg (by simp)]
    omega
  rw [h]
  simp

def Hash.lastB (h : Hash) : Str := h.rest ++ 6 :: List.replicate (135 - h.rest.length) 0
def Hash.lastB2 (h : Hash) : Str := h.lastB.set 135 (h.lastB.getD 135 0 ||| 128)
def Hash.sum (h : Hash) : Str := outN (blockP h.st h.lastB2) 32

theorem repeat_zero : ∀ n, Lib.repeatL [0] n = List.replicate n (0 : UInt8)
  | 0 => rfl
  | n + 1 => by
    rw [Lib.repeatL, repeat_zero n]
    rfl
theorem lastB_length (h : Hash) (hr : h.rest.length < 136) : h.lastB.length = 136 := by simp [Hash.lastB]; omega

theorem ansSumM (bs : List Box) (hsh : shut bs.length bs = true) (k : Nat) (h : Hash) (hk : Box.at bs k = .var 59 h.av) (hs : h.st.length = 25) (hr : h.rest.length < 136) :
    ansF cfg 20 [.ptr k 0] bs = some (.str h.sum, bs) := by
  have hkl : k < bs.length := at_lt (by rw [hk]; simp)
  have hrep : repeatG [.str [0], .int .i64 (135 - (h.rest.length : Int))] = some (.str (List.replicate (135 - h.rest.length) 0)) := by
    have e1 : (135 - (h.rest.length : Int)).toNat = 135 - h.rest.length := by omega
    simp only [repeatG, e1, repeat_zero]
    rw [if_pos]
    refine ⟨by omega, by omega, ?_⟩
    simp; omega
  have hfold : h.rest ++ 6 :: List.replicate (135 - h.rest.length) 0 = h.lastB := rfl
  have hL := lastB_length h hr
  generalize h.lastB = L at *
  refine ans_of_wp fn20 low20 ?_
  have hor : ∀ ty (x : UInt8), binA cfg ty .or (ofByte x) (.int .u8 128) = some (ofByte (x ||| 128)) := fun ty x => ofByte_or cfg ty x 128 (by omega)
  have hg := get_str (d := L) (i := 135) (by omega)
  generalize hM : L.set 135 (L.getD 135 0 ||| 128) = M
  have hMl : M.length = 136 := by rw [← hM]; simp [hL]
  simp (disch := omega) [-List.map_replicate, -List.map_set, -List.getD_eq_getElem?_getD, -getElem?_pos, -getElem?_neg, wrap_i64, le_strLim, le_sliceLim, ir20, at_app_l, hk, hrep, hfold, hL, hg, hor, set_ofByte, hM, hMl, av_length h hs, av_rest h hs, av_st h hs, Cfg.descOf, Nat.add_assoc, Nat.add_sub_cancel_left, ansBlock h.st hs M (by omega), blockP_length h.st hs M]
  rw [zeros25]
  generalize hS : blockP h.st M = X
  have hX : X.length = 25 := by rw [← hS]; exact blockP_length h.st hs M
  rw [splice_all (by simp [hX]; rfl)]
  refine Wp.loopM (fun i => 32 - i) (fun (i : Nat) => [none, none, none, some (.ptr (bs.length + 2) 0), some (.osl (bs.length + 3) i), none, none, none, none, none, some (.int .i64 i), none, none, none])
    (fun i => bs ++ [.sl ⟨false, some 5⟩ 1 (M.map ofByte), .dead, .var 23 (X.map w64), .sl ⟨false, some 5⟩ 1 ((outN X i).map ofByte)]) (fun i => i ≤ 32) ?_ 0 (by omega) (by simp) (by simp [outN])
  intro i hi
  have hol : ∀ n, (outN X n).length = n := by
    intro n
    induction n with
    | zero => rfl
    | succ n ih => simp [outN, ih]
  by_cases h1 : i < 32
  · have hI : (i : Int) < 32 := by omega
    have h8 : (i : Int) / 8 < 25 := by omega
    simp (disch := omega) [-List.map_replicate, -List.map_set, -List.getD_eq_getElem?_getD, -getElem?_pos, -getElem?_neg, wrap_i64, le_sliceLim, le_buildLim, Int.tmod_eq_emod_of_nonneg, Int.tdiv_eq_ediv_of_nonneg, hI, h8, Nat.add_assoc, Nat.add_sub_cancel_left, get_w64 (a := X) (i := i / 8) (by omega), shr8, -toInt1_int, toInt_w64, hol, shut_map (n := bs.length + 4) (by omega) hsh]
    refine ⟨i + 1, by omega, by omega, ⟨rfl, by omega⟩, ?_⟩
    rw [List.take_length_add_append]
    simp [outN]
  obtain rfl : i = 32 := by omega
  simp (disch := omega) [-List.map_replicate, -List.map_set, -List.getD_eq_getElem?_getD, -getElem?_pos, -getElem?_neg, wrap_i64, le_buildLim, Int.tmod_eq_emod_of_nonneg, Int.tdiv_eq_ediv_of_nonneg, Nat.add_assoc, Nat.add_sub_cancel_left, hol, shut_map (n := bs.length) (by omega) hsh, Cfg.descOf]
  refine ⟨by simp only [Hash.sum, Hash.lastB2, Hash.lastB, hfold, hM, hS], ?_⟩
  rw [show decide (bs.length + 5 ≤ bs.length) = false by simp]

/-! ### The digest of a string -/

def hash0 : Hash := ⟨z25, [], 0⟩
def sumP (d : Str) : Str := (hash0.write1 d).sum
theorem hash0_av : hash0.av = z25.map w64 ++ [.str [], .int .i64 0] := rfl

theorem ansNew (bs : List Box) : ansF cfg 19 [] bs = some (.ptr bs.length 0, bs ++ [.var 59 hash0.av]) := by
  refine ans_of_wp fn19 low19 ?_
  simp (disch := omega) [-List.map_replicate, -List.map_set, -List.getD_eq_getElem?_getD, -getElem?_pos, -getElem?_neg, ir19]
  rfl

theorem writeN_one (h : Hash) (d : Str) : h.writeN [d] 1 = h.write1 d := rfl

theorem ansSumP (d : Str) (hd : d.length ≤ 1000000) : ansF cfg 13 [.str d] [] = some (.str (sumP d), []) := by
  refine ans_of_wp fn13 low13 ?_
  have hst : hash0.st.length = 25 := rfl
  have hw := fun bs k hk j hjk sh hj => ansWriteO bs k hash0 hk hst (by decide) (by decide) j hjk sh [d] hj (fun n => by
    match n with
    | 0 => simp [bytesN', hash0]
    | n + 1 =>
      have : ∀ m, bytesN' [d] m ≤ d.length := fun m => by
        match m with
        | 0 => simp [bytesN']
        | m + 1 =>
          induction m with
          | zero => simp [bytesN']
          | succ m ih => simpa [bytesN'] using ih
      have := this (n + 1)
      simp only [hash0]
      omega) (by simp)
  have hs1 : (hash0.writeN [d] 1).st.length = 25 := writeN_st hash0 hst [d] 1
  have hr1 : (hash0.writeN [d] 1).rest.length < 136 := writeN_rest hash0 (by decide) [d] 1
  have hu : ∀ h : Hash, ∀ n, underAll n h.av = true := fun h n => by
    simp only [Hash.av]
    have : ∀ l m : List AV, underAll n (l ++ m) = (underAll n l && underAll n m) := by
      intro l m
      induction l with
      | nil => simp
      | cons a l ih => simp [ih, Bool.and_assoc]
    rw [this]; simp
  have hw1 := hw [.var 59 hash0.av, .sl ⟨false, some 9⟩ 1 [.str d]] 0 rfl 1 (by omega) ⟨false, some 9⟩ rfl
  have hs2 := ansSumM [.var 59 (hash0.writeN [d] 1).av, .sl ⟨false, some 9⟩ 1 [.str d]] (by simp [shut, hu]) 0 (hash0.writeN [d] 1) rfl hs1 hr1
  simp only [List.length_singleton, List.set_cons_zero] at hw1
  simp (disch := omega) [-List.map_replicate, -List.map_set, -List.getD_eq_getElem?_getD, -getElem?_pos, -getElem?_neg, le_buildLim, ir13, ansNew, hw1, hs2]
  rfl
end Go.Proofs.Ytfplnlmddcchjaa
