/-
  The abstract machine's tables for this program, and that they are the program's: so far as three variables hold what their initialisers lay (Known).
-/
import Derived.Test.YtfhfnehoaiegcaaGreatDoorAmSeat
import Derived.Test.YtfhfnehoaiegcaaGreatDoorShelf
import Derived.Lib.AppendIntMem
set_option linter.all false
namespace Go.Proofs.YtfhfnehoaiegcaaGreatDoor
open Go.Am Go.RowKit

/-- strings.Repeat -/
def repeatG : List AV → Option AV
  | [.str s, .int .i64 n] => if 0 ≤ n ∧ n ≤ 9223372036854775807 ∧ s.length * n.toNat ≤ 140737488355328 then some (.str (Lib.repeatL s n.toNat)) else none
  | _ => none
/-- strconv.Itoa -/
def itoaG : List AV → Option AV
  | [.int .i64 n] => if -9223372036854775808 ≤ n ∧ n ≤ 9223372036854775807 then some (.str (Lib.itoa n)) else none
  | _ => none
/-- strconv.Atoi -/
def atoiG : List AV → Option AV
  | [.str s] => if s.length ≤ 281474976710656 then (match Lib.atoiAll s with
    | .ok v => some (.tup [.int .i64 v, .ifc false])
    | Lib.NumEnd.syntax => some (.tup [.int .i64 0, .ifc true])
    | .range => some (.tup [.int .i64 (Lib.atoiSat s), .ifc true])) else none
  | _ => none
/-- strings of a list of values -/
def strsOf : List AV → Option (List (List UInt8))
  | [] => some []
  | .str s :: r => match strsOf r with
    | some l => some (s :: l)
    | none => none
  | _ :: _ => none
/-- strings.Join -/
def joinG : List AV → Option AV
  | [.lst _ z es, .str sep] => if z = 1 ∨ es = [] then (match strsOf es with
    | some l => if l.length ≤ 140737488355328 ∧ (Lib.join l sep).length ≤ 140737488355328 then some (.str (Lib.join l sep)) else none
    | none => none) else none
  | _ => none
/-- internal/bytealg.IndexByteString -/
def indexG : List AV → Option AV
  | [.str s, .int .u8 c] => some (.int .i64 (Lib.indexByte s c.toNat.toUInt8))
  | _ => none
/-- internal/bytealg.CountString -/
def countG : List AV → Option AV
  | [.str s, .int .u8 c] => some (.int .i64 (Lib.countByte s c.toNat.toUInt8))
  | _ => none
/-- internal/abi.NoEscape -/
def sameG : List AV → Option AV
  | [x] => some x
  | _ => none

def ovs (f : FuncId) : Option (List AV → Option AV) := if f = 84 then some repeatG else if f = 46 then some itoaG else if f = 49 then some atoiG else if f = 72 then some joinG else none

/-- functions that hand over slices of their own -/
def owns (_f : FuncId) : Bool := decide (_f = 20)

def exts (f : FuncId) : Option (List AV → Option AV) := if f = 142 then some indexG else if f = 89 then some sameG else if f = 114 then some countG else none

noncomputable def cfg : Cfg := tables Tryz.prog 8 ovs exts owns

/-! ### They are the program's -/

noncomputable def nmPow : String := (Tryz.prog.globals[2]?).elim "" (·.name)
noncomputable def nmSyn : String := (Tryz.prog.globals[0]?).elim "" (·.name)
noncomputable def nmRng : String := (Tryz.prog.globals[1]?).elim "" (·.name)
/-- what is known of the variables -/
structure Known [Kn] : Prop where
  pow : ∃ t z, (2, Obj.cells (Lib.pow10Tab.map fun z => Value.int .u64 z).toArray t z) ∈ Kn.ks
  syn : ∃ tp p t z, (0, Obj.cells #[.iface tp p] t z) ∈ Kn.ks
  rng : ∃ tp p t z, (1, Obj.cells #[.iface tp p] t z) ∈ Kn.ks

theorem pow_is [Kn] (hk : Known) {g : Gh} {w : World} (hm : Mem g [] w) : Lib.TabIs Tryz.prog w nmPow .u64 Lib.pow10Tab := by
  obtain ⟨t, z, h⟩ := hk.pow
  have h1 := (hm.kn _ h).1
  have h2 : Tryz.prog.globalNamed nmPow = some 2 := by kernel_rfl
  unfold Lib.TabIs World.var?
  rw [h2]
  simp only [Option.bind_some]
  rw [h1]
theorem syn_is [Kn] (hk : Known) {g : Gh} {w : World} (hm : Mem g [] w) : ∃ tp p, w.var? Tryz.prog nmSyn = some #[.iface tp p] := by
  obtain ⟨tp, p, t, z, h⟩ := hk.syn
  have h1 := (hm.kn _ h).1
  have h2 : Tryz.prog.globalNamed nmSyn = some 0 := by kernel_rfl
  refine ⟨tp, p, ?_⟩
  unfold World.var?
  rw [h2]
  simp only [Option.bind_some]
  rw [h1]
theorem rng_is [Kn] (hk : Known) {g : Gh} {w : World} (hm : Mem g [] w) : ∃ tp p, w.var? Tryz.prog nmRng = some #[.iface tp p] := by
  obtain ⟨tp, p, t, z, h⟩ := hk.rng
  have h1 := (hm.kn _ h).1
  have h2 : Tryz.prog.globalNamed nmRng = some 1 := by kernel_rfl
  refine ⟨tp, p, ?_⟩
  unfold World.var?
  rw [h2]
  simp only [Option.bind_some]
  rw [h1]

theorem strsOf_get : ∀ {es : List AV} {l : List (List UInt8)}, strsOf es = some l → es.length = l.length ∧ ∀ (i : Nat) x, l[i]? = some x → es[i]? = some (.str x)
  | [], l, h => by cases h; exact ⟨rfl, fun i x hx => by simp at hx⟩
  | .str s :: r, l, h => by
    simp only [strsOf] at h
    cases hr : strsOf r with
    | none => rw [hr] at h; cases h
    | some l' =>
      rw [hr] at h; cases h
      obtain ⟨h1, h2⟩ := strsOf_get hr
      refine ⟨by simp [h1], fun i x hx => ?_⟩
      cases i with
      | zero => simp at hx; simp [hx]
      | succ i => simp at hx ⊢; exact h2 i x hx
  | .any :: r, l, h => by simp [strsOf] at h
  | .unk :: r, l, h => by simp [strsOf] at h
  | .int _ _ :: r, l, h => by simp [strsOf] at h
  | .bool _ :: r, l, h => by simp [strsOf] at h
  | .agg _ :: r, l, h => by simp [strsOf] at h
  | .tup _ :: r, l, h => by simp [strsOf] at h
  | .nilp :: r, l, h => by simp [strsOf] at h
  | .ptr _ _ :: r, l, h => by simp [strsOf] at h
  | .sptr _ _ _ _ :: r, l, h => by simp [strsOf] at h
  | .eptr _ :: r, l, h => by simp [strsOf] at h
  | .lst _ _ _ :: r, l, h => by simp [strsOf] at h
  | .cap0 _ :: r, l, h => by simp [strsOf] at h
  | .osl _ _ :: r, l, h => by simp [strsOf] at h
  | .fn _ _ _ :: r, l, h => by simp [strsOf] at h
  | .nilf :: r, l, h => by simp [strsOf] at h
  | .ifc _ :: r, l, h => by simp [strsOf] at h
  | .yld _ _ _ :: r, l, h => by simp [strsOf] at h

theorem join_ok [Kn] {g : Gh} {w : World} (hm : Mem g [] w) {nl : Option Bool} {z : Nat} {es : List AV} {v : Value} (h1 : Rd g w (.lst nl z es) v) {l : List (List UInt8)} (sep : List UInt8) (hl : strsOf es = some l) (hz : z = 1 ∨ es = [])
    (hN : l.length ≤ 140737488355328) (hJ : (Lib.join l sep).length ≤ 140737488355328) : Calls Tryz.prog 72 #[v, .string ⟨sep.toArray⟩] w (CPost g w [] (.str (Lib.join l sep))) := by
  obtain ⟨e1, e2⟩ := strsOf_get hl
  cases h1 with
  | lst _ _ _ a cap b off vals hnl hnil hcap ha hp hc h =>
    by_cases h0 : es = []
    · subst h0
      obtain rfl : l = [] := List.length_eq_zero_iff.1 (by simpa using e1.symm)
      refine (Tryz.strings_Join_none a cap ⟨sep.toArray⟩ w).mono ?_
      rintro e w' ⟨rfl, rfl⟩
      exact CPost.of_below hm (RowKit.Below.refl _ _) (.str _)
    · obtain rfl : z = 1 := hz.resolve_right h0
      obtain rfl := ha h0
      have hcell : ∀ (i : Nat) s, l[i]? = some s → w.cell? ⟨b, off + i, none⟩ = some (.string ⟨s.toArray⟩) ∧ g.S b (off + i) := fun i s hs => by
        have k := e2 i s hs
        have c1 := hc i 0 _ (.str s) k rfl
        have r1 := h i 0 _ (.str s) k rfl
        simp only [Nat.mul_one, Nat.add_zero] at c1
        rw [r1.str_inv] at c1
        exact ⟨c1.2.1, c1.1⟩
      have hpos : 0 < l.length := by
        rw [← e1]; exact List.length_pos_iff.2 h0
      have hbk : b < w.heap.size := (hm.stab _ _ (hcell 0 l[0] (List.getElem?_eq_getElem hpos)).2).1
      have hmap : ((l.map fun s => (⟨s.toArray⟩ : ByteArray)).map (·.data.toList)) = l := by
        rw [List.map_map]
        have : ((fun s : ByteArray => s.data.toList) ∘ fun s : List UInt8 => (⟨s.toArray⟩ : ByteArray)) = id := by funext s; simp
        rw [this, List.map_id]
      have hsp : (⟨sep.toArray⟩ : ByteArray).data.toList = sep := by simp
      have K := Tryz.strings_Join b off cap (l.map fun s => ⟨s.toArray⟩) ⟨sep.toArray⟩ w (fun j x hx => by
          simp only [List.getElem?_map, Option.map_eq_some_iff] at hx
          obtain ⟨s, hs, rfl⟩ := hx
          exact (hcell j s hs).1) hbk (by simpa using hN) (by rw [List.length_map, ← e1]; exact hcap) (by rw [hmap, hsp]; exact hJ)
      rw [hmap, hsp, List.length_map, ← e1] at K
      refine K.mono ?_
      rintro e w' ⟨rfl, hb⟩
      exact CPost.of_below hm hb (.str _)

theorem ovs_ok [Kn] (hk : Known) : OvOk Tryz.prog cfg := by
  intro f G hf xs r hr hp
  change ovs f = some G at hf
  unfold ovs at hf
  split at hf
  · rename_i hf0; subst hf0
    cases hf
    unfold repeatG at hr
    split at hr
    · rename_i s n
      split at hr
      · rename_i hn
        cases hr
        refine ⟨⟨Tryz.f84, by kernel_rfl, by kernel_rfl, by kernel_rfl⟩, fun g w vs hm hx => ?_⟩
        obtain ⟨vs⟩ := vs
        simp only at hx
        cases hx with
        | cons h1 t => cases t with
          | cons h2 t =>
            cases t
            obtain rfl := h1.str_inv
            obtain rfl := h2.int_inv
            obtain ⟨m, rfl⟩ := Int.eq_ofNat_of_zero_le hn.1
            have hsz : (ByteArray.mk s.toArray).size = s.length := by show s.toArray.size = _; simp
            refine (Tryz.strings_Repeat ⟨s.toArray⟩ m w (by omega) (by rw [hsz]; simpa using hn.2.2)).mono ?_
            rintro e w' ⟨rfl, hb⟩
            refine CPost.of_below hm hb ?_
            simp only [Int.toNat_natCast]
            exact .str _
      · cases hr
    · cases hr
  split at hf
  · rename_i hf0; subst hf0
    cases hf
    unfold itoaG at hr
    split at hr
    · rename_i n
      split at hr
      · rename_i hn
        cases hr
        refine ⟨⟨Tryz.f46, by kernel_rfl, by kernel_rfl, by kernel_rfl⟩, fun g w vs hm hx => ?_⟩
        obtain ⟨vs⟩ := vs
        simp only at hx
        cases hx with
        | cons h1 t =>
          cases t
          obtain rfl := h1.int_inv
          refine (Tryz.strconv_Itoa n hn.1 hn.2 w (pow_is hk hm)).mono ?_
          rintro e w' ⟨rfl, k, os, rfl⟩
          exact CPost.of_below hm (Lib.below_grow _ _ (Nat.le_refl _) _ _) (.str _)
      · cases hr
    · cases hr
  split at hf
  · rename_i hf0; subst hf0
    cases hf
    unfold atoiG at hr
    split at hr
    · rename_i s
      split at hr
      · rename_i hn
        refine ⟨⟨Tryz.f49, by kernel_rfl, by kernel_rfl, by kernel_rfl⟩, fun g w vs hm hx => ?_⟩
        obtain ⟨vs⟩ := vs
        simp only at hx
        cases hx with
        | cons h1 t =>
          cases t
          obtain rfl := h1.str_inv
          have hsz : (ByteArray.mk s.toArray).size = s.length := by show s.toArray.size = _; simp
          have hd : (ByteArray.mk s.toArray).data.toList = s := by simp
          split at hr
          · rename_i v hv
            cases hr
            refine (Tryz.strconv_Atoi_ok ⟨s.toArray⟩ (by rw [hsz]; omega) v (by rw [hd]; exact hv) w).mono ?_
            rintro e w' ⟨rfl, hb⟩
            have hb' : RowKit.Below w.heap.size w w' := by
              rcases hb with rfl | ⟨t, rfl⟩
              · exact RowKit.Below.refl _ _
              · exact Lib.bytesWorld_below _ _ _
            refine CPost.of_below hm hb' (.tup _ _ rfl fun i c v hc hv => ?_)
            match i, hc, hv with
            | 0, hc, hv => cases hc; cases hv; exact .int _ _
            | 1, hc, hv => cases hc; cases hv; exact .ifc _ _ (.inl ⟨rfl, rfl⟩)
          · rename_i hv
            cases hr
            obtain ⟨tp, p, hvar⟩ := syn_is hk hm
            refine (Tryz.strconv_Atoi_syntax_var ⟨s.toArray⟩ (by rw [hsz]; exact hn) (by rw [hd]; exact hv) tp p w hvar).mono ?_
            rintro e w' ⟨N, rfl, _, _, hb⟩
            refine CPost.of_below hm hb (.tup _ _ rfl fun i c v hc hv => ?_)
            match i, hc, hv with
            | 0, hc, hv => cases hc; cases hv; exact .int _ _
            | 1, hc, hv => cases hc; cases hv; exact .ifc _ _ (.inr ⟨rfl, _, _, rfl⟩)
          · rename_i hv
            cases hr
            obtain ⟨tp, p, hvar⟩ := rng_is hk hm
            refine (Tryz.strconv_Atoi_range_var ⟨s.toArray⟩ (by rw [hsz]; exact hn) (by rw [hd]; exact hv) tp p w hvar).mono ?_
            rintro e w' ⟨N, rfl, _, _, hb⟩
            rw [hd]
            refine CPost.of_below hm hb (.tup _ _ rfl fun i c v hc hv => ?_)
            match i, hc, hv with
            | 0, hc, hv => cases hc; cases hv; exact .int _ _
            | 1, hc, hv => cases hc; cases hv; exact .ifc _ _ (.inr ⟨rfl, _, _, rfl⟩)
      · cases hr
    · cases hr
  split at hf
  · rename_i hf0; subst hf0
    cases hf
    unfold joinG at hr
    split at hr
    · rename_i nl z es sep
      split at hr
      · rename_i hz
        split at hr
        · rename_i l hl
          split at hr
          · rename_i hn
            cases hr
            refine ⟨⟨Tryz.f72, by kernel_rfl, by kernel_rfl, by kernel_rfl⟩, fun g w vs hm hx => ?_⟩
            obtain ⟨vs⟩ := vs
            simp only at hx
            cases hx with
            | cons h1 t => cases t with
              | cons h2 t =>
                cases t
                obtain rfl := h2.str_inv
                exact join_ok hm h1 sep hl hz hn.1 hn.2
          · cases hr
        · cases hr
      · cases hr
    · cases hr
  · cases hf

theorem exts_ok [Kn] : ExtOk Tryz.prog cfg := by
  intro f G hf xs r hr g w vs hx
  change exts f = some G at hf
  obtain ⟨vs⟩ := vs
  simp only at hx
  unfold exts at hf
  split at hf
  · rename_i hf0; subst hf0
    cases hf
    unfold indexG at hr
    split at hr
    · cases hr
      cases hx with
      | cons h1 t => cases t with
        | cons h2 t =>
          cases t
          rename_i s c _ _
          obtain rfl := h1.str_inv
          obtain rfl := h2.int_inv
          refine ⟨.int .i64 (Lib.indexByte s c.toNat.toUInt8), ?_, .int _ _⟩
          rw [run_callFunc_extern (P := Tryz.prog) (f := 142) (fn := Tryz.f142) (by kernel_rfl) (by kernel_rfl) (by kernel_rfl) (by kernel_rfl) (e := Extern.BytealgIndexByte.indexByte) (by kernel_rfl)]
          have := Lib.run_indexByteString (P := Tryz.prog) ⟨s.toArray⟩ c w
          rw [this]
          rfl
    · cases hr
  split at hf
  · rename_i hf0; subst hf0
    cases hf
    unfold sameG at hr
    split at hr
    · cases hr
      cases hx with
      | cons h1 t =>
        cases t
        refine ⟨_, ?_, h1⟩
        rw [run_callFunc_extern (P := Tryz.prog) (f := 89) (fn := Tryz.f89) (by kernel_rfl) (by kernel_rfl) (by kernel_rfl) (by kernel_rfl) (e := Extern.AbiNoEscape.same) (by kernel_rfl)]
        rfl
    · cases hr
  split at hf
  · rename_i hf0; subst hf0
    cases hf
    unfold countG at hr
    split at hr
    · cases hr
      cases hx with
      | cons h1 t => cases t with
        | cons h2 t =>
          cases t
          rename_i s c _ _
          obtain rfl := h1.str_inv
          obtain rfl := h2.int_inv
          refine ⟨.int .i64 (Lib.countByte s c.toNat.toUInt8), ?_, .int _ _⟩
          rw [run_callFunc_extern (P := Tryz.prog) (f := 114) (fn := Tryz.f114) (by kernel_rfl) (by kernel_rfl) (by kernel_rfl) (by kernel_rfl) (e := Extern.BytealgCount.count) (by kernel_rfl)]
          have := Lib.run_countString (P := Tryz.prog) ⟨s.toArray⟩ c w
          rw [this]
          rfl
    · cases hr
  · cases hf

theorem cfg_ok [Kn] (hk : Known) : CfgOk cfg Tryz.prog := tables_ok (by kernel_rfl) (by kernel_rfl) (ovs_ok hk) exts_ok

end Go.Proofs.YtfhfnehoaiegcaaGreatDoor
