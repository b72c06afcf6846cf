/-
  The abstract machine's tables for this program, and that they are the program's.
-/
import Derived.Test.YtibakcohkdfnoaaDoorAmSeat
import Derived.Test.YtibakcohkdfnoaaDoorShelf
namespace Go.Proofs.YtibakcohkdfnoaaDoor
open Go.Am Go.RowKit

/-- strings.Repeat -/
def repeatG : List AV → Option AV
  | [.str s, .int .i64 n] => if 0 ≤ n ∧ n ≤ 9223372036854775807 ∧ s.length * n.toNat ≤ 140737488355328 then some (.str (Lib.repeatL s n.toNat)) else none
  | _ => none

/-- internal/bytealg.IndexByteString -/
def indexG : List AV → Option AV
  | [.str s, .int .u8 c] => some (.int .i64 (Lib.indexByte s c.toNat.toUInt8))
  | _ => none

/-- internal/abi.NoEscape -/
def sameG : List AV → Option AV
  | [x] => some x
  | _ => none

def ovs (f : FuncId) : Option (List AV → Option AV) := if f = 43 then some repeatG else none

/-- functions that hand over slices of their own -/
def owns (_f : FuncId) : Bool := decide (_f = 31)

def exts (f : FuncId) : Option (List AV → Option AV) := if f = 83 then some indexG else if f = 67 then some sameG else none

noncomputable def cfg : Cfg := tables Tryd.prog 7 ovs exts owns

theorem ovs_ok : OvOk Tryd.prog cfg := by
  intro f G hf xs r hr hp
  change ovs f = some G at hf
  unfold ovs at hf
  split at hf
  · rename_i hf0; subst hf0
    cases hf
    unfold repeatG at hr
    split at hr
    · rename_i s n
      split at hr
      · rename_i hn
        cases hr
        refine ⟨⟨Tryd.f43, by kernel_rfl, by kernel_rfl, by kernel_rfl⟩, fun g w vs hm hx => ?_⟩
        obtain ⟨vs⟩ := vs
        simp only at hx
        cases hx with
        | cons h1 t => cases t with
          | cons h2 t =>
            cases t
            obtain rfl := h1.str_inv
            obtain rfl := h2.int_inv
            obtain ⟨m, rfl⟩ := Int.eq_ofNat_of_zero_le hn.1
            have hsz : (ByteArray.mk s.toArray).size = s.length := by show s.toArray.size = _; simp
            refine (Tryd.strings_Repeat ⟨s.toArray⟩ m w (by omega) (by rw [hsz]; simpa using hn.2.2)).mono ?_
            rintro e w' ⟨rfl, hb⟩
            refine CPost.of_below hm hb ?_
            simp only [Int.toNat_natCast]
            exact .str _
      · cases hr
    · cases hr
  · cases hf

theorem exts_ok : ExtOk Tryd.prog cfg := by
  intro f G hf xs r hr g w vs hx
  change exts f = some G at hf
  obtain ⟨vs⟩ := vs
  simp only at hx
  unfold exts at hf
  split at hf
  · rename_i hf0; subst hf0
    cases hf
    unfold indexG at hr
    split at hr
    · cases hr
      cases hx with
      | cons h1 t => cases t with
        | cons h2 t =>
          cases t
          rename_i s c _ _
          obtain rfl := h1.str_inv
          obtain rfl := h2.int_inv
          refine ⟨.int .i64 (Lib.indexByte s c.toNat.toUInt8), ?_, .int _ _⟩
          rw [run_callFunc_extern (P := Tryd.prog) (f := 83) (fn := Tryd.f83) (by kernel_rfl) (by kernel_rfl) (by kernel_rfl) (by kernel_rfl) (e := Extern.BytealgIndexByte.indexByte) (by kernel_rfl)]
          have := Lib.run_indexByteString (P := Tryd.prog) ⟨s.toArray⟩ c w
          rw [this]
          rfl
    · cases hr
  split at hf
  · rename_i hf0; subst hf0
    cases hf
    unfold sameG at hr
    split at hr
    · cases hr
      cases hx with
      | cons h1 t =>
        cases t
        refine ⟨_, ?_, h1⟩
        rw [run_callFunc_extern (P := Tryd.prog) (f := 67) (fn := Tryd.f67) (by kernel_rfl) (by kernel_rfl) (by kernel_rfl) (by kernel_rfl) (e := Extern.AbiNoEscape.same) (by kernel_rfl)]
        rfl
    · cases hr
  · cases hf

theorem cfg_ok : CfgOk cfg Tryd.prog := tables_ok (by kernel_rfl) (by kernel_rfl) ovs_ok exts_ok

end Go.Proofs.YtibakcohkdfnoaaDoor
