/-
  The abstract machine's tables for this program, and that they are the program's: so far as some variables hold what their initialisers lay (Known).
-/
import Derived.Test.YtlolhkjjbgpfbaaGreatDoorAmSeat
import Derived.Test.YtlolhkjjbgpfbaaGreatDoorShelf
import Derived.Lib.AppendIntMem
import Derived.Lib.Bytealg
import Derived.Shelf.Strings.SlTrimAscii
set_option linter.all false
namespace Go.Proofs.YtlolhkjjbgpfbaaGreatDoor
open Go.Am Go.RowKit
def repeatG : List AV → Option AV
  | [.str s, .int .i64 n] => if 0 ≤ n ∧ n ≤ 9223372036854775807 ∧ s.length * n.toNat ≤ 140737488355328 then some (.str (Lib.repeatL s n.toNat)) else none
  | _ => none
def itoaG : List AV → Option AV
  | [.int .i64 n] => if -9223372036854775808 ≤ n ∧ n ≤ 9223372036854775807 then some (.str (Lib.itoa n)) else none
  | _ => none
def strsOf : List AV → Option (List (List UInt8))
  | [] => some []
  | .str s :: r => match strsOf r with
    | some l => some (s :: l)
    | none => none
  | _ :: _ => none
def joinG : List AV → Option AV
  | [.lst _ z es, .str sep] => if z = 1 ∨ es = [] then (match strsOf es with
    | some l => if l.length ≤ 140737488355328 ∧ (Lib.join l sep).length ≤ 140737488355328 then some (.str (Lib.join l sep)) else none
    | none => none) else none
  | _ => none
def findG : List AV → Option AV
  | [.str s, .str t] => if s.length < 4294967281 then some (.int .i64 (Lib.index s t)) else none
  | _ => none
def indexG : List AV → Option AV
  | [.str s, .int .u8 c] => some (.int .i64 (Lib.indexByte s c.toNat.toUInt8))
  | _ => none
def cmpG : List AV → Option AV
  | [.str a, .str b] => some (.int .i64 (Lib.compareBytes a b))
  | _ => none
def sameG : List AV → Option AV
  | [x] => some x
  | _ => none
def trimG : List AV → Option AV
  | [.str s, .str cs] => if s.length ≤ 9223372036854775807 ∧ cs.length < 4294967281 ∧ (cs.all fun b => decide (b.toNat < 128)) = true then some (.str (Lib.trimS s cs)) else none
  | _ => none
def fieldsG : List AV → List Box → Option (AV × List Box)
  | [.str s], bs => if s.length < 4294967281 ∧ (s.all fun b => decide (b.toNat < 128)) = true then
      (match Lib.fields s with
      | [] => some (.cap0 (some false), bs ++ [.var 9 []])
      | x :: r => some (.osl bs.length (r.length + 1), bs ++ [.sl ⟨false, some 9⟩ 1 ((x :: r).map .str)])) else none
  | _, _ => none
def ovs (f : FuncId) : Option (List AV → Option AV) := if f = 105 then some repeatG else if f = 110 then some itoaG else if f = 41 then some joinG else if f = 119 then some findG else if f = 44 then some trimG else none
def ovbs (f : FuncId) : Option (List AV → List Box → Option (AV × List Box)) := none
def owns (_f : FuncId) : Bool := decide (_f = 49 ∨ _f = 98 ∨ _f = 62)
def muts (_f : FuncId) : Bool := decide (_f = 70 ∨ _f = 115 ∨ _f = 143 ∨ _f = 40)
def exts (f : FuncId) : Option (List AV → Option AV) := if f = 174 then some indexG else if f = 160 then some sameG else if f = 140 then some cmpG else none
noncomputable def cfg : Cfg := tablesB Tryz.prog 8 ovs ovbs exts owns true muts
noncomputable def nmPow : String := (Tryz.prog.globals[5]?).elim "" (·.name)
structure Known [Kn] : Prop where
  pow : ∃ t z, (5, Obj.cells (Lib.pow10Tab.map fun z => Value.int .u64 z).toArray t z) ∈ Kn.ks
  max : ∃ m t z, (2, Obj.cells #[.int .i64 m] t z) ∈ Kn.ks
theorem pow_is [Kn] (hk : Known) {g : Gh} {w : World} (hm : Mem g [] w) : Lib.TabIs Tryz.prog w nmPow .u64 Lib.pow10Tab := by
  obtain ⟨t, z, h⟩ := hk.pow
  have h1 := (hm.kn _ h).1
  have h2 : Tryz.prog.globalNamed nmPow = some 5 := by kernel_rfl
  unfold Lib.TabIs World.var?
  rw [h2]
  simp only [Option.bind_some]
  rw [h1]
theorem strsOf_get : ∀ {es : List AV} {l : List (List UInt8)}, strsOf es = some l → es.length = l.length ∧ ∀ (i : Nat) x, l[i]? = some x → es[i]? = some (.str x)
  | [], l, h => by cases h; exact ⟨rfl, fun i x hx => by simp at hx⟩
  | .str s :: r, l, h => by
    simp only [strsOf] at h
    cases hr : strsOf r with
    | none => rw [hr] at h; cases h
    | some l' =>
      rw [hr] at h; cases h
      obtain ⟨h1, h2⟩ := strsOf_get hr
      refine ⟨by simp [h1], fun i x hx => ?_⟩
      cases i with
      | zero => simp at hx; simp [hx]
      | succ i => simp at hx ⊢; exact h2 i x hx
  | .any :: r, l, h => by simp [strsOf] at h
  | .unk :: r, l, h => by simp [strsOf] at h
  | .int _ _ :: r, l, h => by simp [strsOf] at h
  | .bool _ :: r, l, h => by simp [strsOf] at h
  | .agg _ :: r, l, h => by simp [strsOf] at h
  | .tup _ :: r, l, h => by simp [strsOf] at h
  | .nilp :: r, l, h => by simp [strsOf] at h
  | .ptr _ _ :: r, l, h => by simp [strsOf] at h
  | .sptr _ _ _ _ :: r, l, h => by simp [strsOf] at h
  | .eptr _ :: r, l, h => by simp [strsOf] at h
  | .lst _ _ _ :: r, l, h => by simp [strsOf] at h
  | .cap0 _ :: r, l, h => by simp [strsOf] at h
  | .osl _ _ :: r, l, h => by simp [strsOf] at h
  | .osv _ _ _ _ :: r, l, h => by simp [strsOf] at h
  | .fn _ _ _ :: r, l, h => by simp [strsOf] at h
  | .nilf :: r, l, h => by simp [strsOf] at h
  | .ifc _ :: r, l, h => by simp [strsOf] at h
  | .ifi _ _ _ :: r, l, h => by simp [strsOf] at h
  | .yld _ _ _ :: r, l, h => by simp [strsOf] at h
theorem join_ok [Kn] {g : Gh} {w : World} (hm : Mem g [] w) {nl : Option Bool} {z : Nat} {es : List AV} {v : Value} (h1 : Rd g w (.lst nl z es) v) {l : List (List UInt8)} (sep : List UInt8) (hl : strsOf es = some l) (hz : z = 1 ∨ es = [])
    (hN : l.length ≤ 140737488355328) (hJ : (Lib.join l sep).length ≤ 140737488355328) : Calls Tryz.prog 41 #[v, .string ⟨sep.toArray⟩] w (CPost g w [] (.str (Lib.join l sep))) := by
  obtain ⟨e1, e2⟩ := strsOf_get hl
  cases h1 with
  | lst _ _ _ a cap b off vals hnl hnil hcap ha hp hc h =>
    by_cases h0 : es = []
    · subst h0
      obtain rfl : l = [] := List.length_eq_zero_iff.1 (by simpa using e1.symm)
      refine (Tryz.strings_Join_none a cap ⟨sep.toArray⟩ w).mono ?_
      rintro e w' ⟨rfl, rfl⟩
      exact CPost.of_below hm (RowKit.Below.refl _ _) (.str _)
    · obtain rfl : z = 1 := hz.resolve_right h0
      obtain rfl := ha h0
      have hcell : ∀ (i : Nat) s, l[i]? = some s → w.cell? ⟨b, off + i, none⟩ = some (.string ⟨s.toArray⟩) ∧ g.S b (off + i) := fun i s hs => by
        have k := e2 i s hs
        have c1 := hc i 0 _ (.str s) k rfl
        have r1 := h i 0 _ (.str s) k rfl
        simp only [Nat.mul_one, Nat.add_zero] at c1
        rw [r1.str_inv] at c1
        exact ⟨c1.2.1, c1.1⟩
      have hpos : 0 < l.length := by
        rw [← e1]; exact List.length_pos_iff.2 h0
      have hbk : b < w.heap.size := (hm.stab _ _ (hcell 0 l[0] (List.getElem?_eq_getElem hpos)).2).1
      have hmap : ((l.map fun s => (⟨s.toArray⟩ : ByteArray)).map (·.data.toList)) = l := by
        rw [List.map_map]
        have : ((fun s : ByteArray => s.data.toList) ∘ fun s : List UInt8 => (⟨s.toArray⟩ : ByteArray)) = id := by funext s; simp
        rw [this, List.map_id]
      have hsp : (⟨sep.toArray⟩ : ByteArray).data.toList = sep := by simp
      have K := Tryz.strings_Join b off cap (l.map fun s => ⟨s.toArray⟩) ⟨sep.toArray⟩ w (fun j x hx => by
          simp only [List.getElem?_map, Option.map_eq_some_iff] at hx
          obtain ⟨s, hs, rfl⟩ := hx
          exact (hcell j s hs).1) hbk (by simpa using hN) (by rw [List.length_map, ← e1]; exact hcap) (by rw [hmap, hsp]; exact hJ)
      rw [hmap, hsp, List.length_map, ← e1] at K
      refine K.mono ?_
      rintro e w' ⟨rfl, hb⟩
      exact CPost.of_below hm hb (.str _)
theorem ovs_ok [Kn] (hk : Known) : OvOk Tryz.prog cfg := by
  intro f G hf xs r hr hp
  change ovs f = some G at hf
  unfold ovs at hf
  split at hf
  · rename_i hf0; subst hf0
    cases hf
    unfold repeatG at hr
    split at hr
    · rename_i s n
      split at hr
      · rename_i hn
        cases hr
        refine ⟨⟨Tryz.f105, by kernel_rfl, by kernel_rfl, by kernel_rfl⟩, fun g w vs hm hx => ?_⟩
        obtain ⟨vs⟩ := vs
        simp only at hx
        cases hx with
        | cons h1 t => cases t with
          | cons h2 t =>
            cases t
            obtain rfl := h1.str_inv
            obtain rfl := h2.int_inv
            obtain ⟨m, rfl⟩ := Int.eq_ofNat_of_zero_le hn.1
            have hsz : (ByteArray.mk s.toArray).size = s.length := by show s.toArray.size = _; simp
            refine (Tryz.strings_Repeat ⟨s.toArray⟩ m w (by omega) (by rw [hsz]; simpa using hn.2.2)).mono ?_
            rintro e w' ⟨rfl, hb⟩
            refine CPost.of_below hm hb ?_
            simp only [Int.toNat_natCast]
            exact .str _
      · cases hr
    · cases hr
  split at hf
  · rename_i hf0; subst hf0
    cases hf
    unfold itoaG at hr
    split at hr
    · rename_i n
      split at hr
      · rename_i hn
        cases hr
        refine ⟨⟨Tryz.f110, by kernel_rfl, by kernel_rfl, by kernel_rfl⟩, fun g w vs hm hx => ?_⟩
        obtain ⟨vs⟩ := vs
        simp only at hx
        cases hx with
        | cons h1 t =>
          cases t
          obtain rfl := h1.int_inv
          refine (Tryz.strconv_Itoa n hn.1 hn.2 w (pow_is hk hm)).mono ?_
          rintro e w' ⟨rfl, k, os, rfl⟩
          exact CPost.of_below hm (Lib.below_grow _ _ (Nat.le_refl _) _ _) (.str _)
      · cases hr
    · cases hr
  split at hf
  · rename_i hf0; subst hf0
    cases hf
    unfold joinG at hr
    split at hr
    · rename_i nl z es sep
      split at hr
      · rename_i hz
        split at hr
        · rename_i l hl
          split at hr
          · rename_i hn
            cases hr
            refine ⟨⟨Tryz.f41, by kernel_rfl, by kernel_rfl, by kernel_rfl⟩, fun g w vs hm hx => ?_⟩
            obtain ⟨vs⟩ := vs
            simp only at hx
            cases hx with
            | cons h1 t => cases t with
              | cons h2 t =>
                cases t
                obtain rfl := h2.str_inv
                exact join_ok hm h1 sep hl hz hn.1 hn.2
          · cases hr
        · cases hr
      · cases hr
    · cases hr
  split at hf
  · rename_i hf0; subst hf0
    cases hf
    unfold findG at hr
    split at hr
    · rename_i s t
      split at hr
      · rename_i hn
        cases hr
        refine ⟨⟨Tryz.f119, by kernel_rfl, by kernel_rfl, by kernel_rfl⟩, fun g w vs hm hx => ?_⟩
        obtain ⟨vs⟩ := vs
        simp only at hx
        cases hx with
        | cons h1 tl => cases tl with
          | cons h2 tl =>
            cases tl
            obtain rfl := h1.str_inv
            obtain rfl := h2.str_inv
            obtain ⟨m, ty, z, hk1⟩ := hk.max
            have hb := (hm.kn _ hk1).1
            have hc : w.cell? ⟨2, 0, none⟩ = some (.int .i64 m) := by simp [World.cell?, hb]
            have hsz : (ByteArray.mk s.toArray).size = s.length := by show s.toArray.size = _; simp
            refine (Tryz.stringslite_Index ⟨s.toArray⟩ ⟨t.toArray⟩ m w (by rw [hsz]; exact hn) hc).mono ?_
            rintro e w' ⟨rfl, rfl⟩
            exact CPost.of_below hm (RowKit.Below.refl _ _) (.int _ _)
      · cases hr
    · cases hr
  split at hf
  · rename_i hf0; subst hf0
    cases hf
    unfold trimG at hr
    split at hr
    · rename_i s cs
      split at hr
      · rename_i hn
        cases hr
        refine ⟨⟨Tryz.f44, by kernel_rfl, by kernel_rfl, by kernel_rfl⟩, fun g w vs hm hx => ?_⟩
        obtain ⟨vs⟩ := vs
        simp only at hx
        cases hx with
        | cons h1 t => cases t with
          | cons h2 t =>
            cases t
            obtain rfl := h1.str_inv
            obtain rfl := h2.str_inv
            have hsz : ∀ l : List UInt8, (ByteArray.mk l.toArray).size = l.length := fun l => by show l.toArray.size = _; simp
            refine (Any.strings_Trim_laid Tryz.lays160 (by kernel_rfl) ⟨s.toArray⟩ ⟨cs.toArray⟩ w (by rw [hsz]; exact hn.1) (by rw [hsz]; exact hn.2.1) (fun j b hj => by
              have := List.all_eq_true.1 hn.2.2 b (List.mem_of_getElem? hj)
              simpa using this)).mono ?_
            rintro e w' ⟨rfl, hb⟩
            exact CPost.of_below hm hb (.str _)
      · cases hr
    · cases hr
  · cases hf
theorem ovbs_ok [Kn] : OvbOk Tryz.prog cfg := fun f G hf => by cases hf
theorem exts_ok [Kn] : ExtOk Tryz.prog cfg := by
  intro f G hf xs r hr g w vs hx
  change exts f = some G at hf
  obtain ⟨vs⟩ := vs
  simp only at hx
  unfold exts at hf
  split at hf
  · rename_i hf0; subst hf0
    cases hf
    unfold indexG at hr
    split at hr
    · cases hr
      cases hx with
      | cons h1 t => cases t with
        | cons h2 t =>
          cases t
          rename_i s c _ _
          obtain rfl := h1.str_inv
          obtain rfl := h2.int_inv
          refine ⟨.int .i64 (Lib.indexByte s c.toNat.toUInt8), ?_, .int _ _⟩
          rw [run_callFunc_extern (P := Tryz.prog) (f := 174) (fn := Tryz.f174) (by kernel_rfl) (by kernel_rfl) (by kernel_rfl) (by kernel_rfl) (e := Extern.BytealgIndexByte.indexByte) (by kernel_rfl)]
          have := Lib.run_indexByteString (P := Tryz.prog) ⟨s.toArray⟩ c w
          rw [this]
          rfl
    · cases hr
  split at hf
  · rename_i hf0; subst hf0
    cases hf
    unfold sameG at hr
    split at hr
    · cases hr
      cases hx with
      | cons h1 t =>
        cases t
        refine ⟨_, ?_, h1⟩
        rw [run_callFunc_extern (P := Tryz.prog) (f := 160) (fn := Tryz.f160) (by kernel_rfl) (by kernel_rfl) (by kernel_rfl) (by kernel_rfl) (e := Extern.AbiNoEscape.same) (by kernel_rfl)]
        rfl
    · cases hr
  split at hf
  · rename_i hf0; subst hf0
    cases hf
    unfold cmpG at hr
    split at hr
    · cases hr
      cases hx with
      | cons h1 t => cases t with
        | cons h2 t =>
          cases t
          rename_i s c _ _
          obtain rfl := h1.str_inv
          obtain rfl := h2.str_inv
          refine ⟨.int .i64 (Lib.compareBytes s c), ?_, .int _ _⟩
          rw [run_callFunc_extern (P := Tryz.prog) (f := 140) (fn := Tryz.f140) (by kernel_rfl) (by kernel_rfl) (by kernel_rfl) (by kernel_rfl) (e := Extern.BytealgCompare.compare) (by kernel_rfl)]
          have := Lib.run_compareString (P := Tryz.prog) ⟨s.toArray⟩ ⟨c.toArray⟩ w
          simp only [Sem.run_bind, this]
          simp
    · cases hr
  · cases hf
theorem cfg_ok [Kn] (hk : Known) : CfgOk cfg Tryz.prog := tablesB_ok (by kernel_rfl) (by kernel_rfl) (ovs_ok hk) ovbs_ok exts_ok
end Go.Proofs.YtlolhkjjbgpfbaaGreatDoor
