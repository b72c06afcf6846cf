/-
  Numbers, words and lists of the machine.
-/
import Derived.Test.YtlolhkjjbgpfbaaGreatDoorAmIr7
set_option linter.all false
namespace Go.Am

theorem wrap_i64 {x : Int} (h1 : -9223372036854775808 ≤ x) (h2 : x < 9223372036854775808) : IntKind.i64.wrap x = x := by
  have e : IntKind.i64.wrap x = if x % 18446744073709551616 ≥ 9223372036854775808 then x % 18446744073709551616 - 18446744073709551616 else x % 18446744073709551616 := by
    simp [IntKind.wrap, IntKind.bits, IntKind.signed]
  rw [e]; split <;> omega
theorem wrap_u8 {x : Int} (h1 : 0 ≤ x) (h2 : x < 256) : IntKind.u8.wrap x = x := by
  simp only [IntKind.wrap, IntKind.bits, IntKind.signed, Bool.false_and]
  rw [if_neg (by simp)]; omega
theorem wrap_u64 {x : Int} (h1 : 0 ≤ x) (h2 : x < 18446744073709551616) : IntKind.u64.wrap x = x := by
  simp only [IntKind.wrap, IntKind.bits, IntKind.signed, Bool.false_and]
  rw [if_neg (by simp)]; omega
theorem wrap_u32 {x : Int} (h1 : 0 ≤ x) (h2 : x < 4294967296) : IntKind.u32.wrap x = x := by
  simp only [IntKind.wrap, IntKind.bits, IntKind.signed, Bool.false_and]
  rw [if_neg (by simp)]; omega
theorem wrap_i32 {x : Int} (h1 : -2147483648 ≤ x) (h2 : x < 2147483648) : IntKind.i32.wrap x = x := by
  have e : IntKind.i32.wrap x = if x % 4294967296 ≥ 2147483648 then x % 4294967296 - 4294967296 else x % 4294967296 := by
    simp [IntKind.wrap, IntKind.bits, IntKind.signed]
  rw [e]; split <;> omega

theorem tmod_nat (i n : Nat) : Int.tmod (i : Int) (n : Int) = ((i % n : Nat) : Int) := (Int.ofNat_tmod i n).symm
theorem tdiv_nat (i n : Nat) : Int.tdiv (i : Int) (n : Int) = ((i / n : Nat) : Int) := (Int.ofNat_tdiv i n).symm
@[simp] theorem tmod_lit (i n : Nat) : Int.tmod (i : Int) (no_index (OfNat.ofNat n) : Int) = ((i % n : Nat) : Int) := (Int.ofNat_tmod i n).symm
@[simp] theorem tdiv_lit (i n : Nat) : Int.tdiv (i : Int) (no_index (OfNat.ofNat n) : Int) = ((i / n : Nat) : Int) := (Int.ofNat_tdiv i n).symm

@[simp] theorem emod_ge (i n : Nat) : 0 ≤ (i : Int) % (no_index (OfNat.ofNat n) : Int) := Int.natCast_nonneg (i % n)
@[simp] theorem emod_lt (i n : Nat) : (i : Int) % (no_index (OfNat.ofNat (n + 1)) : Int) < (no_index (OfNat.ofNat (n + 1)) : Int) := by
  have h : ((i % (n + 1) : Nat) : Int) < ((n + 1 : Nat) : Int) := Int.ofNat_lt.2 (Nat.mod_lt i (Nat.succ_pos n))
  exact h
@[simp] theorem toNat_emod (i n : Nat) : ((i : Int) % (no_index (OfNat.ofNat n) : Int)).toNat = i % n := Int.toNat_natCast (i % n)
@[simp] theorem ediv_ge (i n : Nat) : 0 ≤ (i : Int) / (no_index (OfNat.ofNat n) : Int) := Int.natCast_nonneg (i / n)
@[simp] theorem toNat_ediv (i n : Nat) : ((i : Int) / (no_index (OfNat.ofNat n) : Int)).toNat = i / n := Int.toNat_natCast (i / n)

theorem splice_one {cs : List AV} {k : Nat} {v : AV} (h : k < cs.length) : splice cs k [v] = cs.set k v := by
  unfold splice
  simp only [List.length_singleton]
  induction cs generalizing k with
  | nil => simp at h
  | cons a l ih =>
    cases k with
    | zero => simp
    | succ k =>
      simp only [List.take_succ_cons, List.drop_succ_cons, List.cons_append, List.set_cons_succ]
      rw [ih (by simpa using h)]

theorem splice_all {cs v : List AV} (h : v.length = cs.length) : splice cs 0 v = v := by
  unfold splice; simp [h]

theorem le_strLim {n : Nat} (h : n ≤ 1000000000000) : n ≤ strLim := by unfold strLim; omega
theorem le_sliceLim {n : Nat} (h : n ≤ 1000000000000) : n ≤ sliceLim := by unfold sliceLim; omega
theorem le_buildLim {n : Nat} (h : n ≤ 10000000) : n ≤ buildLim := by unfold buildLim; omega
theorem le_sliceLimI {n : Int} (h : n ≤ 1000000000000) : n ≤ (sliceLim : Int) := by unfold sliceLim; omega

/-! ### Boxes behind others -/

section
variable (bs l : List Box) (j : Nat) (x : Box)
theorem at_app_l {k : Nat} (h : k < bs.length) : Box.at (bs ++ l) k = Box.at bs k := by
  simp only [Box.at, List.getD_eq_getElem?_getD, List.getElem?_append_left h]
@[simp] theorem at_app_r : Box.at (bs ++ l) (bs.length + j) = Box.at l j := by
  simp only [Box.at, List.getD_eq_getElem?_getD, List.getElem?_append_right (Nat.le_add_right _ _), Nat.add_sub_cancel_left]
@[simp] theorem at_app_r0 : Box.at (bs ++ l) bs.length = Box.at l 0 := at_app_r bs l 0
@[simp] theorem get_app_r : (bs ++ l)[bs.length + j]? = l[j]? := by
  rw [List.getElem?_append_right (Nat.le_add_right _ _), Nat.add_sub_cancel_left]
@[simp] theorem get_app_r0 : (bs ++ l)[bs.length]? = l[0]? := get_app_r bs l 0
@[simp] theorem set_app_r : (bs ++ l).set (bs.length + j) x = bs ++ l.set j x := by
  rw [List.set_append_right _ _ (Nat.le_add_right _ _), Nat.add_sub_cancel_left]
@[simp] theorem set_app_r0 : (bs ++ l).set bs.length x = bs ++ l.set 0 x := set_app_r bs l 0 x
end

/-- boxes that lead into the first m alone -/
def shut (m : Nat) : List Box → Bool
  | [] => true
  | .var _ cs :: r => underAll m cs && shut m r
  | _ :: r => shut m r

mutual
theorem under_le {m n : Nat} (h : m ≤ n) : ∀ (v : AV), v.under m = true → v.under n = true
  | .ptr k _, hu => by simp only [AV.under, decide_eq_true_eq] at hu ⊢; omega
  | .sptr k _ _ _, hu => by simp only [AV.under, decide_eq_true_eq] at hu ⊢; omega
  | .osl k _, hu => by simp only [AV.under, decide_eq_true_eq] at hu ⊢; omega
  | .osv k _ _ _, hu => by simp only [AV.under, decide_eq_true_eq] at hu ⊢; omega
  | .mapv k, hu => by simp only [AV.under, decide_eq_true_eq] at hu ⊢; omega
  | .itv k, hu => by simp only [AV.under, decide_eq_true_eq] at hu ⊢; omega
  | .nilm, _ => rfl
  | .agg cs, hu => by simp only [AV.under] at hu ⊢; exact underAll_le h cs hu
  | .tup cs, hu => by simp only [AV.under] at hu ⊢; exact underAll_le h cs hu
  | .fn f a b, hu => by
    simp only [AV.under, Bool.and_eq_true] at hu ⊢
    exact ⟨underAll_le h a hu.1, underAll_le h b hu.2⟩
  | .any, _ => rfl
  | .unk, _ => rfl
  | .int _ _, _ => rfl
  | .bool _, _ => rfl
  | .str _, _ => rfl
  | .nilp, _ => rfl
  | .eptr _, _ => rfl
  | .lst _ _ _, _ => rfl
  | .cap0 _, _ => rfl
  | .nilf, _ => rfl
  | .ifc _, _ => rfl
  | .yld k _ env, hu => by
    simp only [AV.under, Bool.and_eq_true, decide_eq_true_eq] at hu ⊢
    exact ⟨by omega, underAll_le h env hu.2⟩
theorem underAll_le {m n : Nat} (h : m ≤ n) : ∀ (l : List AV), underAll m l = true → underAll n l = true
  | [], _ => rfl
  | v :: r, hu => by
    simp only [underAll, Bool.and_eq_true] at hu ⊢
    exact ⟨under_le h v hu.1, underAll_le h r hu.2⟩
end

theorem forget_under {n : Nat} : ∀ {l : List AV}, underAll n l = true → l.map (forget n) = l
  | [], _ => rfl
  | v :: r, h => by
    simp only [underAll, Bool.and_eq_true] at h
    simp only [List.map_cons, forget, h.1, forget_under h.2]

theorem shut_map {m n : Nat} (hn : m ≤ n) : ∀ {bs : List Box}, shut m bs = true → bs.map (forgetBox n) = bs
  | [], _ => rfl
  | .var ty cs :: r, h => by
    simp only [shut, Bool.and_eq_true] at h
    simp only [List.map_cons, forgetBox, forget_under (underAll_le hn cs h.1), shut_map hn h.2]
  | .sl sh sz es :: r, h => by simp only [List.map_cons, forgetBox, shut_map hn (by simpa [shut] using h)]
  | .dead :: r, h => by simp only [List.map_cons, forgetBox, shut_map hn (by simpa [shut] using h)]
  | .loop st :: r, h => by simp only [List.map_cons, forgetBox, shut_map hn (by simpa [shut] using h)]
  | .mp es clock :: r, h => by simp only [List.map_cons, forgetBox, shut_map hn (by simpa [shut] using h)]
  | .gone :: r, h => by simp only [List.map_cons, forgetBox, shut_map hn (by simpa [shut] using h)]
  | .iter s pos :: r, h => by simp only [List.map_cons, forgetBox, shut_map hn (by simpa [shut] using h)]

/-! ### Words of 64 bits -/

def w64 (x : BitVec 64) : AV := .int .u64 (x.toNat : Int)

theorem w64_lt (x : BitVec 64) : (x.toNat : Int) < 18446744073709551616 := by have := x.isLt; omega
theorem wrap_w64 (x : BitVec 64) : IntKind.u64.wrap (x.toNat : Int) = (x.toNat : Int) := wrap_u64 (Int.natCast_nonneg _) (w64_lt x)
theorem ofInt_w64 (x : BitVec 64) : BitVec.ofInt 64 (x.toNat : Int) = x := by simp

section
variable (c : Cfg) (ty : TypeId) (x y : BitVec 64)
@[simp] theorem w64_xor : binA c ty .xor (w64 x) (w64 y) = some (w64 (x ^^^ y)) := by
  show some (AV.int .u64 (IntKind.u64.wrap ((BitVec.ofInt 64 (x.toNat : Int) ^^^ BitVec.ofInt 64 (y.toNat : Int)).toNat : Int))) = _
  rw [ofInt_w64, ofInt_w64, wrap_w64]; rfl
@[simp] theorem w64_and : binA c ty .and (w64 x) (w64 y) = some (w64 (x &&& y)) := by
  show some (AV.int .u64 (IntKind.u64.wrap ((BitVec.ofInt 64 (x.toNat : Int) &&& BitVec.ofInt 64 (y.toNat : Int)).toNat : Int))) = _
  rw [ofInt_w64, ofInt_w64, wrap_w64]; rfl
@[simp] theorem w64_or : binA c ty .or (w64 x) (w64 y) = some (w64 (x ||| y)) := by
  show some (AV.int .u64 (IntKind.u64.wrap ((BitVec.ofInt 64 (x.toNat : Int) ||| BitVec.ofInt 64 (y.toNat : Int)).toNat : Int))) = _
  rw [ofInt_w64, ofInt_w64, wrap_w64]; rfl
@[simp] theorem w64_not : unA .xor (w64 x) = some (w64 (~~~ x)) := by
  have h : BitVec.ofInt 64 (18446744073709551615 : Int) = BitVec.allOnes 64 := by decide
  show some (AV.int .u64 (IntKind.u64.wrap ((BitVec.ofInt 64 (18446744073709551615 : Int) ^^^ BitVec.ofInt 64 (x.toNat : Int)).toNat : Int))) = _
  rw [h, ofInt_w64, BitVec.allOnes_xor, wrap_w64]; rfl
theorem w64_shl {k : IntKind} {n : Nat} (hn : n ≤ 64) : binA c ty .shl (w64 x) (.int k (n : Int)) = some (w64 (x <<< n)) := by
  simp only [w64, binA, shiftOp, IntKind.bits, Int.toNat_natCast]
  rw [if_neg (by omega), Nat.min_eq_left hn]
  congr 2
  simp only [IntKind.wrap, IntKind.bits, IntKind.signed, Bool.false_and, Bool.false_eq_true, if_false, BitVec.toNat_shiftLeft, Nat.shiftLeft_eq]
  norm_cast
theorem w64_shr {k : IntKind} {n : Nat} (hn : n ≤ 64) : binA c ty .shr (w64 x) (.int k (n : Int)) = some (w64 (x >>> n)) := by
  simp only [w64, binA, shiftOp, IntKind.bits, Int.toNat_natCast]
  rw [if_neg (by omega), Nat.min_eq_left hn]
  congr 2
  simp only [BitVec.toNat_ushiftRight, Nat.shiftRight_eq_div_pow]
  rw [Int.fdiv_eq_ediv_of_nonneg _ (by have : (0 : Int) < 2 ^ n := Int.pow_pos (by decide)
                                       omega)]
  norm_cast
@[simp] theorem w64_plain : (w64 x).plain = true := rfl
@[simp] theorem w64_flat : (w64 x).flat = true := rfl
@[simp] theorem w64_isCell : (w64 x).isCell = true := rfl
@[simp] theorem w64_cells : (w64 x).cells = [w64 x] := rfl
@[simp] theorem w64_under (n : Nat) : (w64 x).under n = true := rfl
@[simp] theorem w64_hand (n : Nat) (bs : List Box) : (w64 x).hand n bs = some (w64 x) := rfl
@[simp] theorem w64_lend (bs : List Box) : lend bs (w64 x) = some (w64 x) := rfl
end

/-! ### Lists of values -/

section
variable {α : Type} {f : α → AV}
theorem plainAll_map (h : ∀ x, (f x).plain = true) : ∀ l : List α, plainAll (l.map f) = true
  | [] => rfl
  | a :: l => by simp only [List.map_cons, plainAll, h, plainAll_map h l, Bool.and_self]
theorem flatAll_map (h : ∀ x, (f x).flat = true) : ∀ l : List α, flatAll (l.map f) = true
  | [] => rfl
  | a :: l => by simp only [List.map_cons, flatAll, h, flatAll_map h l, Bool.and_self]
theorem underAll_map {n : Nat} (h : ∀ x, (f x).under n = true) : ∀ l : List α, underAll n (l.map f) = true
  | [] => rfl
  | a :: l => by simp only [List.map_cons, underAll, h, underAll_map h l, Bool.and_self]
theorem cellsOk_map (h : ∀ x, (f x).isCell = true) : ∀ l : List α, cellsOk (l.map f) = true
  | [] => rfl
  | a :: l => by simp only [List.map_cons, cellsOk, h, cellsOk_map h l, Bool.and_self]
theorem handAll_map {n : Nat} {bs : List Box} (h : ∀ x, (f x).hand n bs = some (f x)) : ∀ l : List α, handAll n bs (l.map f) = some (l.map f)
  | [] => rfl
  | a :: l => by simp only [List.map_cons, handAll, h, handAll_map h l]
theorem forget_map {n : Nat} (h : ∀ x, (f x).under n = true) : ∀ l : List α, (l.map f).map (forget n) = l.map f
  | [] => rfl
  | a :: l => by simp only [List.map_cons, forget, h]; rw [forget_map h l]
end
section
variable (l : List (BitVec 64))
@[simp] theorem plainAll_w64 : plainAll (l.map w64) = true := plainAll_map w64_plain l
@[simp] theorem flatAll_w64 : flatAll (l.map w64) = true := flatAll_map w64_flat l
@[simp] theorem underAll_w64 (n : Nat) : underAll n (l.map w64) = true := underAll_map (fun x => w64_under x n) l
@[simp] theorem cellsOk_w64 : cellsOk (l.map w64) = true := cellsOk_map w64_isCell l
@[simp] theorem handAll_w64 (n : Nat) (bs : List Box) : handAll n bs (l.map w64) = some (l.map w64) := handAll_map (fun x => w64_hand x n bs) l
@[simp] theorem forget_w64 (n : Nat) : (l.map w64).map (forget n) = l.map w64 := forget_map (fun x => w64_under x n) l
end

@[simp] theorem forget_comp_w64 (n : Nat) : forget n ∘ w64 = w64 := rfl
theorem get_w64 {a : List (BitVec 64)} {i : Nat} (h : i < a.length) : a[i]? = some (a.getD i 0#64) := by
  simp [List.getD_eq_getElem?_getD, List.getElem?_eq_getElem h]
theorem splice_w64 {a : List (BitVec 64)} {i : Nat} {x : BitVec 64} (h : i < a.length) : splice (a.map w64) i [w64 x] = (a.set i x).map w64 := by
  rw [splice_one (by simpa using h), List.map_set]
theorem take_eq {α : Type} {l : List α} {n : Nat} (h : l.length = n) : l.take n = l := by subst h; simp

theorem take_w64 {a : List (BitVec 64)} {n : Nat} (h : a.length = n) : (a.map w64).take n = a.map w64 := take_eq (by simpa using h)

/-! ### Bytes -/
section
variable (c : Cfg) (ty : TypeId) (x y : UInt8)
@[simp] theorem ofByte_plain : (ofByte x).plain = true := rfl
@[simp] theorem ofByte_flat : (ofByte x).flat = true := rfl
@[simp] theorem ofByte_isCell : (ofByte x).isCell = true := rfl
@[simp] theorem ofByte_cells : (ofByte x).cells = [ofByte x] := rfl
@[simp] theorem ofByte_under (n : Nat) : (ofByte x).under n = true := rfl
@[simp] theorem ofByte_hand (n : Nat) (bs : List Box) : (ofByte x).hand n bs = some (ofByte x) := rfl
@[simp] theorem ofByte_lend (bs : List Box) : lend bs (ofByte x) = some (ofByte x) := rfl
@[simp] theorem byteOf_ofByte : byteOf (ofByte x) = some x := by
  simp [ofByte, byteOf]
@[simp] theorem storeElem_ofByte : storeElem (ofByte x) 0 [ofByte y] = some (ofByte y) := rfl
theorem ofByte_or (n : Nat) (_hn : n < 256) : binA c ty .or (ofByte x) (.int .u8 (n : Int)) = some (ofByte (x ||| UInt8.ofNat n)) := by
  show some (AV.int .u8 (IntKind.u8.wrap ((BitVec.ofInt 8 (x.toNat : Int) ||| BitVec.ofInt 8 (n : Int)).toNat : Int))) = _
  have h1 : BitVec.ofInt 8 (x.toNat : Int) = x.toBitVec := by
    apply BitVec.eq_of_toNat_eq
    simp
  have h2 : BitVec.ofInt 8 (n : Int) = (UInt8.ofNat n).toBitVec := by
    apply BitVec.eq_of_toNat_eq
    simp
  rw [h1, h2, ← UInt8.toBitVec_or]
  have h3 := UInt8.toNat_lt (x ||| UInt8.ofNat n)
  rw [show ((x ||| UInt8.ofNat n).toBitVec.toNat) = (x ||| UInt8.ofNat n).toNat from rfl, wrap_u8 (by omega) (by omega)]
  rfl
end
section
variable (l : List UInt8)
@[simp] theorem plainAll_ofByte : plainAll (l.map ofByte) = true := plainAll_map ofByte_plain l
@[simp] theorem flatAll_ofByte : flatAll (l.map ofByte) = true := flatAll_map ofByte_flat l
@[simp] theorem cellsOk_ofByte : cellsOk (l.map ofByte) = true := cellsOk_map ofByte_isCell l
@[simp] theorem forget_ofByte (n : Nat) : (l.map ofByte).map (forget n) = l.map ofByte := forget_map (fun x => ofByte_under x n) l
@[simp] theorem bytesOf_ofByte : bytesOf (l.map ofByte) = some l := by
  induction l with
  | nil => rfl
  | cons a l ih => simp only [List.map_cons, bytesOf, byteOf_ofByte, ih]
theorem get_str {d : List UInt8} {i : Nat} (h : i < d.length) : d[i]? = some (d.getD i 0) := by
  simp [List.getD_eq_getElem?_getD, List.getElem?_eq_getElem h]
theorem set_ofByte (i : Nat) (x : UInt8) : (l.map ofByte).set i (ofByte x) = (l.set i x).map ofByte := by rw [List.map_set]
end

/-- small numbers -/
def i64n (n : Nat) : AV := .int .i64 (n : Int)
section
variable (x : Nat)
@[simp] theorem i64n_plain : (i64n x).plain = true := rfl
@[simp] theorem i64n_flat : (i64n x).flat = true := rfl
@[simp] theorem i64n_isCell : (i64n x).isCell = true := rfl
@[simp] theorem i64n_cells : (i64n x).cells = [i64n x] := rfl
@[simp] theorem i64n_under (n : Nat) : (i64n x).under n = true := rfl
@[simp] theorem i64n_hand (n : Nat) (bs : List Box) : (i64n x).hand n bs = some (i64n x) := rfl
@[simp] theorem i64n_lend (bs : List Box) : lend bs (i64n x) = some (i64n x) := rfl
end
section
variable (l : List Nat)
@[simp] theorem plainAll_i64n : plainAll (l.map i64n) = true := plainAll_map (fun _ => rfl) l
@[simp] theorem flatAll_i64n : flatAll (l.map i64n) = true := flatAll_map (fun _ => rfl) l
@[simp] theorem underAll_i64n (n : Nat) : underAll n (l.map i64n) = true := underAll_map (fun _ => rfl) l
@[simp] theorem cellsOk_i64n : cellsOk (l.map i64n) = true := cellsOk_map (fun _ => rfl) l
@[simp] theorem handAll_i64n (n : Nat) (bs : List Box) : handAll n bs (l.map i64n) = some (l.map i64n) := handAll_map (fun _ => rfl) l
@[simp] theorem forget_i64n (n : Nat) : (l.map i64n).map (forget n) = l.map i64n := forget_map (fun _ => rfl) l
end

end Go.Am
