/-
  The examples of the chapter and strings.ContainsRune among letters and digits, evaluated by the kernel.
-/
import Derived.Test.YtlolhkjjbgpfbaaGreatDoorNmEv
import Derived.Test.YtlolhkjjbgpfbaaGreatDoorWordM
set_option linter.all false
namespace Go.Proofs.YtlolhkjjbgpfbaaGreatDoor
open Go.Am
set_option maxRecDepth 100000
set_option maxHeartbeats 4000000
theorem awake : ansF cfg 11 [] [] = some (.bool true, []) := ans_of_run (n := 1000) evT_ok (by kernel_rfl)
def runeS : Str := [97, 98, 99, 100, 101, 102, 103, 104, 105, 106, 107, 108, 109, 110, 111, 112, 113, 114, 115, 116, 117, 118, 119, 120, 121, 122, 65, 66, 67, 68, 69, 70, 71, 72, 73, 74, 75, 76, 77, 78, 79, 80, 81, 82, 83, 84, 85, 86, 87, 88, 89, 90, 48, 49, 50, 51, 52, 53, 54, 55, 56, 57]
noncomputable def runeOk (r : Nat) : Bool := match callT cfg evT (execT cfg evT 1000) (.fn 45) [.str runeS, .int .i32 (r : Int)] [] with
  | some (.bool b, []) => b == partB (UInt8.ofNat r)
  | _ => false
theorem runeAll : ((List.range 256).all runeOk) = true := by kernel_rfl
theorem ansRune (c : UInt8) : ansF cfg 45 [.str runeS, .int .i32 (c.toNat : Int)] [] = some (.bool (partB c), []) := by
  have h := List.all_eq_true.1 runeAll c.toNat (List.mem_range.2 c.toNat_lt)
  unfold runeOk at h
  split at h
  · rename_i b hb
    have := eq_of_beq h
    rw [UInt8.ofNat_toNat] at this
    subst this
    exact ans_of_run evT_ok hb
  · cases h
end Go.Proofs.YtlolhkjjbgpfbaaGreatDoor
