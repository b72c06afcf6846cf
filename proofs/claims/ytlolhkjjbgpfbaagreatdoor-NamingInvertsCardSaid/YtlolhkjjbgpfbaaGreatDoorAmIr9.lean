/-
  Rules for 'simp' that ask its discharger (omega) whether a comparison of numbers is true or false; bytes of strings.
-/
import Derived.Test.YtlolhkjjbgpfbaaGreatDoorAmIr8
set_option linter.all false
namespace Go.Am

section
variable {a b : Int}
theorem omLe (h : a ≤ b) : (a ≤ b) = True := eq_true h
theorem omLeN (h : ¬ a ≤ b) : (a ≤ b) = False := eq_false h
theorem omLt (h : a < b) : (a < b) = True := eq_true h
theorem omLtN (h : ¬ a < b) : (a < b) = False := eq_false h
theorem omEq (h : a = b) : (a = b) = True := eq_true h
theorem omEqN (h : ¬ a = b) : (a = b) = False := eq_false h
end
section
variable {a b : Nat}
theorem onLe (h : a ≤ b) : (a ≤ b) = True := eq_true h
theorem onLeN (h : ¬ a ≤ b) : (a ≤ b) = False := eq_false h
theorem onLt (h : a < b) : (a < b) = True := eq_true h
theorem onLtN (h : ¬ a < b) : (a < b) = False := eq_false h
theorem onEq (h : a = b) : (a = b) = True := eq_true h
theorem onEqN (h : ¬ a = b) : (a = b) = False := eq_false h
end

theorem byte_fold (c : UInt8) : AV.int .u8 (c.toNat : Int) = ofByte c := rfl
theorem bytesN_ofByte : ∀ l : List UInt8, bytesN (l.map ofByte) = some l
  | [] => rfl
  | a :: l => by
    have h := a.toNat_lt
    have h2 := bytesN_ofByte l
    simp only [List.map_cons, ofByte, bytesN]
    rw [if_pos (by omega)]
    rw [h2]
    simp

end Go.Am
