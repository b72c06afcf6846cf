/-
 The reference of layer 51: Before, add, find, lines, word. The reference of layer 51: sheet, Value. The reference of layer 51: add, Reads. The reference's Reads. The reference of layer 51: a text with the citations of reads; the sheet with a text. The reference of layer 51: the section from reads.
-/
import Derived.Test.YtfnkchadeaedlaaGreatDoorDpM
import Derived.Test.YtfnkchadeaedlaaGreatDoorAdM
import Derived.Test.YtfnkchadeaedlaaGreatDoorEscM
import Derived.Test.YtfnkchadeaedlaaGreatDoorRfM
import Derived.Test.YtfnkchadeaedlaaGreatDoorDqM
set_option linter.all false
namespace Go.Proofs.YtfnkchadeaedlaaGreatDoor
open Go.Am
set_option maxRecDepth 10000
set_option maxHeartbeats 4000000
set_option maxHeartbeats 8000000
def atC:List Cell→Cell→Nat
 | [],_=>0
 | y::r,x=>if befC y x=true then atC r x+1 else 0
theorem atC_le (x:Cell): ∀l:List Cell,atC l x≤l.length
 | []=>Nat.le_refl _
 | y::r=>by
  have:=atC_le x r
  unfold atC
  split <;> simp only [List.length_cons] <;> omega
theorem addC_at (x:Cell): ∀l:List Cell,addC l x=if l[atC l x]?=some x then l else l.take (atC l x)++x::l.drop (atC l x)
 | []=>by simp [addC,atC]
 | y::r=>by
  have ih:=addC_at x r
  unfold addC atC
  by_cases hb:befC y x=true
  ·rw [if_pos hb,if_pos hb,ih]
   simp only [List.getElem?_cons_succ,List.take_succ_cons,List.drop_succ_cons]
   split <;> simp
  ·rw [if_neg hb,if_neg hb]
   by_cases he:y=x
   ·simp [he]
   ·simp [he]
theorem addC_len (l:List Cell) (x:Cell):(addC l x).length≤l.length+1:=by
 rw [addC_at]
 split
 ·omega
 ·have:=atC_le x l
  simp only [List.length_append,List.length_take,List.length_cons,List.length_drop];omega
end Go.Proofs.YtfnkchadeaedlaaGreatDoor
