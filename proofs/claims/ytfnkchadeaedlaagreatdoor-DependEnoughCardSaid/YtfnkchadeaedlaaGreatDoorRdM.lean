/-
 The reference of layer 51: Before, add, find, lines, word. The reference of layer 51: sheet, Value. The reference of layer 51: add, Reads. The reference's Reads. The reference of layer 51: a text with the citations of reads; the sheet with a text. The reference of layer 51: the section from reads.
-/
import Derived.Test.YtfnkchadeaedlaaGreatDoorDpM
import Derived.Test.YtfnkchadeaedlaaGreatDoorAdM
import Derived.Test.YtfnkchadeaedlaaGreatDoorEscM
import Derived.Test.YtfnkchadeaedlaaGreatDoorRfM
import Derived.Test.YtfnkchadeaedlaaGreatDoorDqM
set_option linter.all false
namespace Go.Proofs.YtfnkchadeaedlaaGreatDoor
open Go.Am
set_option maxRecDepth 10000
set_option maxHeartbeats 4000000
set_option maxHeartbeats 8000000
def Lz:List Cell→Cell→Nat
 | [],_=>0
 | y::r,x=>if fc y x=true then Lz r x+1 else 0
theorem IJ (x:Cell): ∀l:List Cell,Lz l x≤l.length
 | []=>Nat.le_refl _
 | y::r=>by
  have:=IJ x r;unfold Lz;split <;> simp only [List.length_cons] <;> omega
theorem ER (x:Cell): ∀l:List Cell,ph l x=if l[Lz l x]?=some x then l else l.take (Lz l x)++x::l.drop (Lz l x)
 | []=>by simp [ph,Lz]
 | y::r=>by
  have ih:=ER x r;unfold ph Lz;by_cases hb:fc y x=true
  ·rw [if_pos hb,if_pos hb,ih];simp only [List.getElem?_cons_succ,List.take_succ_cons,List.drop_succ_cons];split <;> simp
  ·rw [if_neg hb,if_neg hb];by_cases he:y=x
   ·simp [he]
   ·simp [he]
theorem Iz (l:List Cell) (x:Cell):(ph l x).length≤l.length+1:=by
 rw [ER];split
 ·omega
 ·have:=IJ x l;simp only [List.length_append,List.length_take,List.length_cons,List.length_drop];omega
end Go.Proofs.YtfnkchadeaedlaaGreatDoor
