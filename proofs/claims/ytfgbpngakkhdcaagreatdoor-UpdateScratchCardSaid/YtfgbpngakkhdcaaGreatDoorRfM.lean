/- The reference's Check, part by part: -/
import Derived.Test.YtfgbpngakkhdcaaGreatDoorDqM
set_option linter.all false
namespace Go.Proofs.YtfgbpngakkhdcaaGreatDoor
open Go.Am
set_option maxRecDepth 10000
set_option maxHeartbeats 4000000
theorem LR (p:Nat->Bool): ∀n,zw p n<=n
 | 0=>Nat.le_refl _
 | n+1=>by
  have:=LR p n;rw [zw];split <;> omega
set_option maxHeartbeats 8000000
set_option maxHeartbeats 4000000
set_option maxHeartbeats 8000000
def P6:List Cell->Cell->Nat
 | [],_=>0
 | y::r,x=>if fY y x=true then P6 r x+1 else 0
theorem L9 (x:Cell): ∀l:List Cell,P6 l x<=l.length
 | []=>Nat.le_refl _
 | y::r=>by
  have:=L9 x r;unfold P6;split <;> simp only [List.length_cons] <;> omega
theorem HG (x:Cell): ∀l:List Cell,lp l x=if l[P6 l x]?=some x then l else l.take (P6 l x)++x::l.drop (P6 l x)
 | []=>by simp [lp,P6]
 | y::r=>by
  have ih:=HG x r;unfold lp P6;by_cases hb:fY y x=true
  ·rw [if_pos hb,if_pos hb,ih];simp only [List.getElem?_cons_succ,List.take_succ_cons,List.drop_succ_cons];split <;> simp
  ·rw [if_neg hb,if_neg hb];by_cases he:y=x
   ·simp [he]
   ·simp [he]
theorem LP (l:List Cell) (x:Cell):(lp l x).length<=l.length+1:=by
 rw [HG];split
 ·omega
 ·have:=L9 x l;simp only [List.length_append,List.length_take,List.length_cons,List.length_drop];omega
end Go.Proofs.YtfgbpngakkhdcaaGreatDoor
