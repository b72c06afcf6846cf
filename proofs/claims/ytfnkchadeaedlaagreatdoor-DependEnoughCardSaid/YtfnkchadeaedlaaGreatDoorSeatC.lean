/-
 The abstract machine's tables for this program, alone (Seat shows that they are the program's).
-/
import Derived.Test.YtfnkchadeaedlaaGreatDoorAmSeat
import Derived.Test.YtfnkchadeaedlaaGreatDoorProg
import Derived.Lib.Bytealg
import Derived.Test.YtfnkchadeaedlaaGreatDoorStrM
import Derived.Lib.IndexBytes
import Derived.Lib.AppendIntMem
import Derived.Lib.ItoaLen
import Derived.Lib.IndexAny
import Derived.Lib.Fields
set_option linter.all false
set_option linter.all false
namespace Go.Proofs.YtfnkchadeaedlaaGreatDoor
open Go.Am
def itoaG:List AV→Option AV
 | [.int .i64 n]=>if -9223372036854775808≤n∧n≤9223372036854775807 then some (.str (Lib.itoa n)) else none
 | _=>none
def findG:List AV→Option AV
 | [.str s,.str t]=>if s.length<4294967281 then some (.int .i64 (Lib.index s t)) else none
 | _=>none
def indexG:List AV→Option AV
 | [.str s,.int .u8 c]=>some (.int .i64 (Lib.indexByte s c.toNat.toUInt8))
 | _=>none
def countG:List AV→Option AV
 | [.str s,.int .u8 c]=>some (.int .i64 (Lib.countByte s c.toNat.toUInt8))
 | _=>none
def sameG:List AV→Option AV
 | [x]=>some x
 | _=>none
def fieldsG:List AV→List Box→Option (AV×List Box)
 | [.str s],bs=>if s.length<4294967281∧(s.all fun b=>decide (b.toNat<128))=true then
   (match Lib.fields s with
   | []=>some (.cap0 (some false),bs++ [.var 9 []])
   | x::r=>some (.osl bs.length (r.length+1),bs++ [.sl ⟨false,some 9,none⟩ 1 ((x::r).map .str)])) else none
 | _,_=>none
def toErrorG:List AV→Option AV
 | [.str _,.str s,.int .i64 _,.int .i64 _,.ifi t .i64 n]=>if s.length≤281474976710656∧t=193∧(n=1∨n=2) then some (.ifc true) else none
 | _=>none
def rdA (r:Cell×List UInt8):AV:= .agg [.int .i64 r.1.1,.int .i64 r.1.2,.str r.2]
def rdsOf:List AV→Option (List (Cell×List UInt8))
 | []=>some []
 | .agg [.int .i64 a,.int .i64 b,.str s]::r=>match rdsOf r with
  | some l=>some (((a,b),s)::l)
  | none=>none
 | _=>none
theorem rdsOf_map: ∀l:List (Cell×List UInt8),rdsOf (l.map rdA)=some l
 | []=>rfl
 | x::r=>by simp [rdsOf,rdA,rdsOf_map r]
def sortC (l:List (Cell×List UInt8)):List (Cell×List UInt8):=l.mergeSort fun x y=> !decide (cmpC y.1 x.1<0)
def sortRdG:List AV→List Box→Option (AV×List Box)
 | [.osl k n,.fn f [] []],bs=>if f=43 then (match Box.at bs k with
  | .sl sh sz es=>match rdsOf es with
   | some l=>if n=l.length∧l≠ []∧l.length<1000000∧sz=3∧sh.out=false∧sh.ty=some 57∧(l.map Prod.fst).Nodup then some (.tup [],bs.set k (.sl ⟨sh.out,sh.ty,none⟩ 3 ((sortC l).map rdA))) else none
   | none=>none
  | _=>none) else none
 | _,_=>none
def ovs (f:FuncId):Option (List AV→Option AV):=if f=101 then some itoaG else if f=166 then some findG else if f=133 then some toErrorG else none
def ovbs (f:FuncId):Option (List AV→List Box→Option (AV×List Box)):=if f=120 then some fieldsG else if f=42 then some sortRdG else none
def owns (_f:FuncId):Bool:=decide (_f=36)
def muts (_f:FuncId):Bool:=decide (_f=42)
def exts (f:FuncId):Option (List AV→Option AV):=if f=169 then some indexG else if f=191 then some sameG else if f=124 then some countG else none
noncomputable def cfg:Cfg:=tablesB Tryz.prog 9 ovs ovbs exts owns true muts
end Go.Proofs.YtfnkchadeaedlaaGreatDoor
