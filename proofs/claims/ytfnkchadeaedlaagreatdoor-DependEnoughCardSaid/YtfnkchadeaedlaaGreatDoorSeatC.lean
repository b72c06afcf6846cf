/-
 The abstract machine's tables for this program, alone (Seat shows that they are the program's).
-/
import Derived.Test.YtfnkchadeaedlaaGreatDoorAmSeat
import Derived.Test.YtfnkchadeaedlaaGreatDoorProg
import Derived.Lib.Bytealg
import Derived.Test.YtfnkchadeaedlaaGreatDoorStrM
import Derived.Lib.IndexBytes
import Derived.Lib.AppendIntMem
import Derived.Lib.ItoaLen
import Derived.Lib.IndexAny
import Derived.Lib.Fields
set_option linter.all false
set_option linter.all false
namespace Go.Proofs.YtfnkchadeaedlaaGreatDoor
open Go.Am
def zr:List AV→Option AV
 | [.int .i64 n]=>if -9223372036854775808≤n∧n≤9223372036854775807 then some (.str (Lib.itoa n)) else none
 | _=>none
def BF:List AV→Option AV
 | [.str s,.str t]=>if s.length<4294967281 then some (.int .i64 (Lib.index s t)) else none
 | _=>none
def x6:List AV→Option AV
 | [.str s,.int .u8 c]=>some (.int .i64 (Lib.indexByte s c.toNat.toUInt8))
 | _=>none
def x9:List AV→Option AV
 | [.str s,.int .u8 c]=>some (.int .i64 (Lib.countByte s c.toNat.toUInt8))
 | _=>none
def GG:List AV→Option AV
 | [x]=>some x
 | _=>none
def ep:List AV→List ab→Option (AV×List ab)
 | [.str s],bs=>if s.length<4294967281∧(s.all fun b=>decide (b.toNat<128))=true then
   (match Lib.fields s with
   | []=>some (.bS (some false),bs++ [.var 9 []])
   | x::r=>some (.az bs.length (r.length+1),bs++ [.sl ⟨false,some 9,none⟩ 1 ((x::r).map .str)])) else none
 | _,_=>none
def l7:List AV→Option AV
 | [.str _,.str s,.int .i64 _,.int .i64 _,.kT t .i64 n]=>if s.length≤281474976710656∧t=193∧(n=1∨n=2) then some (.fq true) else none
 | _=>none
def lM (r:Cell×List UInt8):AV:= .agg [.int .i64 r.1.1,.int .i64 r.1.2,.str r.2]
def x3:List AV→Option (List (Cell×List UInt8))
 | []=>some []
 | .agg [.int .i64 a,.int .i64 b,.str s]::r=>match x3 r with
  | some l=>some (((a,b),s)::l)
  | none=>none
 | _=>none
theorem xO: ∀l:List (Cell×List UInt8),x3 (l.map lM)=some l
 | []=>rfl
 | x::r=>by simp [x3,lM,xO r]
def qJ (l:List (Cell×List UInt8)):List (Cell×List UInt8):=l.mergeSort fun x y=> !decide (jo y.1 x.1<0)
def tL:List AV→List ab→Option (AV×List ab)
 | [.az k n,.fn f [] []],bs=>if f=43 then (match ab.at bs k with
  | .sl sh sz es=>match x3 es with
   | some l=>if n=l.length∧l≠ []∧l.length<1000000∧sz=3∧sh.out=false∧sh.ty=some 57∧(l.map Prod.fst).Nodup then some (.aO [],bs.set k (.sl ⟨sh.out,sh.ty,none⟩ 3 ((qJ l).map lM))) else none
   | none=>none
  | _=>none) else none
 | _,_=>none
def Gs (f:FuncId):Option (List AV→Option AV):=if f=101 then some zr else if f=166 then some BF else if f=133 then some l7 else none
def tc (f:FuncId):Option (List AV→List ab→Option (AV×List ab)):=if f=120 then some ep else if f=42 then some tL else none
def Od (_f:FuncId):Bool:=decide (_f=36)
def jX (_f:FuncId):Bool:=decide (_f=42)
def exts (f:FuncId):Option (List AV→Option AV):=if f=169 then some x6 else if f=191 then some GG else if f=124 then some x9 else none
noncomputable def cfg:ax:=qA Tryz.prog 9 Gs tc exts Od true jX
end Go.Proofs.YtfnkchadeaedlaaGreatDoor
