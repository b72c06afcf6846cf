/-
 The abstract machine's tables for this program, alone (Seat shows that they are the program's).
-/
import Derived.Test.YtfnkchadeaedlaaGreatDoorAmSeat
import Derived.Test.YtfnkchadeaedlaaGreatDoorProg
import Derived.Lib.Bytealg
import Derived.Test.YtfnkchadeaedlaaGreatDoorStrM
import Derived.Lib.IndexBytes
import Derived.Lib.AppendIntMem
import Derived.Lib.ItoaLen
import Derived.Lib.IndexAny
import Derived.Lib.Fields
set_option linter.all false
set_option linter.all false
namespace Go.Proofs.YtfnkchadeaedlaaGreatDoor
open Go.Am
def rj:List AV→Option AV
 | [.int .i64 n]=>if -9223372036854775808≤n∧n≤9223372036854775807 then some (.str (Lib.itoa n)) else none
 | _=>none
def A5:List AV→Option AV
 | [.str s,.str t]=>if s.length<4294967281 then some (.int .i64 (Lib.index s t)) else none
 | _=>none
def xy:List AV→Option AV
 | [.str s,.int .u8 c]=>some (.int .i64 (Lib.indexByte s c.toNat.toUInt8))
 | _=>none
def xA:List AV→Option AV
 | [.str s,.int .u8 c]=>some (.int .i64 (Lib.countByte s c.toNat.toUInt8))
 | _=>none
def FH:List AV→Option AV
 | [x]=>some x
 | _=>none
def dZ:List AV→List ad→Option (AV×List ad)
 | [.str s],bs=>if s.length<4294967281∧(s.all fun b=>decide (b.toNat<128))=true then
   (match Lib.fields s with
   | []=>some (.bW (some false),bs++ [.var 9 []])
   | x::r=>some (.az bs.length (r.length+1),bs++ [.sl ⟨false,some 9,none⟩ 1 ((x::r).map .str)])) else none
 | _,_=>none
def lK:List AV→Option AV
 | [.str _,.str s,.int .i64 _,.int .i64 _,.kE t .i64 n]=>if s.length≤281474976710656∧t=193∧(n=1∨n=2) then some (.fG true) else none
 | _=>none
def ky (r:Cell×List UInt8):AV:= .agg [.int .i64 r.1.1,.int .i64 r.1.2,.str r.2]
def xu:List AV→Option (List (Cell×List UInt8))
 | []=>some []
 | .agg [.int .i64 a,.int .i64 b,.str s]::r=>match xu r with
  | some l=>some (((a,b),s)::l)
  | none=>none
 | _=>none
theorem xk: ∀l:List (Cell×List UInt8),xu (l.map ky)=some l
 | []=>rfl
 | x::r=>by simp [xu,ky,xk r]
def qi (l:List (Cell×List UInt8)):List (Cell×List UInt8):=l.mergeSort fun x y=> !decide (iW y.1 x.1<0)
def sU:List AV→List ad→Option (AV×List ad)
 | [.az k n,.fn f [] []],bs=>if f=43 then (match ad.at bs k with
  | .sl sh sz es=>match xu es with
   | some l=>if n=l.length∧l≠ []∧l.length<1000000∧sz=3∧sh.out=false∧sh.ty=some 57∧(l.map Prod.fst).Nodup then some (.aI [],bs.set k (.sl ⟨sh.out,sh.ty,none⟩ 3 ((qi l).map ky))) else none
   | none=>none
  | _=>none) else none
 | _,_=>none
def D8 (f:FuncId):Option (List AV→Option AV):=if f=101 then some rj else if f=166 then some A5 else if f=133 then some lK else none
def qq (f:FuncId):Option (List AV→List ad→Option (AV×List ad)):=if f=120 then some dZ else if f=42 then some sU else none
def JB (_f:FuncId):Bool:=decide (_f=36)
def il (_f:FuncId):Bool:=decide (_f=42)
def exts (f:FuncId):Option (List AV→Option AV):=if f=169 then some xy else if f=191 then some FH else if f=124 then some xA else none
noncomputable def cfg:ax:=qb Tryz.prog 9 D8 qq exts JB true il
end Go.Proofs.YtfnkchadeaedlaaGreatDoor
