/-
 The abstract machine's tables for this program, alone (Seat shows that they are the program's).
-/
import Derived.Test.YtfnkchadeaedlaaGreatDoorAmSeat
import Derived.Test.YtfnkchadeaedlaaGreatDoorProg
import Derived.Lib.Bytealg
import Derived.Test.YtfnkchadeaedlaaGreatDoorStrM
import Derived.Lib.IndexBytes
import Derived.Lib.AppendIntMem
import Derived.Lib.ItoaLen
import Derived.Lib.IndexAny
import Derived.Lib.Fields
set_option linter.all false
set_option linter.all false
namespace Go.Proofs.YtfnkchadeaedlaaGreatDoor
open Go.Am
def sB:List AV→Option AV
 | [.int .i64 n]=>if -9223372036854775808≤n∧n≤9223372036854775807 then some (.str (Lib.itoa n)) else none
 | _=>none
def Ce:List AV→Option AV
 | [.str s,.str t]=>if s.length<4294967281 then some (.int .i64 (Lib.index s t)) else none
 | _=>none
def yB:List AV→Option AV
 | [.str s,.int .u8 c]=>some (.int .i64 (Lib.indexByte s c.toNat.toUInt8))
 | _=>none
def yD:List AV→Option AV
 | [.str s,.int .u8 c]=>some (.int .i64 (Lib.countByte s c.toNat.toUInt8))
 | _=>none
def Ho:List AV→Option AV
 | [x]=>some x
 | _=>none
def eD:List AV→List ad→Option (AV×List ad)
 | [.str s],bs=>if s.length<4294967281∧(s.all fun b=>decide (b.toNat<128))=true then
   (match Lib.fields s with
   | []=>some (.b8 (some false),bs++ [.var 9 []])
   | x::r=>some (.ay bs.length (r.length+1),bs++ [.sl ⟨false,some 9,none⟩ 1 ((x::r).map .str)])) else none
 | _,_=>none
def mh:List AV→Option AV
 | [.str _,.str s,.int .i64 _,.int .i64 _,.lh t .i64 n]=>if s.length≤281474976710656∧t=193∧(n=1∨n=2) then some (.gj true) else none
 | _=>none
def kr (r:Cell×List UInt8):AV:= .agg [.int .i64 r.1.1,.int .i64 r.1.2,.str r.2]
def yx:List AV→Option (List (Cell×List UInt8))
 | []=>some []
 | .agg [.int .i64 a,.int .i64 b,.str s]::r=>match yx r with
  | some l=>some (((a,b),s)::l)
  | none=>none
 | _=>none
theorem ym: ∀l:List (Cell×List UInt8),yx (l.map kr)=some l
 | []=>rfl
 | x::r=>by simp [yx,kr,ym r]
def qU (l:List (Cell×List UInt8)):List (Cell×List UInt8):=l.mergeSort fun x y=> !decide (js y.1 x.1<0)
def ud:List AV→List ad→Option (AV×List ad)
 | [.ay k n,.fn f [] []],bs=>if f=43 then (match ad.at bs k with
  | .sl sh sz es=>match yx es with
   | some l=>if n=l.length∧l≠ []∧l.length<1000000∧sz=3∧sh.out=false∧sh.ty=some 57∧(l.map Prod.fst).Nodup then some (.aT [],bs.set k (.sl ⟨sh.out,sh.ty,none⟩ 3 ((qU l).map kr))) else none
   | none=>none
  | _=>none) else none
 | _,_=>none
def FC (f:FuncId):Option (List AV→Option AV):=if f=101 then some sB else if f=166 then some Ce else if f=133 then some mh else none
def re (f:FuncId):Option (List AV→List ad→Option (AV×List ad)):=if f=120 then some eD else if f=42 then some ud else none
def LM (_f:FuncId):Bool:=decide (_f=36)
def iV (_f:FuncId):Bool:=decide (_f=42)
def exts (f:FuncId):Option (List AV→Option AV):=if f=169 then some yB else if f=191 then some Ho else if f=124 then some yD else none
noncomputable def cfg:ax:=qM Tryz.prog 9 FC re exts LM true iV
end Go.Proofs.YtfnkchadeaedlaaGreatDoor
