/- The abstract machine's tables for this program, alone (Seat shows that they are the .. -/
import Derived.Test.YtnlndhjfmghajaaGreatDoorAmSeat
import Derived.Test.YtnlndhjfmghajaaGreatDoorProg
import Derived.Lib.Join
import Derived.Lib.IndexBytes
import Derived.Lib.AppendIntMem
import Derived.Lib.ItoaLen
import Derived.Lib.IndexAny
set_option linter.all false
set_option linter.all false
namespace Go.Proofs.YtnlndhjfmghajaaGreatDoor
open Go.Am
def itoaG:List AV→Option AV
 | [.int .i64 n]=>if -9223372036854775808≤n∧n≤9223372036854775807 then some (.str (Lib.itoa n)) else none
 | _=>none
def strsOf:List AV→Option (List (List UInt8))
 | []=>some []
 | .str s::r=>match strsOf r with
  | some l=>some (s::l)
  | none=>none
 | _::_=>none
def joinG:List AV→Option AV
 | [.lst _ z es,.str sep]=>if z=1∨es= [] then (match strsOf es with
  | some l=>if l.length≤140737488355328∧(Lib.join l sep).length≤140737488355328 then some (.str (Lib.join l sep)) else none
  | none=>none) else none
 | _=>none
def findG:List AV→Option AV
 | [.str s,.str t]=>if s.length<4294967281 then some (.int .i64 (Lib.index s t)) else none
 | _=>none
def indexG:List AV→Option AV
 | [.str s,.int .u8 c]=>some (.int .i64 (Lib.indexByte s c.toNat.toUInt8))
 | _=>none
def countG:List AV→Option AV
 | [.str s,.int .u8 c]=>some (.int .i64 (Lib.countByte s c.toNat.toUInt8))
 | _=>none
def cmpG:List AV→Option AV
 | [.str a,.str b]=>some (.int .i64 (Lib.compareBytes a b))
 | _=>none
def sameG:List AV→Option AV
 | [x]=>some x
 | _=>none
def toErrorG:List AV→Option AV
 | [.str _,.str s,.int .i64 _,.int .i64 _,.ifi t .i64 n]=>if s.length≤281474976710656∧t=212∧(n=1∨n=2) then some (.ifc true) else none
 | _=>none
def ovs (f:FuncId):Option (List AV→Option AV):=if f=116 then some itoaG else if f=48 then some joinG else if f=124 then some findG else if f=189 then some toErrorG else none
def ovbs (_f:FuncId):Option (List AV→List Box→Option (AV×List Box)):=none
def owns (_f:FuncId):Bool:=false
def muts (_f:FuncId):Bool:=decide (_f=98∨_f=134∨_f=161)
def exts (f:FuncId):Option (List AV→Option AV):=if f=176 then some indexG else if f=156 then some sameG else if f=149 then some countG else none
noncomputable def cfg:Cfg:=tablesB Tryz.prog 9 ovs ovbs exts owns true muts
end Go.Proofs.YtnlndhjfmghajaaGreatDoor
