/- The abstract machine's tables for this program, alone (Seat shows that they are the .. -/
import Derived.Test.YtfgbpngakkhdcaaGreatDoorAmSeat
import Derived.Test.YtfgbpngakkhdcaaGreatDoorProg
import Derived.Test.YtfgbpngakkhdcaaGreatDoorStrM
import Derived.Lib.IndexBytes
import Derived.Lib.AppendIntMem
import Derived.Lib.ItoaLen
import Derived.Lib.IndexAny
import Derived.Lib.Fields
set_option linter.all false
set_option linter.all false
namespace Go.Proofs.YtfgbpngakkhdcaaGreatDoor
open Go.Am
def BO:List AV->Option AV
 | [.int .i64 n]=>if -9223372036854775808<=n∧n<=9223372036854775807 then some (.str (Lib.itoa n)) else none
 | _=>none
def D9:List AV->Option AV
 | [.str s,.str t]=>if s.length<4294967281 then some (.int .i64 (Lib.index s t)) else none
 | _=>none
def Ak:List AV->Option AV
 | [.str s,.int .u8 c]=>some (.int .i64 (Lib.indexByte s c.toNat.toUInt8))
 | _=>none
def Ao:List AV->Option AV
 | [.str s,.int .u8 c]=>some (.int .i64 (Lib.countByte s c.toNat.toUInt8))
 | _=>none
def JF:List AV->Option AV
 | [x]=>some x
 | _=>none
def eR:List AV->List ad->Option (AV×List ad)
 | [.str s],bs=>if s.length<4294967281∧(s.all fun b=>decide (b.toNat<128))=true then
   (match Lib.fields s with
   | []=>some (.cv (some false),bs++ [.var 9 []])
   | x::r=>some (.ax bs.length (r.length+1),bs++ [.sl ⟨false,some 9,none⟩ 1 ((x::r).map .str)])) else none
 | _,_=>none
def nH:List AV->Option AV
 | [.str _,.str s,.int .i64 _,.int .i64 _,.ma t .i64 n]=>if s.length<=281474976710656∧t=249∧(n=1∨n=2) then some (.gR true) else none
 | _=>none
def nf (r:Cell×List UInt8):AV:= .agg [.int .i64 r.1.1,.int .i64 r.1.2,.str r.2]
def zV:List AV->Option (List (Cell×List UInt8))
 | []=>some []
 | .agg [.int .i64 a,.int .i64 b,.str s]::r=>match zV r with
  | some l=>some (((a,b),s)::l)
  | none=>none
 | _=>none
theorem zP: ∀l:List (Cell×List UInt8),zV (l.map nf)=some l
 | []=>rfl
 | x::r=>by simp [zV,nf,zP r]
def q8 (l:List (Cell×List UInt8)):List (Cell×List UInt8):=l.mergeSort fun x y=> !decide (gr y.1 x.1<0)
def vL:List AV->List ad->Option (AV×List ad)
 | [.ax k n,.fn f [] []],bs=>if f=115 then (match ad.at bs k with
  | .sl sh sz es=>match zV es with
   | some l=>if n=l.length∧l≠ []∧l.length<1000000∧sz=3∧sh.out=false∧sh.ty=some 99∧(l.map Prod.fst).Nodup then some (.aL [],bs.set k (.sl ⟨sh.out,sh.ty,none⟩ 3 ((q8 l).map nf))) else none
   | none=>none
  | _=>none) else none
 | _,_=>none
def x5 (l:List Cell):List Cell:=l.mergeSort fun x y=> !decide (gr y x<0)
def OC (r:Cell):AV:= .agg [.int .i64 r.1,.int .i64 r.2]
def x4:List AV->Option (List Cell)
 | []=>some []
 | .agg [.int .i64 a,.int .i64 b]::r=>match x4 r with
  | some l=>some ((a,b)::l)
  | none=>none
 | _=>none
theorem zZ: ∀l:List Cell,x4 (l.map OC)=some l
 | []=>rfl
 | x::r=>by simp [x4,OC,zZ r]
def Bt:List AV->List ad->Option (AV×List ad)
 | [.ax k n,.fn f [] []],bs=>if f=58 then (match ad.at bs k with
  | .sl sh sz es=>match x4 es with
   | some l=>if n=l.length∧l≠ []∧l.length<1000000∧sz=2∧sh.out=false∧sh.ty=some 78∧l.Nodup then some (.aL [],bs.set k (.sl ⟨sh.out,sh.ty,none⟩ 2 ((x5 l).map OC))) else none
   | none=>none
  | _=>none) else none
 | _,_=>none
def Bu (n:Nat) (sh:Hd) (sz:Nat) (es r:List AV):Option AV:=
 match r with
 | [.int .i64 i,.int .i64 j]=>if n=es.length∧0<=i∧i<n∧j=i+1∧sz=3∧sh.out=false∧sh.ty=some 99∧n<1000000 then some (.ag none 3 (es.take i.toNat++es.drop (i.toNat+1))) else none
 | _=>none
def GF (f:FuncId):Option (List AV->Option AV):=if f=92 then some BO else if f=186 then some D9 else if f=197 then some nH else none
def qV (f:FuncId):Option (List AV->List ad->Option (AV×List ad)):=if f=180 then some eR else if f=114 then some vL else if f=57 then some Bt else none
def OQ (_f:FuncId):Bool:=(decide (_f=34) || (decide (_f=79) || decide (_f=13)))
def iW (_f:FuncId):Bool:=(decide (_f=114) || (decide (_f=57) || decide (_f=78)))
def OR (_f:FuncId):Bool:=decide (_f=16)
def I8 (f:FuncId):Option (Nat->Hd->Nat->List AV->List AV->Option AV):=if f=78 then some Bu else none
def exts (f:FuncId):Option (List AV->Option AV):=if f=224 then some Ak else if f=222 then some JF else if f=144 then some Ao else none
noncomputable def cfg:av:=pe Tryz.prog 9 GF qV exts OQ true iW OR I8
end Go.Proofs.YtfgbpngakkhdcaaGreatDoor
