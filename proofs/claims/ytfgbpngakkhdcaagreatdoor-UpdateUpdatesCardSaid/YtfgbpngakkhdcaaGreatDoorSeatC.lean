/- The abstract machine's tables for this program, alone (Seat shows that they are the .. -/
import Derived.Test.YtfgbpngakkhdcaaGreatDoorAmSeat
import Derived.Test.YtfgbpngakkhdcaaGreatDoorProg
import Derived.Test.YtfgbpngakkhdcaaGreatDoorStrM
import Derived.Lib.IndexBytes
import Derived.Lib.AppendIntMem
import Derived.Lib.ItoaLen
import Derived.Lib.IndexAny
import Derived.Lib.Fields
open List renaming length->É
open Bool renaming false->o
open Go renaming FuncId->m
open Option renaming none->g,some->h
open _root_ renaming List->e,Option->d,UInt8->p
set_option linter.all false
set_option linter.all false
namespace Go.Proofs.YtfgbpngakkhdcaaGreatDoor
open Go.Am
def oL:e AV->d AV
 | [.int .i64 n]=>if -9223372036854775808<=n/\n<=9223372036854775807 then h (.str (Lib.itoa n)) else g
 | _=>g
def FY:e AV->d AV
 | [.str s,.str t]=>if (É s)<4294967281 then h (.int .i64 (Lib.index s t)) else g
 | _=>g
def Cg:e AV->d AV
 | [.str s,.int .u8 c]=>h (.int .i64 (Lib.indexByte s c.toNat.toUInt8))
 | _=>g
def Ci:e AV->d AV
 | [.str s,.int .u8 c]=>h (.int .i64 (Lib.countByte s c.toNat.toUInt8))
 | _=>g
def Mk:e AV->d AV
 | [x]=>h x
 | _=>g
def ff:e AV->e af->d (AV×e af)
 | [.str s],bs=>if (É s)<4294967281/\(s.all fun b=>decide (b.toNat<128))=true then
   (match Lib.fields s with
   | []=>h (.cG (h o),bs++ [.var 9 []])
   | x::r=>h (.aC (É bs) (É r+1),bs++ [.sl ⟨o,h 9,g⟩ 1 ((x::r).map .str)])) else g
 | _,_=>g
def oN:e AV->d AV
 | [.str _,.str s,.int .i64 _,.int .i64 _,.mG t .i64 n]=>if (É s)<=281474976710656/\t=249/\(n=1\/n=2) then h (.il true) else g
 | _=>g
def lR (r:Cell×e p):AV:= .agg [.int .i64 r.1.1,.int .i64 r.1.2,.str r.2]
def BG:e AV->d (e (Cell×e p))
 | []=>h []
 | .agg [.int .i64 a,.int .i64 b,.str s]::r=>match BG r with
  | some l=>h (((a,b),s)::l)
  | none=>g
 | _=>g
theorem BA: ∀l:e (Cell×e p),BG (l.map lR)=h l
 | []=>rfl
 | x::r=>by simp [BG,lR,BA r]
def sJ (l:e (Cell×e p)):e (Cell×e p):=l.mergeSort fun x y=> !decide (gS y.1 x.1<0)
def xk:e AV->e af->d (AV×e af)
 | [.aC k n,.fn f [] []],bs=>if f=115 then (match af.at bs k with
  | .sl sh sz es=>match BG es with
   | some l=>if n=É l/\l≠ []/\É l<1000000/\sz=3/\sh.out=o/\sh.ty=h 99/\(l.map Prod.fst).Nodup then h (.aK [],bs.set k (.sl ⟨sh.out,sh.ty,g⟩ 3 ((sJ l).map lR))) else g
   | none=>g
  | _=>g) else g
 | _,_=>g
def zs (l:e Cell):e Cell:=l.mergeSort fun x y=> !decide (gS y x<0)
def Rk (r:Cell):AV:= .agg [.int .i64 r.1,.int .i64 r.2]
def zr:e AV->d (e Cell)
 | []=>h []
 | .agg [.int .i64 a,.int .i64 b]::r=>match zr r with
  | some l=>h ((a,b)::l)
  | none=>g
 | _=>g
theorem BU: ∀l:e Cell,zr (l.map Rk)=h l
 | []=>rfl
 | x::r=>by simp [zr,Rk,BU r]
def Du:e AV->e af->d (AV×e af)
 | [.aC k n,.fn f [] []],bs=>if f=58 then (match af.at bs k with
  | .sl sh sz es=>match zr es with
   | some l=>if n=É l/\l≠ []/\É l<1000000/\sz=2/\sh.out=o/\sh.ty=h 78/\l.Nodup then h (.aK [],bs.set k (.sl ⟨sh.out,sh.ty,g⟩ 2 ((zs l).map Rk))) else g
   | none=>g
  | _=>g) else g
 | _,_=>g
def Dv (n:Nat) (sh:Hd) (sz:Nat) (es r:e AV):d AV:=
 match r with
 | [.int .i64 i,.int .i64 j]=>if n=É es/\0<=i/\i<n/\j=i+1/\sz=3/\sh.out=o/\sh.ty=h 99/\n<1000000 then h (.ah g 3 (es.take i.toNat++es.drop (i.toNat+1))) else g
 | _=>g
def L5 (f:m):d (e AV->d AV):=if f=92 then h oL else if f=186 then h FY else if f=197 then h oN else g
def wL (f:m):d (e AV->e af->d (AV×e af)):=if f=180 then h ff else if f=114 then h xk else if f=57 then h Du else g
def RO (_f:m):Bool:=(decide (_f=34) || (decide (_f=79) || decide (_f=13)))
def kg (_f:m):Bool:=(decide (_f=114) || (decide (_f=57) || decide (_f=78)))
def RP (_f:m):Bool:=decide (_f=16)
def Lz (f:m):d (Nat->Hd->Nat->e AV->e AV->d AV):=if f=78 then h Dv else g
def exts (f:m):d (e AV->d AV):=if f=224 then h Cg else if f=222 then h Mk else if f=144 then h Ci else g
noncomputable def cfg:aD:=qp Tryz.prog 9 L5 wL exts RO true kg RP Lz
