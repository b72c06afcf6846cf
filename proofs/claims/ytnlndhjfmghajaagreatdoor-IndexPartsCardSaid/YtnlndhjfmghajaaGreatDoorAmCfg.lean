import Derived.Test.YtnlndhjfmghajaaGreatDoorAm
set_option linter.all false
namespace Go.Am
def eqType (P:Program) (t:TypeId):Bool:=
 !P.eqGuardType P.depth t&&match P.underlying t with
 | some (.struct fs)=> !P.stoodInHeld t&&fs.toList.all fun f=>f.name != "_"
 | _=>true
def fieldsOf (P:Program):TypeDesc→List (TypeId×Nat×Nat)
 | .struct fs=>fs.toList.map fun f=>(f.type,f.offset,((P.info? f.type).map (·.size)).getD 0)
 | _=> []
def fieldsOk (P:Program):TypeDesc→Bool
 | .struct fs=>fs.toList.all fun f=>(P.info? f.type).isSome
 | _=>true
def aggD:TypeDesc→Bool
 | .struct _ | .array _ _=>true
 | _=>false
def zvOk:Option Value→Bool→Bool
 | none,_=>true
 | some (.agg _),b=>b
 | some (.tuple _),_=>false
 | some _,b=> !b
def tiOf (P:Program) (t:TypeId):Option TI:=
 match P.info? t,P.underlying t with
 | some i,some d=>if fieldsOk P d=false∨zvOk i.zero (aggD d)=false then none else some {desc:=d,size:=i.size,bytes:=i.bytes,zero:=i.zero.map fun z=>(ofVal z).cells,agg:=aggD d,eq:=eqType P t,fields:=fieldsOf P d}
 | _,_=>none
def Tr.of {α:Type} (f:Nat→Option α):Nat→(Nat→Nat)→Tr (Option α)
 | 0,_=> .lf
 | d+1,g=> .nd (f (g 0)) (Tr.of f d (fun j=>g (2*j+1))) (Tr.of f d (fun j=>g (2*j+2)))
end Go.Am
