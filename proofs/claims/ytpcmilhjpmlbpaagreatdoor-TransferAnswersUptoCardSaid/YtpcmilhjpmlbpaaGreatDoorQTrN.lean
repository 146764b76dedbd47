import Derived.Test.YtpcmilhjpmlbpaaGreatDoorQCpR
namespace Go.Proofs.YtpcmilhjpmlbpaaGreatDoor
open Go.RowKit Go.Shelf nm od
namespace tr
def idI (id:Int):Int:=if id<0∨65535<id then 23 else 0
def YJ (qg:ByteArray)(id:Int):Int:=if qo qg=false then 1 else idI id
end tr
@[reducible] def hdI (id:Int):Hd:=⟨id,false,0,false,false,false,false,false,false,0⟩
@[reducible] def qX:Value:=.slice none 0 0
def AskMsg (name:ByteArray)(t id:Int)(au:List Rec)(w:World)(e:Ending)(w':World):Prop:=∃g u,e= .returned (.tuple #[yZ (hdI id) (.slice (some ⟨g,0,none⟩) 1 1) qX u qX,.int .i64 0])∧Below w.heap.size w w'∧
 yu w' (.slice (some ⟨g,0,none⟩) 1 1) [⟨name,t,1⟩]∧qm w' u au∧yz u
def xG (c:Int)(name:ByteArray)(t id:Int)(au:List Rec)(w:World)(e:Ending)(w':World):Prop:=
 (c≠0∧e= .returned (.tuple #[yZ hd0 qX qX qX qX,.int .i64 c])∧Below w.heap.size w w')∨(c=0∧AskMsg name t id au w e w')
end Go.Proofs.YtpcmilhjpmlbpaaGreatDoor
