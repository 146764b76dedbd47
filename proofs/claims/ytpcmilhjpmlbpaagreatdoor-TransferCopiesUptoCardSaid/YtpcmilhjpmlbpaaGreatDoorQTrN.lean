import Derived.Test.YtpcmilhjpmlbpaaGreatDoorQCpR
import Derived.Test.YtpcmilhjpmlbpaaGreatDoorQTrW
import Derived.Test.YtpcmilhjpmlbpaaGreatDoorQRefA
namespace Go.Proofs.YtpcmilhjpmlbpaaGreatDoor
open Go.RowKit Go.Shelf nm od
namespace tr
def idI (id:Int):Int:=if id<0∨65535<id then 23 else 0
def ZV (qf:ByteArray)(id:Int):Int:=if qj qf=false then 1 else idI id
end tr
@[reducible] def hdI (id:Int):Hd:=⟨id,false,0,false,false,false,false,false,false,0⟩
@[reducible] def qR:Value:=.slice none 0 0
def AskMsg (name:ByteArray)(t id:Int)(au:List Rec)(w:World)(e:Ending)(w':World):Prop:=∃g u,e= .returned (.tuple #[uj (hdI id) (.slice (some ⟨g,0,none⟩) 1 1) qR u qR,.int .i64 0])∧Below w.heap.size w w'∧
 jL w' (.slice (some ⟨g,0,none⟩) 1 1) [⟨name,t,1⟩]∧qz w' u au∧zZ u
def vI (c:Int)(name:ByteArray)(t id:Int)(au:List Rec)(w:World)(e:Ending)(w':World):Prop:=
 (c≠0∧e= .returned (.tuple #[uj hd0 qR qR qR qR,.int .i64 c])∧Below w.heap.size w w')∨(c=0∧AskMsg name t id au w e w')
end Go.Proofs.YtpcmilhjpmlbpaaGreatDoor
